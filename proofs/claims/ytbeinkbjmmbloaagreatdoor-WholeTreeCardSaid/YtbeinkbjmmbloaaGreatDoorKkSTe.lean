/- Printed by a tool of this project (KkGen): the program's functions come to the plain ones. -/
import Derived.Test.YtbeinkbjmmbloaaGreatDoorKkSTd
namespace Go.Kk.KkST
noncomputable section
open Go.Proofs Go.Kk.Pl
set_option maxRecDepth 100000
set_option maxHeartbeats 4000000
def qRi : Ex -> List V -> List Obj -> Option ((Bool × Int × Nat × Nat × Int × Int × Nat × LI × LI × LI × Int × Int × Nat × Nat × LL × Nat × LI × LI × LI × Int × LL × LL × Nat × LL) ⊕ (Int × Nat × Nat × Int × Int × Nat × LI × LI × LI × Int × Int × Nat × Nat × LL × Nat × LI × LI × LI × Int × LL × LL × Nat × LL)) := fun e vs objs => match e, vs, objs with
 | .ret, [.s (.ptr 1 0 none 0), .s (.b y0), .s (.ptr 2 0 none 0), .s (.i .i64 y1), .s (.sl 3 0 y2 true), .s (.sl 4 0 y3 true), .s (.i .i64 y4), .s (.i .i64 y5)], [.sli 3 true (.arr .i64 y6 y7), .cells 28 [.arr .i8 81 y8, .arr .i8 16 y9, .one [.i .i8 y10]], .cells 43 [.one [.ptr 5 0 none 0, .i .u64 y11, .sl 6 0 y12 true]], .sli 53 false (.rows [.i .i64, .i .i64, .i .i64, .b] y13 y14), .sli 3 false (.arr .i64 y15 y16), .cells 49 [.arr .i8 81 y17, .arr .i8 16 y18, .one [.i .i8 y19], .rows [.i .u64, .i .u64] 32 y20, .rows [.i .u64, .i .u64] 2 y21], .sli 87 false (.rows [.i .i64, .i .i64, .i .i64, .b, .i .i8, .i .i8] y22 y23)] => some (.inl (y0, y1, y2, y3, y4, y5, y6, y7, y8, y9, y10, y11, y12, y13, y14, y15, y16, y17, y18, y19, y20, y21, y22, y23))
 | .exit 2, [.s (.ptr 1 0 none 0), .s .bad, .s (.ptr 2 0 none 0), .s (.i .i64 y0), .s (.sl 3 0 y1 true), .s (.sl 4 0 y2 true), .s (.i .i64 y3), .s (.i .i64 y4)], [.sli 3 true (.arr .i64 y5 y6), .cells 28 [.arr .i8 81 y7, .arr .i8 16 y8, .one [.i .i8 y9]], .cells 43 [.one [.ptr 5 0 none 0, .i .u64 y10, .sl 6 0 y11 true]], .sli 53 false (.rows [.i .i64, .i .i64, .i .i64, .b] y12 y13), .sli 3 false (.arr .i64 y14 y15), .cells 49 [.arr .i8 81 y16, .arr .i8 16 y17, .one [.i .i8 y18], .rows [.i .u64, .i .u64] 32 y19, .rows [.i .u64, .i .u64] 2 y20], .sli 87 false (.rows [.i .i64, .i .i64, .i .i64, .b, .i .i8, .i .i8] y21 y22)] => some (.inr (y0, y1, y2, y3, y4, y5, y6, y7, y8, y9, y10, y11, y12, y13, y14, y15, y16, y17, y18, y19, y20, y21, y22))
 | _, _, _ => none
def qRn : Ex -> List V -> List Obj -> Option ((Bool × Nat × LI × LI × LI × Int × Int × Nat × LI × LI × Int × LL × LL × Nat × LL) ⊕ (Nat × LI × LI × LI × Int × Int × Nat × LI × LI × Int × LL × LL × Nat × LL)) := fun e vs objs => match e, vs, objs with
 | .ret, [.s (.ptr 1 0 none 0), .s (.b y0), .s (.ptr 2 0 none 0)], [.sli 3 true (.arr .i64 y1 y2), .cells 28 [.arr .i8 81 y3, .arr .i8 16 y4, .one [.i .i8 y5]], .cells 43 [.one [.ptr 3 0 none 0, .i .u64 y6, .sl 4 0 y7 true]], .cells 49 [.arr .i8 81 y8, .arr .i8 16 y9, .one [.i .i8 y10], .rows [.i .u64, .i .u64] 32 y11, .rows [.i .u64, .i .u64] 2 y12], .sli 87 false (.rows [.i .i64, .i .i64, .i .i64, .b, .i .i8, .i .i8] y13 y14)] => some (.inl (y0, y1, y2, y3, y4, y5, y6, y7, y8, y9, y10, y11, y12, y13, y14))
 | .exit 0, [.s (.ptr 1 0 none 0), .s .bad, .s (.ptr 2 0 none 0)], [.sli 3 true (.arr .i64 y0 y1), .cells 28 [.arr .i8 81 y2, .arr .i8 16 y3, .one [.i .i8 y4]], .cells 43 [.one [.ptr 3 0 none 0, .i .u64 y5, .sl 4 0 y6 true]], .cells 49 [.arr .i8 81 y7, .arr .i8 16 y8, .one [.i .i8 y9], .rows [.i .u64, .i .u64] 32 y10, .rows [.i .u64, .i .u64] 2 y11], .sli 87 false (.rows [.i .i64, .i .i64, .i .i64, .b, .i .i8, .i .i8] y12 y13)] => some (.inr (y0, y1, y2, y3, y4, y5, y6, y7, y8, y9, y10, y11, y12, y13))
 | _, _, _ => none
def qRk : Ex -> List V -> List Obj -> Option (Nat × LI × LI × LI × Int × Int × Nat × LI × LI × Int × LL × LL × Nat × LL) := fun e vs objs => match e, vs, objs with
 | .exit 4, [.s (.ptr 1 0 none 0), .s (.ptr 2 0 none 0)], [.sli 3 true (.arr .i64 y0 y1), .cells 28 [.arr .i8 81 y2, .arr .i8 16 y3, .one [.i .i8 y4]], .cells 43 [.one [.ptr 3 0 none 0, .i .u64 y5, .sl 4 0 y6 true]], .cells 49 [.arr .i8 81 y7, .arr .i8 16 y8, .one [.i .i8 y9], .rows [.i .u64, .i .u64] 32 y10, .rows [.i .u64, .i .u64] 2 y11], .sli 87 false (.rows [.i .i64, .i .i64, .i .i64, .b, .i .i8, .i .i8] y12 y13)] => some (y0, y1, y2, y3, y4, y5, y6, y7, y8, y9, y10, y11, y12, y13)
 | _, _, _ => none
def qRp : HL := fun vs objs K => match vs, objs with
 | [.s (.ptr 1 0 none 0), .s (.ptr 2 0 none 0), .s (.i .i64 x0), .s (.ptr 3 0 none 0), .s (.sl 4 0 x1 true), .s (.sl 5 0 x2 true), .s (.mp 6), .s (.sl 7 0 x3 true), .s (.i .i64 x4), .s (.i .i64 x5), .s (.sl 4 0 x6 true), .s (.i .i64 x7), .s (.i .i64 x8)], [.sli 3 true (.arr .i64 x9 x10), .cells 28 [.arr .i8 81 x11, .arr .i8 16 x12, .one [.i .i8 x13]], .cells 43 [.one [.ptr 8 0 none 0, .i .u64 x14, .sl 9 0 x15 true]], .cells 28 [.arr .i8 81 x16, .arr .i8 16 x17, .one [.i .i8 x18]], .sli 53 false (.rows [.i .i64, .i .i64, .i .i64, .b] x19 x20), .sli 53 false (.rows [.i .i64, .i .i64, .i .i64, .b] x21 x22), .map false false [CK.s] [.b] x23, .sli 3 false (.arr .i64 x24 x25), .cells 49 [.arr .i8 81 x26, .arr .i8 16 x27, .one [.i .i8 x28], .rows [.i .u64, .i .u64] 32 x29, .rows [.i .u64, .i .u64] 2 x30], .sli 87 false (.rows [.i .i64, .i .i64, .i .i64, .b, .i .i8, .i .i8] x31 x32)] => ob (qDr qC x0 x1 x2 x3 x4 x5 x6 x7 x8 x9 x10 x11 x12 x13 x14 x15 x16 x17 x18 x19 x20 x21 x22 x23 x24 x25 x26 x27 x28 x29 x30 x31 x32) fun t0 => sw t0 (fun z => K (.ret) ([.s (.ptr 1 0 none 0), .s (.b (z.1)), .s (.ptr 2 0 none 0), .s (.i .i64 (z.2.1)), .s (.sl 3 0 (z.2.2.1) true), .s (.sl 4 0 (z.2.2.2.1) true), .s (.i .i64 (z.2.2.2.2.1)), .s (.i .i64 (z.2.2.2.2.2.1))]) ([.sli 3 true (.arr .i64 (z.2.2.2.2.2.2.1) (z.2.2.2.2.2.2.2.1)), .cells 28 [.arr .i8 81 (z.2.2.2.2.2.2.2.2.1), .arr .i8 16 (z.2.2.2.2.2.2.2.2.2.1), .one [.i .i8 (z.2.2.2.2.2.2.2.2.2.2.1)]], .cells 43 [.one [.ptr 5 0 none 0, .i .u64 (z.2.2.2.2.2.2.2.2.2.2.2.1), .sl 6 0 (z.2.2.2.2.2.2.2.2.2.2.2.2.1) true]], .sli 53 false (.rows [.i .i64, .i .i64, .i .i64, .b] (z.2.2.2.2.2.2.2.2.2.2.2.2.2.1) (z.2.2.2.2.2.2.2.2.2.2.2.2.2.2.1)), .sli 3 false (.arr .i64 (z.2.2.2.2.2.2.2.2.2.2.2.2.2.2.2.1) (z.2.2.2.2.2.2.2.2.2.2.2.2.2.2.2.2.1)), .cells 49 [.arr .i8 81 (z.2.2.2.2.2.2.2.2.2.2.2.2.2.2.2.2.2.1), .arr .i8 16 (z.2.2.2.2.2.2.2.2.2.2.2.2.2.2.2.2.2.2.1), .one [.i .i8 (z.2.2.2.2.2.2.2.2.2.2.2.2.2.2.2.2.2.2.2.1)], .rows [.i .u64, .i .u64] 32 (z.2.2.2.2.2.2.2.2.2.2.2.2.2.2.2.2.2.2.2.2.1), .rows [.i .u64, .i .u64] 2 (z.2.2.2.2.2.2.2.2.2.2.2.2.2.2.2.2.2.2.2.2.2.1)], .sli 87 false (.rows [.i .i64, .i .i64, .i .i64, .b, .i .i8, .i .i8] (z.2.2.2.2.2.2.2.2.2.2.2.2.2.2.2.2.2.2.2.2.2.2.1) (z.2.2.2.2.2.2.2.2.2.2.2.2.2.2.2.2.2.2.2.2.2.2.2))])) (fun z => K (.exit 2) ([.s (.ptr 1 0 none 0), .s .bad, .s (.ptr 2 0 none 0), .s (.i .i64 (z.1)), .s (.sl 3 0 (z.2.1) true), .s (.sl 4 0 (z.2.2.1) true), .s (.i .i64 (z.2.2.2.1)), .s (.i .i64 (z.2.2.2.2.1))]) ([.sli 3 true (.arr .i64 (z.2.2.2.2.2.1) (z.2.2.2.2.2.2.1)), .cells 28 [.arr .i8 81 (z.2.2.2.2.2.2.2.1), .arr .i8 16 (z.2.2.2.2.2.2.2.2.1), .one [.i .i8 (z.2.2.2.2.2.2.2.2.2.1)]], .cells 43 [.one [.ptr 5 0 none 0, .i .u64 (z.2.2.2.2.2.2.2.2.2.2.1), .sl 6 0 (z.2.2.2.2.2.2.2.2.2.2.2.1) true]], .sli 53 false (.rows [.i .i64, .i .i64, .i .i64, .b] (z.2.2.2.2.2.2.2.2.2.2.2.2.1) (z.2.2.2.2.2.2.2.2.2.2.2.2.2.1)), .sli 3 false (.arr .i64 (z.2.2.2.2.2.2.2.2.2.2.2.2.2.2.1) (z.2.2.2.2.2.2.2.2.2.2.2.2.2.2.2.1)), .cells 49 [.arr .i8 81 (z.2.2.2.2.2.2.2.2.2.2.2.2.2.2.2.2.1), .arr .i8 16 (z.2.2.2.2.2.2.2.2.2.2.2.2.2.2.2.2.2.1), .one [.i .i8 (z.2.2.2.2.2.2.2.2.2.2.2.2.2.2.2.2.2.2.1)], .rows [.i .u64, .i .u64] 32 (z.2.2.2.2.2.2.2.2.2.2.2.2.2.2.2.2.2.2.2.1), .rows [.i .u64, .i .u64] 2 (z.2.2.2.2.2.2.2.2.2.2.2.2.2.2.2.2.2.2.2.2.1)], .sli 87 false (.rows [.i .i64, .i .i64, .i .i64, .b, .i .i8, .i .i8] (z.2.2.2.2.2.2.2.2.2.2.2.2.2.2.2.2.2.2.2.2.2.1) (z.2.2.2.2.2.2.2.2.2.2.2.2.2.2.2.2.2.2.2.2.2.2))]))
 | _, _ => none
def qRr : HL := fun vs objs K => match vs, objs with
 | [.s (.ptr 1 0 none 0), .s (.ptr 2 0 none 0), .s (.sl 3 0 x0 true), .s (.i .i64 x1), .s (.i .i64 x2)], [.sli 3 true (.arr .i64 x3 x4), .cells 28 [.arr .i8 81 x5, .arr .i8 16 x6, .one [.i .i8 x7]], .cells 43 [.one [.ptr 4 0 none 0, .i .u64 x8, .sl 5 0 x9 true]], .sli 3 false (.arr .i64 x10 x11), .cells 49 [.arr .i8 81 x12, .arr .i8 16 x13, .one [.i .i8 x14], .rows [.i .u64, .i .u64] 32 x15, .rows [.i .u64, .i .u64] 2 x16], .sli 87 false (.rows [.i .i64, .i .i64, .i .i64, .b, .i .i8, .i .i8] x17 x18)] => ob (qCV qC x0 x1 x2 x3 x4 x5 x6 x7 x8 x9 x10 x11 x12 x13 x14 x15 x16 x17 x18) fun t0 => sw t0 (fun z => K (.ret) ([.s (.ptr 1 0 none 0), .s (.b (z.1)), .s (.ptr 2 0 none 0)]) ([.sli 3 true (.arr .i64 (z.2.1) (z.2.2.1)), .cells 28 [.arr .i8 81 (z.2.2.2.1), .arr .i8 16 (z.2.2.2.2.1), .one [.i .i8 (z.2.2.2.2.2.1)]], .cells 43 [.one [.ptr 3 0 none 0, .i .u64 (z.2.2.2.2.2.2.1), .sl 4 0 (z.2.2.2.2.2.2.2.1) true]], .cells 49 [.arr .i8 81 (z.2.2.2.2.2.2.2.2.1), .arr .i8 16 (z.2.2.2.2.2.2.2.2.2.1), .one [.i .i8 (z.2.2.2.2.2.2.2.2.2.2.1)], .rows [.i .u64, .i .u64] 32 (z.2.2.2.2.2.2.2.2.2.2.2.1), .rows [.i .u64, .i .u64] 2 (z.2.2.2.2.2.2.2.2.2.2.2.2.1)], .sli 87 false (.rows [.i .i64, .i .i64, .i .i64, .b, .i .i8, .i .i8] (z.2.2.2.2.2.2.2.2.2.2.2.2.2.1) (z.2.2.2.2.2.2.2.2.2.2.2.2.2.2))])) (fun z => K (.exit 0) ([.s (.ptr 1 0 none 0), .s .bad, .s (.ptr 2 0 none 0)]) ([.sli 3 true (.arr .i64 (z.1) (z.2.1)), .cells 28 [.arr .i8 81 (z.2.2.1), .arr .i8 16 (z.2.2.2.1), .one [.i .i8 (z.2.2.2.2.1)]], .cells 43 [.one [.ptr 3 0 none 0, .i .u64 (z.2.2.2.2.2.1), .sl 4 0 (z.2.2.2.2.2.2.1) true]], .cells 49 [.arr .i8 81 (z.2.2.2.2.2.2.2.1), .arr .i8 16 (z.2.2.2.2.2.2.2.2.1), .one [.i .i8 (z.2.2.2.2.2.2.2.2.2.1)], .rows [.i .u64, .i .u64] 32 (z.2.2.2.2.2.2.2.2.2.2.1), .rows [.i .u64, .i .u64] 2 (z.2.2.2.2.2.2.2.2.2.2.2.1)], .sli 87 false (.rows [.i .i64, .i .i64, .i .i64, .b, .i .i8, .i .i8] (z.2.2.2.2.2.2.2.2.2.2.2.2.1) (z.2.2.2.2.2.2.2.2.2.2.2.2.2))]))
 | _, _ => none
def qRq : HL := fun vs objs K => match vs, objs with
 | [.s (.ptr 1 0 none 0), .s (.ptr 2 0 none 0)], [.sli 3 true (.arr .i64 x0 x1), .cells 28 [.arr .i8 81 x2, .arr .i8 16 x3, .one [.i .i8 x4]], .cells 43 [.one [.ptr 3 0 none 0, .i .u64 x5, .sl 4 0 x6 true]], .cells 49 [.arr .i8 81 x7, .arr .i8 16 x8, .one [.i .i8 x9], .rows [.i .u64, .i .u64] 32 x10, .rows [.i .u64, .i .u64] 2 x11], .sli 87 false (.rows [.i .i64, .i .i64, .i .i64, .b, .i .i8, .i .i8] x12 x13)] => ob (qIV qC x0 x1 x2 x3 x4 x5 x6 x7 x8 x9 x10 x11 x12 x13) fun z => K (.exit 4) ([.s (.ptr 1 0 none 0), .s (.ptr 2 0 none 0)]) ([.sli 3 true (.arr .i64 (z.1) (z.2.1)), .cells 28 [.arr .i8 81 (z.2.2.1), .arr .i8 16 (z.2.2.2.1), .one [.i .i8 (z.2.2.2.2.1)]], .cells 43 [.one [.ptr 3 0 none 0, .i .u64 (z.2.2.2.2.2.1), .sl 4 0 (z.2.2.2.2.2.2.1) true]], .cells 49 [.arr .i8 81 (z.2.2.2.2.2.2.2.1), .arr .i8 16 (z.2.2.2.2.2.2.2.2.1), .one [.i .i8 (z.2.2.2.2.2.2.2.2.2.1)], .rows [.i .u64, .i .u64] 32 (z.2.2.2.2.2.2.2.2.2.2.1), .rows [.i .u64, .i .u64] 2 (z.2.2.2.2.2.2.2.2.2.2.2.1)], .sli 87 false (.rows [.i .i64, .i .i64, .i .i64, .b, .i .i8, .i .i8] (z.2.2.2.2.2.2.2.2.2.2.2.2.1) (z.2.2.2.2.2.2.2.2.2.2.2.2.2))])
 | _, _ => none
def qp3 : {R : Type} -> Nat -> List V -> List Obj -> (Ex -> List V -> List Obj -> Option R) -> Option R := fun q vs objs K => bif Nat.beq q 16 then qRp vs objs K else bif Nat.beq q 7 then qRr vs objs K else bif Nat.beq q 31 then qRq vs objs K else none
def qFt : Ctx := mkC 188 ((qUF (qWo (qT3 (qOf (qUB (qUJ (qW3 (qXB (qaO (qUZ (qSI (qOw (qIh (qTP qL))))))))))))))) [(7, [2, 5, 39, 40, 41], [2, 4, 5]), (16, [2, 5, 7, 8, 9, 10, 11, 39, 40, 41, 65, 66, 67], [2, 4, 5, 7, 9, 39, 40, 41]), (31, [2, 5], [2, 5])] qp3
theorem qJv : CtxOK Tryz.prog qFt := mkC_ok ((qgB _ (qiv _ (qf2 _ (qVp _ (qf8 _ (qgE _ (qjD _ (qjK _ (qnA _ (qgN _ (qdg _ (qWD _ (qKJ _ (qeu _ qN)))))))))))))))
def qRj (f : Nat) (x0 : Int) (x1 x2 x3 : Nat) (x4 x5 : Int) (x6 : Nat) (x7 x8 : Int) (x9 : Nat) (x10 x11 x12 : LI) (x13 x14 : Int) (x15 : Nat) (x16 x17 : LI) (x18 : Int) (x19 : Nat) (x20 : LL) (x21 : Nat) (x22 : LL) (x23 : List (LI × LI)) (x24 : Nat) (x25 x26 x27 : LI) (x28 : Int) (x29 x30 : LL) (x31 : Nat) (x32 : LL) : Option ((Bool × Int × Nat × Nat × Int × Int × Nat × LI × LI × LI × Int × Int × Nat × Nat × LL × Nat × LI × LI × LI × Int × LL × LL × Nat × LL) ⊕ (Int × Nat × Nat × Int × Int × Nat × LI × LI × LI × Int × Int × Nat × Nat × LL × Nat × LI × LI × LI × Int × LL × LL × Nat × LL)) := qh qFt 1 [2, 5, 7, 8, 9, 10, 11, 39, 40, 41, 65, 66, 67] [2, 4, 5, 7, 9, 39, 40, 41] (qG Tryz.f3 16) f ([.s (.ptr 1 0 none 0), .s (.ptr 2 0 none 0), .s (.i .i64 x0), .s (.ptr 3 0 none 0), .s (.sl 4 0 x1 true), .s (.sl 5 0 x2 true), .s (.mp 6), .s (.sl 7 0 x3 true), .s (.i .i64 x4), .s (.i .i64 x5), .s (.sl 4 0 x6 true), .s (.i .i64 x7), .s (.i .i64 x8)]) ([.sli 3 true (.arr .i64 x9 x10), .cells 28 [.arr .i8 81 x11, .arr .i8 16 x12, .one [.i .i8 x13]], .cells 43 [.one [.ptr 8 0 none 0, .i .u64 x14, .sl 9 0 x15 true]], .cells 28 [.arr .i8 81 x16, .arr .i8 16 x17, .one [.i .i8 x18]], .sli 53 false (.rows [.i .i64, .i .i64, .i .i64, .b] x19 x20), .sli 53 false (.rows [.i .i64, .i .i64, .i .i64, .b] x21 x22), .map false false [CK.s] [.b] x23, .sli 3 false (.arr .i64 x24 x25), .cells 49 [.arr .i8 81 x26, .arr .i8 16 x27, .one [.i .i8 x28], .rows [.i .u64, .i .u64] 32 x29, .rows [.i .u64, .i .u64] 2 x30], .sli 87 false (.rows [.i .i64, .i .i64, .i .i64, .b, .i .i8, .i .i8] x31 x32)]) qRi
theorem qp0 (f : Nat) (x0 : Int) (x1 x2 x3 : Nat) (x4 x5 : Int) (x6 : Nat) (x7 x8 : Int) (x9 : Nat) (x10 x11 x12 : LI) (x13 x14 : Int) (x15 : Nat) (x16 x17 : LI) (x18 : Int) (x19 : Nat) (x20 : LL) (x21 : Nat) (x22 : LL) (x23 : List (LI × LI)) (x24 : Nat) (x25 x26 x27 : LI) (x28 : Int) (x29 x30 : LL) (x31 : Nat) (x32 : LL) : qRj (f + 1) x0 x1 x2 x3 x4 x5 x6 x7 x8 x9 x10 x11 x12 x13 x14 x15 x16 x17 x18 x19 x20 x21 x22 x23 x24 x25 x26 x27 x28 x29 x30 x31 x32 = qMY (qRj f) x0 x1 x2 x3 x4 x5 x6 x7 x8 x9 x10 x11 x12 x13 x14 x15 x16 x17 x18 x19 x20 x21 x22 x23 x24 x25 x26 x27 x28 x29 x30 x31 x32 := by kernel_rfl
theorem qcj : ∀ f, qRj f = qDr f
 | 0 => by funext x0 x1 x2 x3 x4 x5 x6 x7 x8 x9 x10 x11 x12 x13 x14 x15 x16 x17 x18 x19 x20 x21 x22 x23 x24 x25 x26 x27 x28 x29 x30 x31 x32; exact (qDr.eq_1 x0 x1 x2 x3 x4 x5 x6 x7 x8 x9 x10 x11 x12 x13 x14 x15 x16 x17 x18 x19 x20 x21 x22 x23 x24 x25 x26 x27 x28 x29 x30 x31 x32).symm
 | f + 1 => by funext x0 x1 x2 x3 x4 x5 x6 x7 x8 x9 x10 x11 x12 x13 x14 x15 x16 x17 x18 x19 x20 x21 x22 x23 x24 x25 x26 x27 x28 x29 x30 x31 x32; rw [qp0, qcj f]; exact (qDr.eq_2 x0 x1 x2 x3 x4 x5 x6 x7 x8 x9 x10 x11 x12 x13 x14 x15 x16 x17 x18 x19 x20 x21 x22 x23 x24 x25 x26 x27 x28 x29 x30 x31 x32 f).symm
def qRo (f : Nat) (x0 : Nat) (x1 x2 : Int) (x3 : Nat) (x4 x5 x6 : LI) (x7 x8 : Int) (x9 x10 : Nat) (x11 x12 x13 : LI) (x14 : Int) (x15 x16 : LL) (x17 : Nat) (x18 : LL) : Option ((Bool × Nat × LI × LI × LI × Int × Int × Nat × LI × LI × Int × LL × LL × Nat × LL) ⊕ (Nat × LI × LI × LI × Int × Int × Nat × LI × LI × Int × LL × LL × Nat × LL)) := qh qFt 1 [2, 5, 39, 40, 41] [2, 4, 5] (qG Tryz.f3 7) f ([.s (.ptr 1 0 none 0), .s (.ptr 2 0 none 0), .s (.sl 3 0 x0 true), .s (.i .i64 x1), .s (.i .i64 x2)]) ([.sli 3 true (.arr .i64 x3 x4), .cells 28 [.arr .i8 81 x5, .arr .i8 16 x6, .one [.i .i8 x7]], .cells 43 [.one [.ptr 4 0 none 0, .i .u64 x8, .sl 5 0 x9 true]], .sli 3 false (.arr .i64 x10 x11), .cells 49 [.arr .i8 81 x12, .arr .i8 16 x13, .one [.i .i8 x14], .rows [.i .u64, .i .u64] 32 x15, .rows [.i .u64, .i .u64] 2 x16], .sli 87 false (.rows [.i .i64, .i .i64, .i .i64, .b, .i .i8, .i .i8] x17 x18)]) qRn
theorem qp2 (f : Nat) (x0 : Nat) (x1 x2 : Int) (x3 : Nat) (x4 x5 x6 : LI) (x7 x8 : Int) (x9 x10 : Nat) (x11 x12 x13 : LI) (x14 : Int) (x15 x16 : LL) (x17 : Nat) (x18 : LL) : qRo (f + 1) x0 x1 x2 x3 x4 x5 x6 x7 x8 x9 x10 x11 x12 x13 x14 x15 x16 x17 x18 = qMZ (qRo f) x0 x1 x2 x3 x4 x5 x6 x7 x8 x9 x10 x11 x12 x13 x14 x15 x16 x17 x18 := by kernel_rfl
theorem qcl : ∀ f, qRo f = qCV f
 | 0 => rfl
 | f + 1 => by funext x0 x1 x2 x3 x4 x5 x6 x7 x8 x9 x10 x11 x12 x13 x14 x15 x16 x17 x18; rw [qp2, qcl f]; rfl
def qRl (f : Nat) (x0 : Nat) (x1 x2 x3 : LI) (x4 x5 : Int) (x6 : Nat) (x7 x8 : LI) (x9 : Int) (x10 x11 : LL) (x12 : Nat) (x13 : LL) : Option (Nat × LI × LI × LI × Int × Int × Nat × LI × LI × Int × LL × LL × Nat × LL) := qh qFt 1 [2, 5] [2, 5] (qG Tryz.f3 31) f ([.s (.ptr 1 0 none 0), .s (.ptr 2 0 none 0)]) ([.sli 3 true (.arr .i64 x0 x1), .cells 28 [.arr .i8 81 x2, .arr .i8 16 x3, .one [.i .i8 x4]], .cells 43 [.one [.ptr 3 0 none 0, .i .u64 x5, .sl 4 0 x6 true]], .cells 49 [.arr .i8 81 x7, .arr .i8 16 x8, .one [.i .i8 x9], .rows [.i .u64, .i .u64] 32 x10, .rows [.i .u64, .i .u64] 2 x11], .sli 87 false (.rows [.i .i64, .i .i64, .i .i64, .b, .i .i8, .i .i8] x12 x13)]) qRk
theorem qp1 (f : Nat) (x0 : Nat) (x1 x2 x3 : LI) (x4 x5 : Int) (x6 : Nat) (x7 x8 : LI) (x9 : Int) (x10 x11 : LL) (x12 : Nat) (x13 : LL) : qRl (f + 1) x0 x1 x2 x3 x4 x5 x6 x7 x8 x9 x10 x11 x12 x13 = qRm (qRl f) x0 x1 x2 x3 x4 x5 x6 x7 x8 x9 x10 x11 x12 x13 := by kernel_rfl
theorem qck : ∀ f, qRl f = qIV f
 | 0 => rfl
 | f + 1 => by funext x0 x1 x2 x3 x4 x5 x6 x7 x8 x9 x10 x11 x12 x13; rw [qp1, qck f]; rfl
theorem qp5 : qf Tryz.prog qFt 1 (qG Tryz.f3 16) :=
 ql mixed qJv (qT.of (l' := []) (by kernel_rfl) trivial) (q := 16) (kin := [2, 5, 7, 8, 9, 10, 11, 39, 40, 41, 65, 66, 67]) (kout := [2, 4, 5, 7, 9, 39, 40, 41]) (by kernel_rfl) (by kernel_rfl) fun vs objs K r h => by
  replace h : qRp vs objs K = some r := h
  unfold qRp at h
  split at h
  ·skip
   obtain ⟨t, h1, h2⟩ := qE h
   rw [<- qcj] at h1
   refine ⟨_, qRi, t, qC, h1, fun e vs' objs' hd => ?_⟩
   unfold qRi at hd
   split at hd
   ·skip
    cases hd
    exact h2
   ·skip
    cases hd
    exact h2
   ·cases hd
  ·cases h
theorem qcm : qf Tryz.prog qFt 1 (qG Tryz.f3 31) :=
 ql mixed qJv (qT.of (l' := []) (by kernel_rfl) trivial) (q := 31) (kin := [2, 5]) (kout := [2, 5]) (by kernel_rfl) (by kernel_rfl) fun vs objs K r h => by
  replace h : qRq vs objs K = some r := h
  unfold qRq at h
  split at h
  ·skip
   obtain ⟨t, h1, h2⟩ := qE h
   rw [<- qck] at h1
   refine ⟨_, qRk, t, qC, h1, fun e vs' objs' hd => ?_⟩
   unfold qRk at hd;split at hd;(cases hd;exact h2);cases hd
  ·cases h
theorem qcn : qf Tryz.prog qFt 1 (qG Tryz.f3 7) :=
 ql mixed qJv (qT.of (l' := [qG Tryz.f3 16]) (by kernel_rfl) ⟨qp5, trivial⟩) (q := 7) (kin := [2, 5, 39, 40, 41]) (kout := [2, 4, 5]) (by kernel_rfl) (by kernel_rfl) fun vs objs K r h => by
  replace h : qRr vs objs K = some r := h
  unfold qRr at h
  split at h
  ·skip
   obtain ⟨t, h1, h2⟩ := qE h
   rw [<- qcl] at h1
   refine ⟨_, qRn, t, qC, h1, fun e vs' objs' hd => ?_⟩
   unfold qRn at hd
   split at hd
   ·skip
    cases hd
    exact h2
   ·skip
    cases hd
    exact h2
   ·cases hd
  ·cases h
def qRh : V -> List Obj -> Option (Bool) := fun v objs => match v, objs with
 | .s (.b y0), [] => some (y0)
 | _, _ => none
theorem qch (x0 x1 : LI) (x2 : Int) (x3 x4 x5 : Nat) (x6 : LI) : fnE qFt Tryz.f3 ([.agg [.arr .i8 81 x0, .arr .i8 16 x1, .one [.i .i8 x2]], .s (.sl 0 x3 x4 false)]) ([.sli 3 true (.arr .i64 x5 x6)]) (qAa 1 qRh) = qJu x0 x1 x2 x3 x4 x5 x6 := by kernel_rfl
def qci : HA := fun o vs objs K => match vs, List.map Obj.toRO objs with
 | [.agg [.arr .i8 81 x0, .arr .i8 16 x1, .one [.i .i8 x2]], .s (.sl 0 x3 x4 false)], [.sli 3 true (.arr .i64 x5 x6)] => ob (qJu x0 x1 x2 x3 x4 x5 x6) fun y0 => K true (.s (.b y0)) ([])
 | _, _ => o 3 vs objs K
def qp4 (o : Orc) : Orc := qM 3 (qci o) o
theorem qpz {vs : List V} {objs : List Obj} (x0 x1 : LI) (x2 : Int) (x3 x4 x5 : Nat) (x6 : LI) {R : Type} {K : Bool -> V -> List Obj -> Option R} {r : R} (hv : vs = [.agg [.arr .i8 81 x0, .arr .i8 16 x1, .one [.i .i8 x2]], .s (.sl 0 x3 x4 false)]) (ho : List.map Obj.toRO objs = [.sli 3 true (.arr .i64 x5 x6)]) (h : ob (qJu x0 x1 x2 x3 x4 x5 x6) (fun y0 => K true (.s (.b y0)) ([])) = some r) :
  ∃ p v objs', K p v objs' = some r /\ qEm Tryz.prog 3 vs objs p v objs' := by
 subst hv
 obtain ⟨t, h1, h2⟩ := qE h
 refine qAi mixed qJv (m := 1) (fn := Tryz.f3) (b := (Tryz.f3).body.getD .skip) (by kernel_rfl) (by kernel_rfl) (by kernel_rfl) ho (by kernel_rfl) (by kernel_rfl) (qT.of (l' := [qG Tryz.f3 7, qG Tryz.f3 31]) (by kernel_rfl) ⟨qcn, qcm, trivial⟩) ((qch _ _ _ _ _ _ _).trans h1) fun v objs' hd => ?_
 unfold qRh at hd;split at hd;(cases hd;exact h2);cases hd
theorem qqU : OQ Tryz.prog qp4 := fun _ ho => qP ho fun vs objs K r h => by
 unfold qci at h
 split at h
 ·skip
  have hq : List.map Obj.toRO objs = _ := (by rename_i hq; first | exact hq | assumption)
  obtain ⟨t, h1, h2⟩ := qE h
  refine qAi mixed qJv (m := 1) (fn := Tryz.f3) (b := (Tryz.f3).body.getD .skip) (by kernel_rfl) (by kernel_rfl) (by kernel_rfl) hq (by kernel_rfl) (by kernel_rfl) (qT.of (l' := [qG Tryz.f3 7, qG Tryz.f3 31]) (by kernel_rfl) ⟨qcn, qcm, trivial⟩) ((qch _ _ _ _ _ _ _).trans h1) fun v objs' hd => ?_
  unfold qRh at hd;split at hd;(cases hd;exact h2);cases hd
 ·exact ho _ _ _ _ _ h
end
end Go.Kk.KkST
