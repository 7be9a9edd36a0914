/- Printed by a tool of this project (KkGen): the program's functions come to the plain ones. -/
import Derived.Test.YtjjfgpalaegdkaaDoorKkBH
namespace Go.Kk.KkBH
open Go.Proofs Go.Kk.Pl
set_option maxRecDepth 100000
set_option maxHeartbeats 4000000
noncomputable def law05_BoardHoldsl8d : Ex → List V → List Obj → Option (Nat × Nat × Nat × List (List Int) × List Int × List Int × Int × List Int × List Int × Int × List (List Int) × List (List Int) × List Int) := fun e vs objs => match e, vs, objs with
 | .exit 0, [.s (.sl 0 y0 y1 false), .s (.ptr 1 0 none 0), .s (.ptr 2 0 none 0), .s (.ptr 3 0 none 0)], [.sli 36 true (.rows [.i .i64, .i .i8] y2 y3), .cells 28 [.arr .i8 81 y4, .arr .i8 16 y5, .one [.i .i8 y6]], .cells 45 [.arr .i8 81 y7, .arr .i8 16 y8, .one [.i .i8 y9], .rows [.i .u64, .i .u64] 32 y10, .rows [.i .u64, .i .u64] 2 y11], .cells 33 [.arr .i64 81 y12]] => some (y0, y1, y2, y3, y4, y5, y6, y7, y8, y9, y10, y11, y12)
 | _, _, _ => none
noncomputable def law05_BoardHoldsl14d : Ex → List V → List Obj → Option (Nat × List (List Int) × List Int × List Int × Int × List Int × List Int × Int × List (List Int) × List (List Int) × List Int) := fun e vs objs => match e, vs, objs with
 | .exit 2, [.s (.ptr 1 0 none 0), .s (.ptr 2 0 none 0), .s (.ptr 3 0 none 0)], [.sli 36 true (.rows [.i .i64, .i .i8] y0 y1), .cells 28 [.arr .i8 81 y2, .arr .i8 16 y3, .one [.i .i8 y4]], .cells 45 [.arr .i8 81 y5, .arr .i8 16 y6, .one [.i .i8 y7], .rows [.i .u64, .i .u64] 32 y8, .rows [.i .u64, .i .u64] 2 y9], .cells 33 [.arr .i64 81 y10]] => some (y0, y1, y2, y3, y4, y5, y6, y7, y8, y9, y10)
 | _, _, _ => none
noncomputable def law05_BoardHoldsl24d : Ex → List V → List Obj → Option ((Bool × Nat × List (List Int) × List Int × List Int × Int × List Int × List Int × Int × List (List Int) × List (List Int) × List Int × Int × Int) ⊕ (Nat × List (List Int) × List Int × List Int × Int × List Int × List Int × Int × List (List Int) × List (List Int) × List Int × Int × Int)) := fun e vs objs => match e, vs, objs with
 | .ret, [.s (.ptr 1 0 none 0), .s (.b y0), .s (.ptr 2 0 none 0), .s (.ptr 3 0 none 0), .s (.ptr 4 0 none 0)], [.sli 36 true (.rows [.i .i64, .i .i8] y1 y2), .cells 28 [.arr .i8 81 y3, .arr .i8 16 y4, .one [.i .i8 y5]], .cells 45 [.arr .i8 81 y6, .arr .i8 16 y7, .one [.i .i8 y8], .rows [.i .u64, .i .u64] 32 y9, .rows [.i .u64, .i .u64] 2 y10], .cells 33 [.arr .i64 81 y11], .cells 40 [.one [.i .u64 y12, .i .u64 y13]]] => some (.inl (y0, y1, y2, y3, y4, y5, y6, y7, y8, y9, y10, y11, y12, y13))
 | .exit 4, [.s (.ptr 1 0 none 0), .s .bad, .s (.ptr 2 0 none 0), .s (.ptr 3 0 none 0), .s (.ptr 4 0 none 0)], [.sli 36 true (.rows [.i .i64, .i .i8] y0 y1), .cells 28 [.arr .i8 81 y2, .arr .i8 16 y3, .one [.i .i8 y4]], .cells 45 [.arr .i8 81 y5, .arr .i8 16 y6, .one [.i .i8 y7], .rows [.i .u64, .i .u64] 32 y8, .rows [.i .u64, .i .u64] 2 y9], .cells 33 [.arr .i64 81 y10], .cells 40 [.one [.i .u64 y11, .i .u64 y12]]] => some (.inr (y0, y1, y2, y3, y4, y5, y6, y7, y8, y9, y10, y11, y12))
 | _, _, _ => none
noncomputable def law05_BoardHoldsl39d : Ex → List V → List Obj → Option ((Bool × Int × Int × Nat × List (List Int) × List Int × List Int × Int × List Int × List Int × Int × List (List Int) × List (List Int) × List Int × Int × Int × Int × Int × Int × Int) ⊕ (Int × Int × Nat × List (List Int) × List Int × List Int × Int × List Int × List Int × Int × List (List Int) × List (List Int) × List Int × Int × Int × Int × Int × Int × Int)) := fun e vs objs => match e, vs, objs with
 | .ret, [.s (.ptr 1 0 none 0), .s (.b y0), .s (.ptr 2 0 none 0), .s (.ptr 3 0 none 0), .s (.ptr 4 0 none 0), .s (.i .i64 y1), .s (.ptr 5 0 none 0), .s (.i .i64 y2), .s (.ptr 6 0 none 0)], [.sli 36 true (.rows [.i .i64, .i .i8] y3 y4), .cells 28 [.arr .i8 81 y5, .arr .i8 16 y6, .one [.i .i8 y7]], .cells 45 [.arr .i8 81 y8, .arr .i8 16 y9, .one [.i .i8 y10], .rows [.i .u64, .i .u64] 32 y11, .rows [.i .u64, .i .u64] 2 y12], .cells 33 [.arr .i64 81 y13], .cells 40 [.one [.i .u64 y14, .i .u64 y15]], .cells 40 [.one [.i .u64 y16, .i .u64 y17]], .cells 40 [.one [.i .u64 y18, .i .u64 y19]]] => some (.inl (y0, y1, y2, y3, y4, y5, y6, y7, y8, y9, y10, y11, y12, y13, y14, y15, y16, y17, y18, y19))
 | .exit 10, [.s (.ptr 1 0 none 0), .s .bad, .s (.ptr 2 0 none 0), .s (.ptr 3 0 none 0), .s (.ptr 4 0 none 0), .s (.i .i64 y0), .s (.ptr 5 0 none 0), .s (.i .i64 y1), .s (.ptr 6 0 none 0)], [.sli 36 true (.rows [.i .i64, .i .i8] y2 y3), .cells 28 [.arr .i8 81 y4, .arr .i8 16 y5, .one [.i .i8 y6]], .cells 45 [.arr .i8 81 y7, .arr .i8 16 y8, .one [.i .i8 y9], .rows [.i .u64, .i .u64] 32 y10, .rows [.i .u64, .i .u64] 2 y11], .cells 33 [.arr .i64 81 y12], .cells 40 [.one [.i .u64 y13, .i .u64 y14]], .cells 40 [.one [.i .u64 y15, .i .u64 y16]], .cells 40 [.one [.i .u64 y17, .i .u64 y18]]] => some (.inr (y0, y1, y2, y3, y4, y5, y6, y7, y8, y9, y10, y11, y12, y13, y14, y15, y16, y17, y18))
 | _, _, _ => none
noncomputable def law05_BoardHoldsl35d : Ex → List V → List Obj → Option ((Bool × Int × Nat × List (List Int) × List Int × List Int × Int × List Int × List Int × Int × List (List Int) × List (List Int) × List Int × Int × Int × Int × Int) ⊕ (Int × Nat × List (List Int) × List Int × List Int × Int × List Int × List Int × Int × List (List Int) × List (List Int) × List Int × Int × Int × Int × Int)) := fun e vs objs => match e, vs, objs with
 | .ret, [.s (.ptr 1 0 none 0), .s (.b y0), .s (.ptr 2 0 none 0), .s (.ptr 3 0 none 0), .s (.ptr 4 0 none 0), .s (.i .i64 y1), .s (.ptr 5 0 none 0)], [.sli 36 true (.rows [.i .i64, .i .i8] y2 y3), .cells 28 [.arr .i8 81 y4, .arr .i8 16 y5, .one [.i .i8 y6]], .cells 45 [.arr .i8 81 y7, .arr .i8 16 y8, .one [.i .i8 y9], .rows [.i .u64, .i .u64] 32 y10, .rows [.i .u64, .i .u64] 2 y11], .cells 33 [.arr .i64 81 y12], .cells 40 [.one [.i .u64 y13, .i .u64 y14]], .cells 40 [.one [.i .u64 y15, .i .u64 y16]]] => some (.inl (y0, y1, y2, y3, y4, y5, y6, y7, y8, y9, y10, y11, y12, y13, y14, y15, y16))
 | .exit 8, [.s (.ptr 1 0 none 0), .s .bad, .s (.ptr 2 0 none 0), .s (.ptr 3 0 none 0), .s (.ptr 4 0 none 0), .s (.i .i64 y0), .s (.ptr 5 0 none 0)], [.sli 36 true (.rows [.i .i64, .i .i8] y1 y2), .cells 28 [.arr .i8 81 y3, .arr .i8 16 y4, .one [.i .i8 y5]], .cells 45 [.arr .i8 81 y6, .arr .i8 16 y7, .one [.i .i8 y8], .rows [.i .u64, .i .u64] 32 y9, .rows [.i .u64, .i .u64] 2 y10], .cells 33 [.arr .i64 81 y11], .cells 40 [.one [.i .u64 y12, .i .u64 y13]], .cells 40 [.one [.i .u64 y14, .i .u64 y15]]] => some (.inr (y0, y1, y2, y3, y4, y5, y6, y7, y8, y9, y10, y11, y12, y13, y14, y15))
 | _, _, _ => none
noncomputable def law05_BoardHoldsl31d : Ex → List V → List Obj → Option ((Bool × Nat × List (List Int) × List Int × List Int × Int × List Int × List Int × Int × List (List Int) × List (List Int) × Int × Int) ⊕ (Nat × List (List Int) × List Int × List Int × Int × List Int × List Int × Int × List (List Int) × List (List Int) × Int × Int)) := fun e vs objs => match e, vs, objs with
 | .ret, [.s (.ptr 1 0 none 0), .s (.b y0), .s (.ptr 2 0 none 0), .s (.ptr 3 0 none 0)], [.sli 36 true (.rows [.i .i64, .i .i8] y1 y2), .cells 28 [.arr .i8 81 y3, .arr .i8 16 y4, .one [.i .i8 y5]], .cells 45 [.arr .i8 81 y6, .arr .i8 16 y7, .one [.i .i8 y8], .rows [.i .u64, .i .u64] 32 y9, .rows [.i .u64, .i .u64] 2 y10], .cells 40 [.one [.i .u64 y11, .i .u64 y12]]] => some (.inl (y0, y1, y2, y3, y4, y5, y6, y7, y8, y9, y10, y11, y12))
 | .exit 6, [.s (.ptr 1 0 none 0), .s .bad, .s (.ptr 2 0 none 0), .s (.ptr 3 0 none 0)], [.sli 36 true (.rows [.i .i64, .i .i8] y0 y1), .cells 28 [.arr .i8 81 y2, .arr .i8 16 y3, .one [.i .i8 y4]], .cells 45 [.arr .i8 81 y5, .arr .i8 16 y6, .one [.i .i8 y7], .rows [.i .u64, .i .u64] 32 y8, .rows [.i .u64, .i .u64] 2 y9], .cells 40 [.one [.i .u64 y10, .i .u64 y11]]] => some (.inr (y0, y1, y2, y3, y4, y5, y6, y7, y8, y9, y10, y11))
 | _, _, _ => none
noncomputable def law05_BoardHoldsp8 {R : Type} (vs : List V) (objs : List Obj) (K : Ex → List V → List Obj → Option R) : Option R := match vs, objs with
 | [.s (.sl 0 x0 x1 false), .s (.ptr 1 0 none 0), .s (.ptr 2 0 none 0), .s (.ptr 3 0 none 0), .agg [.arr .i8 81 x2], .s (.i .i64 x3)], [.sli 36 true (.rows [.i .i64, .i .i8] x4 x5), .cells 28 [.arr .i8 81 x6, .arr .i8 16 x7, .one [.i .i8 x8]], .cells 45 [.arr .i8 81 x9, .arr .i8 16 x10, .one [.i .i8 x11], .rows [.i .u64, .i .u64] 32 x12, .rows [.i .u64, .i .u64] 2 x13], .cells 33 [.arr .i64 81 x14]] => ob (law05_BoardHoldsl8 many x0 x1 x2 x3 x4 x5 x6 x7 x8 x9 x10 x11 x12 x13 x14) fun z => K (.exit 0) ([.s (.sl 0 (z.1) (z.2.1) false), .s (.ptr 1 0 none 0), .s (.ptr 2 0 none 0), .s (.ptr 3 0 none 0)]) ([.sli 36 true (.rows [.i .i64, .i .i8] (z.2.2.1) (z.2.2.2.1)), .cells 28 [.arr .i8 81 (z.2.2.2.2.1), .arr .i8 16 (z.2.2.2.2.2.1), .one [.i .i8 (z.2.2.2.2.2.2.1)]], .cells 45 [.arr .i8 81 (z.2.2.2.2.2.2.2.1), .arr .i8 16 (z.2.2.2.2.2.2.2.2.1), .one [.i .i8 (z.2.2.2.2.2.2.2.2.2.1)], .rows [.i .u64, .i .u64] 32 (z.2.2.2.2.2.2.2.2.2.2.1), .rows [.i .u64, .i .u64] 2 (z.2.2.2.2.2.2.2.2.2.2.2.1)], .cells 33 [.arr .i64 81 (z.2.2.2.2.2.2.2.2.2.2.2.2)]])
 | _, _ => none
noncomputable def law05_BoardHoldsp14 {R : Type} (vs : List V) (objs : List Obj) (K : Ex → List V → List Obj → Option R) : Option R := match vs, objs with
 | [.s (.ptr 1 0 none 0), .s (.ptr 2 0 none 0), .s (.ptr 3 0 none 0), .s (.sl 0 x0 x1 false), .s (.i .i64 x2), .s (.i .i64 x3)], [.sli 36 true (.rows [.i .i64, .i .i8] x4 x5), .cells 28 [.arr .i8 81 x6, .arr .i8 16 x7, .one [.i .i8 x8]], .cells 45 [.arr .i8 81 x9, .arr .i8 16 x10, .one [.i .i8 x11], .rows [.i .u64, .i .u64] 32 x12, .rows [.i .u64, .i .u64] 2 x13], .cells 33 [.arr .i64 81 x14]] => ob (law05_BoardHoldsl14 many x0 x1 x2 x3 x4 x5 x6 x7 x8 x9 x10 x11 x12 x13 x14) fun z => K (.exit 2) ([.s (.ptr 1 0 none 0), .s (.ptr 2 0 none 0), .s (.ptr 3 0 none 0)]) ([.sli 36 true (.rows [.i .i64, .i .i8] (z.1) (z.2.1)), .cells 28 [.arr .i8 81 (z.2.2.1), .arr .i8 16 (z.2.2.2.1), .one [.i .i8 (z.2.2.2.2.1)]], .cells 45 [.arr .i8 81 (z.2.2.2.2.2.1), .arr .i8 16 (z.2.2.2.2.2.2.1), .one [.i .i8 (z.2.2.2.2.2.2.2.1)], .rows [.i .u64, .i .u64] 32 (z.2.2.2.2.2.2.2.2.1), .rows [.i .u64, .i .u64] 2 (z.2.2.2.2.2.2.2.2.2.1)], .cells 33 [.arr .i64 81 (z.2.2.2.2.2.2.2.2.2.2)]])
 | _, _ => none
noncomputable def law05_BoardHoldsp24 {R : Type} (vs : List V) (objs : List Obj) (K : Ex → List V → List Obj → Option R) : Option R := match vs, objs with
 | [.s (.ptr 1 0 none 0), .s (.ptr 2 0 none 0), .s (.ptr 3 0 none 0), .s (.ptr 4 0 none 0), .s (.i .i64 x0)], [.sli 36 true (.rows [.i .i64, .i .i8] x1 x2), .cells 28 [.arr .i8 81 x3, .arr .i8 16 x4, .one [.i .i8 x5]], .cells 45 [.arr .i8 81 x6, .arr .i8 16 x7, .one [.i .i8 x8], .rows [.i .u64, .i .u64] 32 x9, .rows [.i .u64, .i .u64] 2 x10], .cells 33 [.arr .i64 81 x11], .cells 40 [.one [.i .u64 x12, .i .u64 x13]]] => ob (law05_BoardHoldsl24 many x0 x1 x2 x3 x4 x5 x6 x7 x8 x9 x10 x11 x12 x13) fun t0 => sw t0 (fun z => K (.ret) ([.s (.ptr 1 0 none 0), .s (.b (z.1)), .s (.ptr 2 0 none 0), .s (.ptr 3 0 none 0), .s (.ptr 4 0 none 0)]) ([.sli 36 true (.rows [.i .i64, .i .i8] (z.2.1) (z.2.2.1)), .cells 28 [.arr .i8 81 (z.2.2.2.1), .arr .i8 16 (z.2.2.2.2.1), .one [.i .i8 (z.2.2.2.2.2.1)]], .cells 45 [.arr .i8 81 (z.2.2.2.2.2.2.1), .arr .i8 16 (z.2.2.2.2.2.2.2.1), .one [.i .i8 (z.2.2.2.2.2.2.2.2.1)], .rows [.i .u64, .i .u64] 32 (z.2.2.2.2.2.2.2.2.2.1), .rows [.i .u64, .i .u64] 2 (z.2.2.2.2.2.2.2.2.2.2.1)], .cells 33 [.arr .i64 81 (z.2.2.2.2.2.2.2.2.2.2.2.1)], .cells 40 [.one [.i .u64 (z.2.2.2.2.2.2.2.2.2.2.2.2.1), .i .u64 (z.2.2.2.2.2.2.2.2.2.2.2.2.2)]]])) (fun z => K (.exit 4) ([.s (.ptr 1 0 none 0), .s .bad, .s (.ptr 2 0 none 0), .s (.ptr 3 0 none 0), .s (.ptr 4 0 none 0)]) ([.sli 36 true (.rows [.i .i64, .i .i8] (z.1) (z.2.1)), .cells 28 [.arr .i8 81 (z.2.2.1), .arr .i8 16 (z.2.2.2.1), .one [.i .i8 (z.2.2.2.2.1)]], .cells 45 [.arr .i8 81 (z.2.2.2.2.2.1), .arr .i8 16 (z.2.2.2.2.2.2.1), .one [.i .i8 (z.2.2.2.2.2.2.2.1)], .rows [.i .u64, .i .u64] 32 (z.2.2.2.2.2.2.2.2.1), .rows [.i .u64, .i .u64] 2 (z.2.2.2.2.2.2.2.2.2.1)], .cells 33 [.arr .i64 81 (z.2.2.2.2.2.2.2.2.2.2.1)], .cells 40 [.one [.i .u64 (z.2.2.2.2.2.2.2.2.2.2.2.1), .i .u64 (z.2.2.2.2.2.2.2.2.2.2.2.2)]]]))
 | _, _ => none
noncomputable def law05_BoardHoldsp39 {R : Type} (vs : List V) (objs : List Obj) (K : Ex → List V → List Obj → Option R) : Option R := match vs, objs with
 | [.s (.ptr 1 0 none 0), .s (.ptr 2 0 none 0), .s (.ptr 3 0 none 0), .s (.ptr 4 0 none 0), .s (.i .i64 x0), .s (.ptr 5 0 none 0), .s (.i .i64 x1), .s (.ptr 6 0 none 0), .s (.i .i64 x2)], [.sli 36 true (.rows [.i .i64, .i .i8] x3 x4), .cells 28 [.arr .i8 81 x5, .arr .i8 16 x6, .one [.i .i8 x7]], .cells 45 [.arr .i8 81 x8, .arr .i8 16 x9, .one [.i .i8 x10], .rows [.i .u64, .i .u64] 32 x11, .rows [.i .u64, .i .u64] 2 x12], .cells 33 [.arr .i64 81 x13], .cells 40 [.one [.i .u64 x14, .i .u64 x15]], .cells 40 [.one [.i .u64 x16, .i .u64 x17]], .cells 40 [.one [.i .u64 x18, .i .u64 x19]]] => ob (law05_BoardHoldsl39 many x0 x1 x2 x3 x4 x5 x6 x7 x8 x9 x10 x11 x12 x13 x14 x15 x16 x17 x18 x19) fun t0 => sw t0 (fun z => K (.ret) ([.s (.ptr 1 0 none 0), .s (.b (z.1)), .s (.ptr 2 0 none 0), .s (.ptr 3 0 none 0), .s (.ptr 4 0 none 0), .s (.i .i64 (z.2.1)), .s (.ptr 5 0 none 0), .s (.i .i64 (z.2.2.1)), .s (.ptr 6 0 none 0)]) ([.sli 36 true (.rows [.i .i64, .i .i8] (z.2.2.2.1) (z.2.2.2.2.1)), .cells 28 [.arr .i8 81 (z.2.2.2.2.2.1), .arr .i8 16 (z.2.2.2.2.2.2.1), .one [.i .i8 (z.2.2.2.2.2.2.2.1)]], .cells 45 [.arr .i8 81 (z.2.2.2.2.2.2.2.2.1), .arr .i8 16 (z.2.2.2.2.2.2.2.2.2.1), .one [.i .i8 (z.2.2.2.2.2.2.2.2.2.2.1)], .rows [.i .u64, .i .u64] 32 (z.2.2.2.2.2.2.2.2.2.2.2.1), .rows [.i .u64, .i .u64] 2 (z.2.2.2.2.2.2.2.2.2.2.2.2.1)], .cells 33 [.arr .i64 81 (z.2.2.2.2.2.2.2.2.2.2.2.2.2.1)], .cells 40 [.one [.i .u64 (z.2.2.2.2.2.2.2.2.2.2.2.2.2.2.1), .i .u64 (z.2.2.2.2.2.2.2.2.2.2.2.2.2.2.2.1)]], .cells 40 [.one [.i .u64 (z.2.2.2.2.2.2.2.2.2.2.2.2.2.2.2.2.1), .i .u64 (z.2.2.2.2.2.2.2.2.2.2.2.2.2.2.2.2.2.1)]], .cells 40 [.one [.i .u64 (z.2.2.2.2.2.2.2.2.2.2.2.2.2.2.2.2.2.2.1), .i .u64 (z.2.2.2.2.2.2.2.2.2.2.2.2.2.2.2.2.2.2.2)]]])) (fun z => K (.exit 10) ([.s (.ptr 1 0 none 0), .s .bad, .s (.ptr 2 0 none 0), .s (.ptr 3 0 none 0), .s (.ptr 4 0 none 0), .s (.i .i64 (z.1)), .s (.ptr 5 0 none 0), .s (.i .i64 (z.2.1)), .s (.ptr 6 0 none 0)]) ([.sli 36 true (.rows [.i .i64, .i .i8] (z.2.2.1) (z.2.2.2.1)), .cells 28 [.arr .i8 81 (z.2.2.2.2.1), .arr .i8 16 (z.2.2.2.2.2.1), .one [.i .i8 (z.2.2.2.2.2.2.1)]], .cells 45 [.arr .i8 81 (z.2.2.2.2.2.2.2.1), .arr .i8 16 (z.2.2.2.2.2.2.2.2.1), .one [.i .i8 (z.2.2.2.2.2.2.2.2.2.1)], .rows [.i .u64, .i .u64] 32 (z.2.2.2.2.2.2.2.2.2.2.1), .rows [.i .u64, .i .u64] 2 (z.2.2.2.2.2.2.2.2.2.2.2.1)], .cells 33 [.arr .i64 81 (z.2.2.2.2.2.2.2.2.2.2.2.2.1)], .cells 40 [.one [.i .u64 (z.2.2.2.2.2.2.2.2.2.2.2.2.2.1), .i .u64 (z.2.2.2.2.2.2.2.2.2.2.2.2.2.2.1)]], .cells 40 [.one [.i .u64 (z.2.2.2.2.2.2.2.2.2.2.2.2.2.2.2.1), .i .u64 (z.2.2.2.2.2.2.2.2.2.2.2.2.2.2.2.2.1)]], .cells 40 [.one [.i .u64 (z.2.2.2.2.2.2.2.2.2.2.2.2.2.2.2.2.2.1), .i .u64 (z.2.2.2.2.2.2.2.2.2.2.2.2.2.2.2.2.2.2)]]]))
 | _, _ => none
noncomputable def law05_BoardHoldsp35 {R : Type} (vs : List V) (objs : List Obj) (K : Ex → List V → List Obj → Option R) : Option R := match vs, objs with
 | [.s (.ptr 1 0 none 0), .s (.ptr 2 0 none 0), .s (.ptr 3 0 none 0), .s (.ptr 4 0 none 0), .s (.i .i64 x0), .s (.ptr 5 0 none 0), .s (.i .i64 x1)], [.sli 36 true (.rows [.i .i64, .i .i8] x2 x3), .cells 28 [.arr .i8 81 x4, .arr .i8 16 x5, .one [.i .i8 x6]], .cells 45 [.arr .i8 81 x7, .arr .i8 16 x8, .one [.i .i8 x9], .rows [.i .u64, .i .u64] 32 x10, .rows [.i .u64, .i .u64] 2 x11], .cells 33 [.arr .i64 81 x12], .cells 40 [.one [.i .u64 x13, .i .u64 x14]], .cells 40 [.one [.i .u64 x15, .i .u64 x16]]] => ob (law05_BoardHoldsl35 many x0 x1 x2 x3 x4 x5 x6 x7 x8 x9 x10 x11 x12 x13 x14 x15 x16) fun t0 => sw t0 (fun z => K (.ret) ([.s (.ptr 1 0 none 0), .s (.b (z.1)), .s (.ptr 2 0 none 0), .s (.ptr 3 0 none 0), .s (.ptr 4 0 none 0), .s (.i .i64 (z.2.1)), .s (.ptr 5 0 none 0)]) ([.sli 36 true (.rows [.i .i64, .i .i8] (z.2.2.1) (z.2.2.2.1)), .cells 28 [.arr .i8 81 (z.2.2.2.2.1), .arr .i8 16 (z.2.2.2.2.2.1), .one [.i .i8 (z.2.2.2.2.2.2.1)]], .cells 45 [.arr .i8 81 (z.2.2.2.2.2.2.2.1), .arr .i8 16 (z.2.2.2.2.2.2.2.2.1), .one [.i .i8 (z.2.2.2.2.2.2.2.2.2.1)], .rows [.i .u64, .i .u64] 32 (z.2.2.2.2.2.2.2.2.2.2.1), .rows [.i .u64, .i .u64] 2 (z.2.2.2.2.2.2.2.2.2.2.2.1)], .cells 33 [.arr .i64 81 (z.2.2.2.2.2.2.2.2.2.2.2.2.1)], .cells 40 [.one [.i .u64 (z.2.2.2.2.2.2.2.2.2.2.2.2.2.1), .i .u64 (z.2.2.2.2.2.2.2.2.2.2.2.2.2.2.1)]], .cells 40 [.one [.i .u64 (z.2.2.2.2.2.2.2.2.2.2.2.2.2.2.2.1), .i .u64 (z.2.2.2.2.2.2.2.2.2.2.2.2.2.2.2.2)]]])) (fun z => K (.exit 8) ([.s (.ptr 1 0 none 0), .s .bad, .s (.ptr 2 0 none 0), .s (.ptr 3 0 none 0), .s (.ptr 4 0 none 0), .s (.i .i64 (z.1)), .s (.ptr 5 0 none 0)]) ([.sli 36 true (.rows [.i .i64, .i .i8] (z.2.1) (z.2.2.1)), .cells 28 [.arr .i8 81 (z.2.2.2.1), .arr .i8 16 (z.2.2.2.2.1), .one [.i .i8 (z.2.2.2.2.2.1)]], .cells 45 [.arr .i8 81 (z.2.2.2.2.2.2.1), .arr .i8 16 (z.2.2.2.2.2.2.2.1), .one [.i .i8 (z.2.2.2.2.2.2.2.2.1)], .rows [.i .u64, .i .u64] 32 (z.2.2.2.2.2.2.2.2.2.1), .rows [.i .u64, .i .u64] 2 (z.2.2.2.2.2.2.2.2.2.2.1)], .cells 33 [.arr .i64 81 (z.2.2.2.2.2.2.2.2.2.2.2.1)], .cells 40 [.one [.i .u64 (z.2.2.2.2.2.2.2.2.2.2.2.2.1), .i .u64 (z.2.2.2.2.2.2.2.2.2.2.2.2.2.1)]], .cells 40 [.one [.i .u64 (z.2.2.2.2.2.2.2.2.2.2.2.2.2.2.1), .i .u64 (z.2.2.2.2.2.2.2.2.2.2.2.2.2.2.2)]]]))
 | _, _ => none
noncomputable def law05_BoardHoldsp31 {R : Type} (vs : List V) (objs : List Obj) (K : Ex → List V → List Obj → Option R) : Option R := match vs, objs with
 | [.s (.ptr 1 0 none 0), .s (.ptr 2 0 none 0), .s (.ptr 3 0 none 0), .s (.ptr 4 0 none 0), .s (.i .i64 x0)], [.sli 36 true (.rows [.i .i64, .i .i8] x1 x2), .cells 28 [.arr .i8 81 x3, .arr .i8 16 x4, .one [.i .i8 x5]], .cells 45 [.arr .i8 81 x6, .arr .i8 16 x7, .one [.i .i8 x8], .rows [.i .u64, .i .u64] 32 x9, .rows [.i .u64, .i .u64] 2 x10], .cells 33 [.arr .i64 81 x11], .cells 40 [.one [.i .u64 x12, .i .u64 x13]]] => ob (law05_BoardHoldsl31 many x0 x1 x2 x3 x4 x5 x6 x7 x8 x9 x10 x11 x12 x13) fun t0 => sw t0 (fun z => K (.ret) ([.s (.ptr 1 0 none 0), .s (.b (z.1)), .s (.ptr 2 0 none 0), .s (.ptr 3 0 none 0)]) ([.sli 36 true (.rows [.i .i64, .i .i8] (z.2.1) (z.2.2.1)), .cells 28 [.arr .i8 81 (z.2.2.2.1), .arr .i8 16 (z.2.2.2.2.1), .one [.i .i8 (z.2.2.2.2.2.1)]], .cells 45 [.arr .i8 81 (z.2.2.2.2.2.2.1), .arr .i8 16 (z.2.2.2.2.2.2.2.1), .one [.i .i8 (z.2.2.2.2.2.2.2.2.1)], .rows [.i .u64, .i .u64] 32 (z.2.2.2.2.2.2.2.2.2.1), .rows [.i .u64, .i .u64] 2 (z.2.2.2.2.2.2.2.2.2.2.1)], .cells 40 [.one [.i .u64 (z.2.2.2.2.2.2.2.2.2.2.2.1), .i .u64 (z.2.2.2.2.2.2.2.2.2.2.2.2)]]])) (fun z => K (.exit 6) ([.s (.ptr 1 0 none 0), .s .bad, .s (.ptr 2 0 none 0), .s (.ptr 3 0 none 0)]) ([.sli 36 true (.rows [.i .i64, .i .i8] (z.1) (z.2.1)), .cells 28 [.arr .i8 81 (z.2.2.1), .arr .i8 16 (z.2.2.2.1), .one [.i .i8 (z.2.2.2.2.1)]], .cells 45 [.arr .i8 81 (z.2.2.2.2.2.1), .arr .i8 16 (z.2.2.2.2.2.2.1), .one [.i .i8 (z.2.2.2.2.2.2.2.1)], .rows [.i .u64, .i .u64] 32 (z.2.2.2.2.2.2.2.2.1), .rows [.i .u64, .i .u64] 2 (z.2.2.2.2.2.2.2.2.2.1)], .cells 40 [.one [.i .u64 (z.2.2.2.2.2.2.2.2.2.2.1), .i .u64 (z.2.2.2.2.2.2.2.2.2.2.2)]]]))
 | _, _ => none
noncomputable def law05_BoardHoldslp : {R : Type} → Nat → List V → List Obj → (Ex → List V → List Obj → Option R) → Option R := fun q vs objs K => bif Nat.beq q 8 then law05_BoardHoldsp8 vs objs K else bif Nat.beq q 14 then law05_BoardHoldsp14 vs objs K else bif Nat.beq q 24 then law05_BoardHoldsp24 vs objs K else bif Nat.beq q 39 then law05_BoardHoldsp39 vs objs K else bif Nat.beq q 35 then law05_BoardHoldsp35 vs objs K else bif Nat.beq q 31 then law05_BoardHoldsp31 vs objs K else none
noncomputable def law05_BoardHoldsc : Ctx := mkC 186 ((board_Takeno (board_Pieceso (set_Oro (set_Firsto (board_Kingo (set_Haso (board_Ofo (set_Witho (board_Ato (board_Puto (ref02_Kindo (board_Newo (law05_beginso oNil)))))))))))))) [(8, [1, 2, 5, 6, 26, 27], [1, 2, 5, 6]), (14, [2, 5, 6, 40, 41, 42], [2, 5, 6]), (24, [2, 5, 6, 11, 12], [2, 4, 5, 6, 11]), (31, [2, 5, 6, 11, 13], [2, 4, 5, 11]), (35, [2, 5, 6, 11, 13, 14, 15], [2, 4, 5, 6, 11, 13, 14]), (39, [2, 5, 6, 11, 13, 14, 15, 16, 17], [2, 4, 5, 6, 11, 13, 14, 15, 16])] law05_BoardHoldslp
theorem law05_BoardHoldsc_ok : CtxOK Tryd.prog law05_BoardHoldsc := mkC_ok ((board_Takeno_ok _ (board_Pieceso_ok _ (set_Oro_ok _ (set_Firsto_ok _ (board_Kingo_ok _ (set_Haso_ok _ (board_Ofo_ok _ (set_Witho_ok _ (board_Ato_ok _ (board_Puto_ok _ (ref02_Kindo_ok _ (board_Newo_ok _ (law05_beginso_ok _ oNil_ok))))))))))))))
noncomputable def law05_BoardHoldsl8r (f : Nat) (x0 x1 : Nat) (x2 : List Int) (x3 : Int) (x4 : Nat) (x5 : List (List Int)) (x6 x7 : List Int) (x8 : Int) (x9 x10 : List Int) (x11 : Int) (x12 x13 : List (List Int)) (x14 : List Int) : Option (Nat × Nat × Nat × List (List Int) × List Int × List Int × Int × List Int × List Int × Int × List (List Int) × List (List Int) × List Int) := lrun law05_BoardHoldsc 1 [1, 2, 5, 6, 26, 27] [1, 2, 5, 6] (loopOf Tryd.f3 8) f ([.s (.sl 0 x0 x1 false), .s (.ptr 1 0 none 0), .s (.ptr 2 0 none 0), .s (.ptr 3 0 none 0), .agg [.arr .i8 81 x2], .s (.i .i64 x3)]) ([.sli 36 true (.rows [.i .i64, .i .i8] x4 x5), .cells 28 [.arr .i8 81 x6, .arr .i8 16 x7, .one [.i .i8 x8]], .cells 45 [.arr .i8 81 x9, .arr .i8 16 x10, .one [.i .i8 x11], .rows [.i .u64, .i .u64] 32 x12, .rows [.i .u64, .i .u64] 2 x13], .cells 33 [.arr .i64 81 x14]]) law05_BoardHoldsl8d
theorem law05_BoardHoldsl8_step (f : Nat) (x0 x1 : Nat) (x2 : List Int) (x3 : Int) (x4 : Nat) (x5 : List (List Int)) (x6 x7 : List Int) (x8 : Int) (x9 x10 : List Int) (x11 : Int) (x12 x13 : List (List Int)) (x14 : List Int) : law05_BoardHoldsl8r (f + 1) x0 x1 x2 x3 x4 x5 x6 x7 x8 x9 x10 x11 x12 x13 x14 = law05_BoardHoldsl8s (law05_BoardHoldsl8r f) x0 x1 x2 x3 x4 x5 x6 x7 x8 x9 x10 x11 x12 x13 x14 := by kernel_rfl
theorem law05_BoardHoldsl8_eq : ∀ f, law05_BoardHoldsl8r f = law05_BoardHoldsl8 f
 | 0 => rfl
 | f + 1 => by funext x0 x1 x2 x3 x4 x5 x6 x7 x8 x9 x10 x11 x12 x13 x14; rw [law05_BoardHoldsl8_step, law05_BoardHoldsl8_eq f]; rfl
noncomputable def law05_BoardHoldsl14r (f : Nat) (x0 x1 : Nat) (x2 x3 : Int) (x4 : Nat) (x5 : List (List Int)) (x6 x7 : List Int) (x8 : Int) (x9 x10 : List Int) (x11 : Int) (x12 x13 : List (List Int)) (x14 : List Int) : Option (Nat × List (List Int) × List Int × List Int × Int × List Int × List Int × Int × List (List Int) × List (List Int) × List Int) := lrun law05_BoardHoldsc 1 [2, 5, 6, 40, 41, 42] [2, 5, 6] (loopOf Tryd.f3 14) f ([.s (.ptr 1 0 none 0), .s (.ptr 2 0 none 0), .s (.ptr 3 0 none 0), .s (.sl 0 x0 x1 false), .s (.i .i64 x2), .s (.i .i64 x3)]) ([.sli 36 true (.rows [.i .i64, .i .i8] x4 x5), .cells 28 [.arr .i8 81 x6, .arr .i8 16 x7, .one [.i .i8 x8]], .cells 45 [.arr .i8 81 x9, .arr .i8 16 x10, .one [.i .i8 x11], .rows [.i .u64, .i .u64] 32 x12, .rows [.i .u64, .i .u64] 2 x13], .cells 33 [.arr .i64 81 x14]]) law05_BoardHoldsl14d
theorem law05_BoardHoldsl14_step (f : Nat) (x0 x1 : Nat) (x2 x3 : Int) (x4 : Nat) (x5 : List (List Int)) (x6 x7 : List Int) (x8 : Int) (x9 x10 : List Int) (x11 : Int) (x12 x13 : List (List Int)) (x14 : List Int) : law05_BoardHoldsl14r (f + 1) x0 x1 x2 x3 x4 x5 x6 x7 x8 x9 x10 x11 x12 x13 x14 = law05_BoardHoldsl14s (law05_BoardHoldsl14r f) x0 x1 x2 x3 x4 x5 x6 x7 x8 x9 x10 x11 x12 x13 x14 := by kernel_rfl
theorem law05_BoardHoldsl14_eq : ∀ f, law05_BoardHoldsl14r f = law05_BoardHoldsl14 f
 | 0 => rfl
 | f + 1 => by funext x0 x1 x2 x3 x4 x5 x6 x7 x8 x9 x10 x11 x12 x13 x14; rw [law05_BoardHoldsl14_step, law05_BoardHoldsl14_eq f]; rfl
noncomputable def law05_BoardHoldsl24r (f : Nat) (x0 : Int) (x1 : Nat) (x2 : List (List Int)) (x3 x4 : List Int) (x5 : Int) (x6 x7 : List Int) (x8 : Int) (x9 x10 : List (List Int)) (x11 : List Int) (x12 x13 : Int) : Option ((Bool × Nat × List (List Int) × List Int × List Int × Int × List Int × List Int × Int × List (List Int) × List (List Int) × List Int × Int × Int) ⊕ (Nat × List (List Int) × List Int × List Int × Int × List Int × List Int × Int × List (List Int) × List (List Int) × List Int × Int × Int)) := lrun law05_BoardHoldsc 1 [2, 5, 6, 11, 12] [2, 4, 5, 6, 11] (loopOf Tryd.f3 24) f ([.s (.ptr 1 0 none 0), .s (.ptr 2 0 none 0), .s (.ptr 3 0 none 0), .s (.ptr 4 0 none 0), .s (.i .i64 x0)]) ([.sli 36 true (.rows [.i .i64, .i .i8] x1 x2), .cells 28 [.arr .i8 81 x3, .arr .i8 16 x4, .one [.i .i8 x5]], .cells 45 [.arr .i8 81 x6, .arr .i8 16 x7, .one [.i .i8 x8], .rows [.i .u64, .i .u64] 32 x9, .rows [.i .u64, .i .u64] 2 x10], .cells 33 [.arr .i64 81 x11], .cells 40 [.one [.i .u64 x12, .i .u64 x13]]]) law05_BoardHoldsl24d
theorem law05_BoardHoldsl24_step (f : Nat) (x0 : Int) (x1 : Nat) (x2 : List (List Int)) (x3 x4 : List Int) (x5 : Int) (x6 x7 : List Int) (x8 : Int) (x9 x10 : List (List Int)) (x11 : List Int) (x12 x13 : Int) : law05_BoardHoldsl24r (f + 1) x0 x1 x2 x3 x4 x5 x6 x7 x8 x9 x10 x11 x12 x13 = law05_BoardHoldsl24s (law05_BoardHoldsl24r f) x0 x1 x2 x3 x4 x5 x6 x7 x8 x9 x10 x11 x12 x13 := by kernel_rfl
theorem law05_BoardHoldsl24_eq : ∀ f, law05_BoardHoldsl24r f = law05_BoardHoldsl24 f
 | 0 => rfl
 | f + 1 => by funext x0 x1 x2 x3 x4 x5 x6 x7 x8 x9 x10 x11 x12 x13; rw [law05_BoardHoldsl24_step, law05_BoardHoldsl24_eq f]; rfl
noncomputable def law05_BoardHoldsl39r (f : Nat) (x0 x1 x2 : Int) (x3 : Nat) (x4 : List (List Int)) (x5 x6 : List Int) (x7 : Int) (x8 x9 : List Int) (x10 : Int) (x11 x12 : List (List Int)) (x13 : List Int) (x14 x15 : Int) (x16 x17 : Int) (x18 x19 : Int) : Option ((Bool × Int × Int × Nat × List (List Int) × List Int × List Int × Int × List Int × List Int × Int × List (List Int) × List (List Int) × List Int × Int × Int × Int × Int × Int × Int) ⊕ (Int × Int × Nat × List (List Int) × List Int × List Int × Int × List Int × List Int × Int × List (List Int) × List (List Int) × List Int × Int × Int × Int × Int × Int × Int)) := lrun law05_BoardHoldsc 1 [2, 5, 6, 11, 13, 14, 15, 16, 17] [2, 4, 5, 6, 11, 13, 14, 15, 16] (loopOf Tryd.f3 39) f ([.s (.ptr 1 0 none 0), .s (.ptr 2 0 none 0), .s (.ptr 3 0 none 0), .s (.ptr 4 0 none 0), .s (.i .i64 x0), .s (.ptr 5 0 none 0), .s (.i .i64 x1), .s (.ptr 6 0 none 0), .s (.i .i64 x2)]) ([.sli 36 true (.rows [.i .i64, .i .i8] x3 x4), .cells 28 [.arr .i8 81 x5, .arr .i8 16 x6, .one [.i .i8 x7]], .cells 45 [.arr .i8 81 x8, .arr .i8 16 x9, .one [.i .i8 x10], .rows [.i .u64, .i .u64] 32 x11, .rows [.i .u64, .i .u64] 2 x12], .cells 33 [.arr .i64 81 x13], .cells 40 [.one [.i .u64 x14, .i .u64 x15]], .cells 40 [.one [.i .u64 x16, .i .u64 x17]], .cells 40 [.one [.i .u64 x18, .i .u64 x19]]]) law05_BoardHoldsl39d
theorem law05_BoardHoldsl39_step (f : Nat) (x0 x1 x2 : Int) (x3 : Nat) (x4 : List (List Int)) (x5 x6 : List Int) (x7 : Int) (x8 x9 : List Int) (x10 : Int) (x11 x12 : List (List Int)) (x13 : List Int) (x14 x15 : Int) (x16 x17 : Int) (x18 x19 : Int) : law05_BoardHoldsl39r (f + 1) x0 x1 x2 x3 x4 x5 x6 x7 x8 x9 x10 x11 x12 x13 x14 x15 x16 x17 x18 x19 = law05_BoardHoldsl39s (law05_BoardHoldsl39r f) x0 x1 x2 x3 x4 x5 x6 x7 x8 x9 x10 x11 x12 x13 x14 x15 x16 x17 x18 x19 := by kernel_rfl
theorem law05_BoardHoldsl39_eq : ∀ f, law05_BoardHoldsl39r f = law05_BoardHoldsl39 f
 | 0 => rfl
 | f + 1 => by funext x0 x1 x2 x3 x4 x5 x6 x7 x8 x9 x10 x11 x12 x13 x14 x15 x16 x17 x18 x19; rw [law05_BoardHoldsl39_step, law05_BoardHoldsl39_eq f]; rfl
noncomputable def law05_BoardHoldsl35r (f : Nat) (x0 x1 : Int) (x2 : Nat) (x3 : List (List Int)) (x4 x5 : List Int) (x6 : Int) (x7 x8 : List Int) (x9 : Int) (x10 x11 : List (List Int)) (x12 : List Int) (x13 x14 : Int) (x15 x16 : Int) : Option ((Bool × Int × Nat × List (List Int) × List Int × List Int × Int × List Int × List Int × Int × List (List Int) × List (List Int) × List Int × Int × Int × Int × Int) ⊕ (Int × Nat × List (List Int) × List Int × List Int × Int × List Int × List Int × Int × List (List Int) × List (List Int) × List Int × Int × Int × Int × Int)) := lrun law05_BoardHoldsc 1 [2, 5, 6, 11, 13, 14, 15] [2, 4, 5, 6, 11, 13, 14] (loopOf Tryd.f3 35) f ([.s (.ptr 1 0 none 0), .s (.ptr 2 0 none 0), .s (.ptr 3 0 none 0), .s (.ptr 4 0 none 0), .s (.i .i64 x0), .s (.ptr 5 0 none 0), .s (.i .i64 x1)]) ([.sli 36 true (.rows [.i .i64, .i .i8] x2 x3), .cells 28 [.arr .i8 81 x4, .arr .i8 16 x5, .one [.i .i8 x6]], .cells 45 [.arr .i8 81 x7, .arr .i8 16 x8, .one [.i .i8 x9], .rows [.i .u64, .i .u64] 32 x10, .rows [.i .u64, .i .u64] 2 x11], .cells 33 [.arr .i64 81 x12], .cells 40 [.one [.i .u64 x13, .i .u64 x14]], .cells 40 [.one [.i .u64 x15, .i .u64 x16]]]) law05_BoardHoldsl35d
theorem law05_BoardHoldsl35_step (f : Nat) (x0 x1 : Int) (x2 : Nat) (x3 : List (List Int)) (x4 x5 : List Int) (x6 : Int) (x7 x8 : List Int) (x9 : Int) (x10 x11 : List (List Int)) (x12 : List Int) (x13 x14 : Int) (x15 x16 : Int) : law05_BoardHoldsl35r (f + 1) x0 x1 x2 x3 x4 x5 x6 x7 x8 x9 x10 x11 x12 x13 x14 x15 x16 = law05_BoardHoldsl35s (law05_BoardHoldsl35r f) x0 x1 x2 x3 x4 x5 x6 x7 x8 x9 x10 x11 x12 x13 x14 x15 x16 := by kernel_rfl
theorem law05_BoardHoldsl35_eq : ∀ f, law05_BoardHoldsl35r f = law05_BoardHoldsl35 f
 | 0 => rfl
 | f + 1 => by funext x0 x1 x2 x3 x4 x5 x6 x7 x8 x9 x10 x11 x12 x13 x14 x15 x16; rw [law05_BoardHoldsl35_step, law05_BoardHoldsl35_eq f]; rfl
noncomputable def law05_BoardHoldsl31r (f : Nat) (x0 : Int) (x1 : Nat) (x2 : List (List Int)) (x3 x4 : List Int) (x5 : Int) (x6 x7 : List Int) (x8 : Int) (x9 x10 : List (List Int)) (x11 : List Int) (x12 x13 : Int) : Option ((Bool × Nat × List (List Int) × List Int × List Int × Int × List Int × List Int × Int × List (List Int) × List (List Int) × Int × Int) ⊕ (Nat × List (List Int) × List Int × List Int × Int × List Int × List Int × Int × List (List Int) × List (List Int) × Int × Int)) := lrun law05_BoardHoldsc 1 [2, 5, 6, 11, 13] [2, 4, 5, 11] (loopOf Tryd.f3 31) f ([.s (.ptr 1 0 none 0), .s (.ptr 2 0 none 0), .s (.ptr 3 0 none 0), .s (.ptr 4 0 none 0), .s (.i .i64 x0)]) ([.sli 36 true (.rows [.i .i64, .i .i8] x1 x2), .cells 28 [.arr .i8 81 x3, .arr .i8 16 x4, .one [.i .i8 x5]], .cells 45 [.arr .i8 81 x6, .arr .i8 16 x7, .one [.i .i8 x8], .rows [.i .u64, .i .u64] 32 x9, .rows [.i .u64, .i .u64] 2 x10], .cells 33 [.arr .i64 81 x11], .cells 40 [.one [.i .u64 x12, .i .u64 x13]]]) law05_BoardHoldsl31d
theorem law05_BoardHoldsl31_step (f : Nat) (x0 : Int) (x1 : Nat) (x2 : List (List Int)) (x3 x4 : List Int) (x5 : Int) (x6 x7 : List Int) (x8 : Int) (x9 x10 : List (List Int)) (x11 : List Int) (x12 x13 : Int) : law05_BoardHoldsl31r (f + 1) x0 x1 x2 x3 x4 x5 x6 x7 x8 x9 x10 x11 x12 x13 = law05_BoardHoldsl31s (law05_BoardHoldsl31r f) x0 x1 x2 x3 x4 x5 x6 x7 x8 x9 x10 x11 x12 x13 := by kernel_rfl
theorem law05_BoardHoldsl31_eq : ∀ f, law05_BoardHoldsl31r f = law05_BoardHoldsl31 f
 | 0 => rfl
 | f + 1 => by funext x0 x1 x2 x3 x4 x5 x6 x7 x8 x9 x10 x11 x12 x13; rw [law05_BoardHoldsl31_step, law05_BoardHoldsl31_eq f]; rfl
theorem law05_BoardHoldss8 : LoopSound Tryd.prog law05_BoardHoldsc 1 (loopOf Tryd.f3 8) :=
 loopSound_by mixed law05_BoardHoldsc_ok (AllP.of (l' := []) (by kernel_rfl) trivial) (q := 8) (kin := [1, 2, 5, 6, 26, 27]) (kout := [1, 2, 5, 6]) (by kernel_rfl) (by kernel_rfl) fun vs objs K r h => by
  replace h : law05_BoardHoldsp8 vs objs K = some r := h
  unfold law05_BoardHoldsp8 at h
  split at h
  ·skip
   obtain ⟨t, h1, h2⟩ := ob_ok h
   rw [← law05_BoardHoldsl8_eq] at h1
   refine ⟨_, law05_BoardHoldsl8d, t, many, h1, fun e vs' objs' hd => ?_⟩
   unfold law05_BoardHoldsl8d at hd
   split at hd
   ·skip
    cases hd
    exact h2
   ·cases hd
  ·cases h
theorem law05_BoardHoldss14 : LoopSound Tryd.prog law05_BoardHoldsc 1 (loopOf Tryd.f3 14) :=
 loopSound_by mixed law05_BoardHoldsc_ok (AllP.of (l' := []) (by kernel_rfl) trivial) (q := 14) (kin := [2, 5, 6, 40, 41, 42]) (kout := [2, 5, 6]) (by kernel_rfl) (by kernel_rfl) fun vs objs K r h => by
  replace h : law05_BoardHoldsp14 vs objs K = some r := h
  unfold law05_BoardHoldsp14 at h
  split at h
  ·skip
   obtain ⟨t, h1, h2⟩ := ob_ok h
   rw [← law05_BoardHoldsl14_eq] at h1
   refine ⟨_, law05_BoardHoldsl14d, t, many, h1, fun e vs' objs' hd => ?_⟩
   unfold law05_BoardHoldsl14d at hd
   split at hd
   ·skip
    cases hd
    exact h2
   ·cases hd
  ·cases h
theorem law05_BoardHoldss24 : LoopSound Tryd.prog law05_BoardHoldsc 1 (loopOf Tryd.f3 24) :=
 loopSound_by mixed law05_BoardHoldsc_ok (AllP.of (l' := []) (by kernel_rfl) trivial) (q := 24) (kin := [2, 5, 6, 11, 12]) (kout := [2, 4, 5, 6, 11]) (by kernel_rfl) (by kernel_rfl) fun vs objs K r h => by
  replace h : law05_BoardHoldsp24 vs objs K = some r := h
  unfold law05_BoardHoldsp24 at h
  split at h
  ·skip
   obtain ⟨t, h1, h2⟩ := ob_ok h
   rw [← law05_BoardHoldsl24_eq] at h1
   refine ⟨_, law05_BoardHoldsl24d, t, many, h1, fun e vs' objs' hd => ?_⟩
   unfold law05_BoardHoldsl24d at hd
   split at hd
   ·skip
    cases hd
    exact h2
   ·skip
    cases hd
    exact h2
   ·cases hd
  ·cases h
theorem law05_BoardHoldss39 : LoopSound Tryd.prog law05_BoardHoldsc 1 (loopOf Tryd.f3 39) :=
 loopSound_by mixed law05_BoardHoldsc_ok (AllP.of (l' := []) (by kernel_rfl) trivial) (q := 39) (kin := [2, 5, 6, 11, 13, 14, 15, 16, 17]) (kout := [2, 4, 5, 6, 11, 13, 14, 15, 16]) (by kernel_rfl) (by kernel_rfl) fun vs objs K r h => by
  replace h : law05_BoardHoldsp39 vs objs K = some r := h
  unfold law05_BoardHoldsp39 at h
  split at h
  ·skip
   obtain ⟨t, h1, h2⟩ := ob_ok h
   rw [← law05_BoardHoldsl39_eq] at h1
   refine ⟨_, law05_BoardHoldsl39d, t, many, h1, fun e vs' objs' hd => ?_⟩
   unfold law05_BoardHoldsl39d at hd
   split at hd
   ·skip
    cases hd
    exact h2
   ·skip
    cases hd
    exact h2
   ·cases hd
  ·cases h
theorem law05_BoardHoldss35 : LoopSound Tryd.prog law05_BoardHoldsc 1 (loopOf Tryd.f3 35) :=
 loopSound_by mixed law05_BoardHoldsc_ok (AllP.of (l' := [loopOf Tryd.f3 39]) (by kernel_rfl) ⟨law05_BoardHoldss39, trivial⟩) (q := 35) (kin := [2, 5, 6, 11, 13, 14, 15]) (kout := [2, 4, 5, 6, 11, 13, 14]) (by kernel_rfl) (by kernel_rfl) fun vs objs K r h => by
  replace h : law05_BoardHoldsp35 vs objs K = some r := h
  unfold law05_BoardHoldsp35 at h
  split at h
  ·skip
   obtain ⟨t, h1, h2⟩ := ob_ok h
   rw [← law05_BoardHoldsl35_eq] at h1
   refine ⟨_, law05_BoardHoldsl35d, t, many, h1, fun e vs' objs' hd => ?_⟩
   unfold law05_BoardHoldsl35d at hd
   split at hd
   ·skip
    cases hd
    exact h2
   ·skip
    cases hd
    exact h2
   ·cases hd
  ·cases h
theorem law05_BoardHoldss31 : LoopSound Tryd.prog law05_BoardHoldsc 1 (loopOf Tryd.f3 31) :=
 loopSound_by mixed law05_BoardHoldsc_ok (AllP.of (l' := [loopOf Tryd.f3 35]) (by kernel_rfl) ⟨law05_BoardHoldss35, trivial⟩) (q := 31) (kin := [2, 5, 6, 11, 13]) (kout := [2, 4, 5, 11]) (by kernel_rfl) (by kernel_rfl) fun vs objs K r h => by
  replace h : law05_BoardHoldsp31 vs objs K = some r := h
  unfold law05_BoardHoldsp31 at h
  split at h
  ·skip
   obtain ⟨t, h1, h2⟩ := ob_ok h
   rw [← law05_BoardHoldsl31_eq] at h1
   refine ⟨_, law05_BoardHoldsl31d, t, many, h1, fun e vs' objs' hd => ?_⟩
   unfold law05_BoardHoldsl31d at hd
   split at hd
   ·skip
    cases hd
    exact h2
   ·skip
    cases hd
    exact h2
   ·cases hd
  ·cases h
noncomputable def law05_BoardHoldsd : V → List Obj → Option (Bool) := fun v objs => match v, objs with
 | .s (.b y0), [] => some (y0)
 | _, _ => none
theorem law05_BoardHolds_eq (x0 x1 : List Int) (x2 : Int) (x3 x4 x5 : Nat) (x6 : List (List Int)) : fnE law05_BoardHoldsc Tryd.f3 ([.agg [.arr .i8 81 x0, .arr .i8 16 x1, .one [.i .i8 x2]], .s (.sl 0 x3 x4 false)]) ([.sli 36 true (.rows [.i .i64, .i .i8] x5 x6)]) (pureD 1 law05_BoardHoldsd) = law05_BoardHolds x0 x1 x2 x3 x4 x5 x6 := by kernel_rfl
noncomputable def law05_BoardHoldsa {R : Type} (o : Orc) (vs : List V) (objs : List Obj) (K : Bool → V → List Obj → Option R) : Option R := match vs, List.map Obj.toRO objs with
 | [.agg [.arr .i8 81 x0, .arr .i8 16 x1, .one [.i .i8 x2]], .s (.sl 0 x3 x4 false)], [.sli 36 true (.rows [.i .i64, .i .i8] x5 x6)] => ob (law05_BoardHolds x0 x1 x2 x3 x4 x5 x6) fun y0 => K true (.s (.b y0)) ([])
 | _, _ => o 3 vs objs K
noncomputable def law05_BoardHoldso (o : Orc) : Orc := hook 3 (law05_BoardHoldsa o) o
theorem law05_BoardHolds_ok {vs : List V} {objs : List Obj} (x0 x1 : List Int) (x2 : Int) (x3 x4 x5 : Nat) (x6 : List (List Int)) {R : Type} {K : Bool → V → List Obj → Option R} {r : R} (hv : vs = [.agg [.arr .i8 81 x0, .arr .i8 16 x1, .one [.i .i8 x2]], .s (.sl 0 x3 x4 false)]) (ho : List.map Obj.toRO objs = [.sli 36 true (.rows [.i .i64, .i .i8] x5 x6)]) (h : ob (law05_BoardHolds x0 x1 x2 x3 x4 x5 x6) (fun y0 => K true (.s (.b y0)) ([])) = some r) :
  ∃ p v objs', K p v objs' = some r ∧ AnyOK Tryd.prog 3 vs objs p v objs' := by
 subst hv
 obtain ⟨t, h1, h2⟩ := ob_ok h
 refine purOK_by mixed law05_BoardHoldsc_ok (m := 1) (fn := Tryd.f3) (b := (Tryd.f3).body.getD .skip) (by kernel_rfl) (by kernel_rfl) (by kernel_rfl) ho (by kernel_rfl) (by kernel_rfl) (AllP.of (l' := [loopOf Tryd.f3 8, loopOf Tryd.f3 14, loopOf Tryd.f3 24, loopOf Tryd.f3 31]) (by kernel_rfl) ⟨law05_BoardHoldss8, law05_BoardHoldss14, law05_BoardHoldss24, law05_BoardHoldss31, trivial⟩) ((law05_BoardHolds_eq _ _ _ _ _ _ _).trans h1) fun v objs' hd => ?_
 unfold law05_BoardHoldsd at hd
 split at hd
 ·skip
  cases hd
  exact h2
 ·cases hd
theorem law05_BoardHoldso_ok (o : Orc) (ho : OSound Tryd.prog o) : OSound Tryd.prog (law05_BoardHoldso o) := hook_ok ho fun vs objs K r h => by
 unfold law05_BoardHoldsa at h
 split at h
 ·skip
  have hq : List.map Obj.toRO objs = _ := (by rename_i hq; first | exact hq | assumption)
  obtain ⟨t, h1, h2⟩ := ob_ok h
  refine purOK_by mixed law05_BoardHoldsc_ok (m := 1) (fn := Tryd.f3) (b := (Tryd.f3).body.getD .skip) (by kernel_rfl) (by kernel_rfl) (by kernel_rfl) hq (by kernel_rfl) (by kernel_rfl) (AllP.of (l' := [loopOf Tryd.f3 8, loopOf Tryd.f3 14, loopOf Tryd.f3 24, loopOf Tryd.f3 31]) (by kernel_rfl) ⟨law05_BoardHoldss8, law05_BoardHoldss14, law05_BoardHoldss24, law05_BoardHoldss31, trivial⟩) ((law05_BoardHolds_eq _ _ _ _ _ _ _).trans h1) fun v objs' hd => ?_
  unfold law05_BoardHoldsd at hd
  split at hd
  ·skip
   cases hd
   exact h2
  ·cases hd
 ·exact ho _ _ _ _ _ h
end Go.Kk.KkBH
