/- Printed by a tool of this project (KkGen): the program's functions come to the plain ones. -/
import Derived.Test.YtbeinkbjmmbloaaGreatDoorKkST
namespace Go.Kk.KkST
noncomputable section
open Go.Proofs Go.Kk.Pl
set_option maxRecDepth 100000
set_option maxHeartbeats 4000000
def qMw : Ex -> List V -> List Obj -> Option (Int × Int × Nat × Int × Int × LI × LI × Int × LL × LL × List (LI × LI) × Nat × LI) := fun e vs objs => match e, vs, objs with
 | .exit 2, [.s (.ptr 0 0 none 0), .s (.i .i64 y0), .s (.mp 1), .s (.i .i64 y1), .s (.sl 2 0 y2 true), .s (.i .i64 y3), .s (.i .i64 y4)], [.rcells 49 [.arr .i8 81 y5, .arr .i8 16 y6, .one [.i .i8 y7], .rows [.i .u64, .i .u64] 32 y8, .rows [.i .u64, .i .u64] 2 y9], .map false true [.i .i64] [.i .u64, .i .u64] y10, .sli 3 false (.arr .i64 y11 y12)] => some (y0, y1, y2, y3, y4, y5, y6, y7, y8, y9, y10, y11, y12)
 | _, _, _ => none
def qMu : Ex -> List V -> List Obj -> Option (LI × LI × Int × LL × LL × List (LI × LI)) := fun e vs objs => match e, vs, objs with
 | .exit 0, [.s (.mp 1)], [.rcells 49 [.arr .i8 81 y0, .arr .i8 16 y1, .one [.i .i8 y2], .rows [.i .u64, .i .u64] 32 y3, .rows [.i .u64, .i .u64] 2 y4], .map false true [.i .i64] [.i .u64, .i .u64] y5] => some (y0, y1, y2, y3, y4, y5)
 | _, _, _ => none
def qMz : HL := fun vs objs K => match vs, objs with
 | [.s (.ptr 0 0 none 0), .s (.i .i64 x0), .s (.mp 1), .s (.i .i64 x1), .s (.sl 2 0 x2 true), .s (.i .i64 x3), .s (.i .i64 x4), .s (.sl 3 0 x5 true), .s (.i .i64 x6), .s (.i .i64 x7)], [.rcells 49 [.arr .i8 81 x8, .arr .i8 16 x9, .one [.i .i8 x10], .rows [.i .u64, .i .u64] 32 x11, .rows [.i .u64, .i .u64] 2 x12], .map false true [.i .i64] [.i .u64, .i .u64] x13, .sli 3 false (.arr .i64 x14 x15), .sli 3 false (.arr .i64 x16 x17)] => ob (qEs qC x0 x1 x2 x3 x4 x5 x6 x7 x8 x9 x10 x11 x12 x13 x14 x15 x16 x17) fun z => K (.exit 2) ([.s (.ptr 0 0 none 0), .s (.i .i64 (z.1)), .s (.mp 1), .s (.i .i64 (z.2.1)), .s (.sl 2 0 (z.2.2.1) true), .s (.i .i64 (z.2.2.2.1)), .s (.i .i64 (z.2.2.2.2.1))]) ([.rcells 49 [.arr .i8 81 (z.2.2.2.2.2.1), .arr .i8 16 (z.2.2.2.2.2.2.1), .one [.i .i8 (z.2.2.2.2.2.2.2.1)], .rows [.i .u64, .i .u64] 32 (z.2.2.2.2.2.2.2.2.1), .rows [.i .u64, .i .u64] 2 (z.2.2.2.2.2.2.2.2.2.1)], .map false true [.i .i64] [.i .u64, .i .u64] (z.2.2.2.2.2.2.2.2.2.2.1), .sli 3 false (.arr .i64 (z.2.2.2.2.2.2.2.2.2.2.2.1) (z.2.2.2.2.2.2.2.2.2.2.2.2))])
 | _, _ => none
def qMy : HL := fun vs objs K => match vs, objs with
 | [.s (.ptr 0 0 none 0), .s (.i .i64 x0), .s (.mp 1), .s (.i .i64 x1), .s (.sl 2 0 x2 true), .s (.i .i64 x3), .s (.i .i64 x4)], [.rcells 49 [.arr .i8 81 x5, .arr .i8 16 x6, .one [.i .i8 x7], .rows [.i .u64, .i .u64] 32 x8, .rows [.i .u64, .i .u64] 2 x9], .map false true [.i .i64] [.i .u64, .i .u64] x10, .sli 3 false (.arr .i64 x11 x12)] => ob (qEr qC x0 x1 x2 x3 x4 x5 x6 x7 x8 x9 x10 x11 x12) fun z => K (.exit 0) ([.s (.mp 1)]) ([.rcells 49 [.arr .i8 81 (z.1), .arr .i8 16 (z.2.1), .one [.i .i8 (z.2.2.1)], .rows [.i .u64, .i .u64] 32 (z.2.2.2.1), .rows [.i .u64, .i .u64] 2 (z.2.2.2.2.1)], .map false true [.i .i64] [.i .u64, .i .u64] (z.2.2.2.2.2)])
 | _, _ => none
def qdr : {R : Type} -> Nat -> List V -> List Obj -> (Ex -> List V -> List Obj -> Option R) -> Option R := fun q vs objs K => bif Nat.beq q 9 then qMz vs objs K else bif Nat.beq q 6 then qMy vs objs K else none
def qGo : Ctx := mkC 89 ((qEb (qGX (qLi (qJi (qF0 (qL9 (qIE (qNQ (qL7 (qFj (qGv (qPk (qJh (qF2 (qKH qL)))))))))))))))) [(6, [0, 1, 5, 6, 21, 22, 23], [5]), (9, [0, 1, 5, 6, 21, 22, 23, 32, 33, 34], [0, 1, 5, 6, 21, 22, 23])] qdr
theorem qMt : CtxOK Tryz.prog qGo := mkC_ok ((qFn _ (qIF _ (qPp _ (qMI _ (qGq _ (qQ1 _ (qJf _ (qTB _ (qQz _ (qGT _ (qIj _ (qYQ _ (qMH _ (qGt _ (qNM _ qN))))))))))))))))
def qMx (f : Nat) (x0 x1 : Int) (x2 : Nat) (x3 x4 : Int) (x5 : Nat) (x6 x7 : Int) (x8 x9 : LI) (x10 : Int) (x11 x12 : LL) (x13 : List (LI × LI)) (x14 : Nat) (x15 : LI) (x16 : Nat) (x17 : LI) : Option (Int × Int × Nat × Int × Int × LI × LI × Int × LL × LL × List (LI × LI) × Nat × LI) := qh qGo 1 [0, 1, 5, 6, 21, 22, 23, 32, 33, 34] [0, 1, 5, 6, 21, 22, 23] (qG Tryz.f50 9) f ([.s (.ptr 0 0 none 0), .s (.i .i64 x0), .s (.mp 1), .s (.i .i64 x1), .s (.sl 2 0 x2 true), .s (.i .i64 x3), .s (.i .i64 x4), .s (.sl 3 0 x5 true), .s (.i .i64 x6), .s (.i .i64 x7)]) ([.rcells 49 [.arr .i8 81 x8, .arr .i8 16 x9, .one [.i .i8 x10], .rows [.i .u64, .i .u64] 32 x11, .rows [.i .u64, .i .u64] 2 x12], .map false true [.i .i64] [.i .u64, .i .u64] x13, .sli 3 false (.arr .i64 x14 x15), .sli 3 false (.arr .i64 x16 x17)]) qMw
theorem qdq (f : Nat) (x0 x1 : Int) (x2 : Nat) (x3 x4 : Int) (x5 : Nat) (x6 x7 : Int) (x8 x9 : LI) (x10 : Int) (x11 x12 : LL) (x13 : List (LI × LI)) (x14 : Nat) (x15 : LI) (x16 : Nat) (x17 : LI) : qMx (f + 1) x0 x1 x2 x3 x4 x5 x6 x7 x8 x9 x10 x11 x12 x13 x14 x15 x16 x17 = qFy (qMx f) x0 x1 x2 x3 x4 x5 x6 x7 x8 x9 x10 x11 x12 x13 x14 x15 x16 x17 := by kernel_rfl
theorem qSV : ∀ f, qMx f = qEs f
 | 0 => rfl
 | f + 1 => by funext x0 x1 x2 x3 x4 x5 x6 x7 x8 x9 x10 x11 x12 x13 x14 x15 x16 x17; rw [qdq, qSV f]; rfl
def qMv (f : Nat) (x0 x1 : Int) (x2 : Nat) (x3 x4 : Int) (x5 x6 : LI) (x7 : Int) (x8 x9 : LL) (x10 : List (LI × LI)) (x11 : Nat) (x12 : LI) : Option (LI × LI × Int × LL × LL × List (LI × LI)) := qh qGo 1 [0, 1, 5, 6, 21, 22, 23] [5] (qG Tryz.f50 6) f ([.s (.ptr 0 0 none 0), .s (.i .i64 x0), .s (.mp 1), .s (.i .i64 x1), .s (.sl 2 0 x2 true), .s (.i .i64 x3), .s (.i .i64 x4)]) ([.rcells 49 [.arr .i8 81 x5, .arr .i8 16 x6, .one [.i .i8 x7], .rows [.i .u64, .i .u64] 32 x8, .rows [.i .u64, .i .u64] 2 x9], .map false true [.i .i64] [.i .u64, .i .u64] x10, .sli 3 false (.arr .i64 x11 x12)]) qMu
theorem qdp (f : Nat) (x0 x1 : Int) (x2 : Nat) (x3 x4 : Int) (x5 x6 : LI) (x7 : Int) (x8 x9 : LL) (x10 : List (LI × LI)) (x11 : Nat) (x12 : LI) : qMv (f + 1) x0 x1 x2 x3 x4 x5 x6 x7 x8 x9 x10 x11 x12 = qGp (qMv f) x0 x1 x2 x3 x4 x5 x6 x7 x8 x9 x10 x11 x12 := by kernel_rfl
theorem qSU : ∀ f, qMv f = qEr f
 | 0 => rfl
 | f + 1 => by funext x0 x1 x2 x3 x4 x5 x6 x7 x8 x9 x10 x11 x12; rw [qdp, qSU f]; rfl
theorem qdu : qf Tryz.prog qGo 1 (qG Tryz.f50 9) :=
 ql mixed qMt (qT.of (l' := []) (by kernel_rfl) trivial) (q := 9) (kin := [0, 1, 5, 6, 21, 22, 23, 32, 33, 34]) (kout := [0, 1, 5, 6, 21, 22, 23]) (by kernel_rfl) (by kernel_rfl) fun vs objs K r h => by
  replace h : qMz vs objs K = some r := h
  unfold qMz at h
  split at h
  ·skip
   obtain ⟨t, h1, h2⟩ := qE h
   rw [<- qSV] at h1
   refine ⟨_, qMw, t, qC, h1, fun e vs' objs' hd => ?_⟩
   unfold qMw at hd;split at hd;(cases hd;exact h2);cases hd
  ·cases h
theorem qdt : qf Tryz.prog qGo 1 (qG Tryz.f50 6) :=
 ql mixed qMt (qT.of (l' := [qG Tryz.f50 9]) (by kernel_rfl) ⟨qdu, trivial⟩) (q := 6) (kin := [0, 1, 5, 6, 21, 22, 23]) (kout := [5]) (by kernel_rfl) (by kernel_rfl) fun vs objs K r h => by
  replace h : qMy vs objs K = some r := h
  unfold qMy at h
  split at h
  ·skip
   obtain ⟨t, h1, h2⟩ := qE h
   rw [<- qSU] at h1
   refine ⟨_, qMu, t, qC, h1, fun e vs' objs' hd => ?_⟩
   unfold qMu at hd;split at hd;(cases hd;exact h2);cases hd
  ·cases h
def qST : V -> List Obj -> Option (List (LI × LI)) := fun v objs => match v, objs with
 | .s (.mp 1), [.map false true [.i .i64] [.i .u64, .i .u64] y0] => some (y0)
 | _, _ => none
theorem qdo (x0 : Int) (x1 x2 : LI) (x3 : Int) (x4 x5 : LL) : fnE qGo Tryz.f50 ([.s (.ptr 0 0 none 0), .s (.i .i64 x0)]) ([.rcells 49 [.arr .i8 81 x1, .arr .i8 16 x2, .one [.i .i8 x3], .rows [.i .u64, .i .u64] 32 x4, .rows [.i .u64, .i .u64] 2 x5]]) (qAa 1 qST) = qGn x0 x1 x2 x3 x4 x5 := by kernel_rfl
def qSS : HA := fun o vs objs K => match vs, List.map Obj.toRO objs with
 | [.s (.ptr 0 0 none 0), .s (.i .i64 x0)], [.rcells 49 [.arr .i8 81 x1, .arr .i8 16 x2, .one [.i .i8 x3], .rows [.i .u64, .i .u64] 32 x4, .rows [.i .u64, .i .u64] 2 x5]] => ob (qGn x0 x1 x2 x3 x4 x5) fun y0 => K true (.s (.mp 1)) ([.map false true [.i .i64] [.i .u64, .i .u64] y0])
 | _, _ => o 50 vs objs K
def qSW (o : Orc) : Orc := qM 50 (qSS o) o
theorem qds : OQ Tryz.prog qSW := fun _ ho => qP ho fun vs objs K r h => by
 unfold qSS at h
 split at h
 ·skip
  have hq : List.map Obj.toRO objs = _ := (by rename_i hq; first | exact hq | assumption)
  obtain ⟨t, h1, h2⟩ := qE h
  refine qAi mixed qMt (m := 1) (fn := Tryz.f50) (b := (Tryz.f50).body.getD .skip) (by kernel_rfl) (by kernel_rfl) (by kernel_rfl) hq (by kernel_rfl) (by kernel_rfl) (qT.of (l' := [qG Tryz.f50 6]) (by kernel_rfl) ⟨qdt, trivial⟩) ((qdo _ _ _ _ _ _).trans h1) fun v objs' hd => ?_
  unfold qST at hd;split at hd;(cases hd;exact h2);cases hd
 ·exact ho _ _ _ _ _ h
def qMp : Ex -> List V -> List Obj -> Option (LI × LI × Int × LL × LL × Int × Int × Int × Int) := fun e vs objs => match e, vs, objs with
 | .exit 0, [.s (.ptr 1 0 none 0), .s (.ptr 2 0 none 0)], [.rcells 49 [.arr .i8 81 y0, .arr .i8 16 y1, .one [.i .i8 y2], .rows [.i .u64, .i .u64] 32 y3, .rows [.i .u64, .i .u64] 2 y4], .cells 45 [.one [.i .u64 y5, .i .u64 y6]], .cells 45 [.one [.i .u64 y7, .i .u64 y8]]] => some (y0, y1, y2, y3, y4, y5, y6, y7, y8)
 | _, _, _ => none
def qMs : HL := fun vs objs K => match vs, objs with
 | [.s (.ptr 0 0 none 0), .s (.i .i64 x0), .s (.i .i64 x1), .s (.ptr 1 0 none 0), .s (.ptr 2 0 none 0), .s (.ptr 3 0 none 0), .s (.i .i64 x2)], [.rcells 49 [.arr .i8 81 x3, .arr .i8 16 x4, .one [.i .i8 x5], .rows [.i .u64, .i .u64] 32 x6, .rows [.i .u64, .i .u64] 2 x7], .cells 45 [.one [.i .u64 x8, .i .u64 x9]], .cells 45 [.one [.i .u64 x10, .i .u64 x11]], .cells 45 [.one [.i .u64 x12, .i .u64 x13]]] => ob (qDx qC x0 x1 x2 x3 x4 x5 x6 x7 x8 x9 x10 x11 x12 x13) fun z => K (.exit 0) ([.s (.ptr 1 0 none 0), .s (.ptr 2 0 none 0)]) ([.rcells 49 [.arr .i8 81 (z.1), .arr .i8 16 (z.2.1), .one [.i .i8 (z.2.2.1)], .rows [.i .u64, .i .u64] 32 (z.2.2.2.1), .rows [.i .u64, .i .u64] 2 (z.2.2.2.2.1)], .cells 45 [.one [.i .u64 (z.2.2.2.2.2.1), .i .u64 (z.2.2.2.2.2.2.1)]], .cells 45 [.one [.i .u64 (z.2.2.2.2.2.2.2.1), .i .u64 (z.2.2.2.2.2.2.2.2)]]])
 | _, _ => none
def qdm : {R : Type} -> Nat -> List V -> List Obj -> (Ex -> List V -> List Obj -> Option R) -> Option R := fun q vs objs K => bif Nat.beq q 5 then qMs vs objs K else none
def qJ9 : Ctx := mkC 49 ((qGY (qFj (qF2 (qLi (qDd qL)))))) [(5, [0, 1, 2, 7, 8, 9, 10], [8, 9])] qdm
theorem qSO : CtxOK Tryz.prog qJ9 := mkC_ok ((qIJ _ (qGT _ (qGt _ (qPp _ (qEG _ qN))))))
def qMq (f : Nat) (x0 x1 x2 : Int) (x3 x4 : LI) (x5 : Int) (x6 x7 : LL) (x8 x9 : Int) (x10 x11 : Int) (x12 x13 : Int) : Option (LI × LI × Int × LL × LL × Int × Int × Int × Int) := qh qJ9 1 [0, 1, 2, 7, 8, 9, 10] [8, 9] (qG Tryz.f64 5) f ([.s (.ptr 0 0 none 0), .s (.i .i64 x0), .s (.i .i64 x1), .s (.ptr 1 0 none 0), .s (.ptr 2 0 none 0), .s (.ptr 3 0 none 0), .s (.i .i64 x2)]) ([.rcells 49 [.arr .i8 81 x3, .arr .i8 16 x4, .one [.i .i8 x5], .rows [.i .u64, .i .u64] 32 x6, .rows [.i .u64, .i .u64] 2 x7], .cells 45 [.one [.i .u64 x8, .i .u64 x9]], .cells 45 [.one [.i .u64 x10, .i .u64 x11]], .cells 45 [.one [.i .u64 x12, .i .u64 x13]]]) qMp
theorem qdl (f : Nat) (x0 x1 x2 : Int) (x3 x4 : LI) (x5 : Int) (x6 x7 : LL) (x8 x9 : Int) (x10 x11 : Int) (x12 x13 : Int) : qMq (f + 1) x0 x1 x2 x3 x4 x5 x6 x7 x8 x9 x10 x11 x12 x13 = qGm (qMq f) x0 x1 x2 x3 x4 x5 x6 x7 x8 x9 x10 x11 x12 x13 := by kernel_rfl
theorem qSQ : ∀ f, qMq f = qDx f
 | 0 => rfl
 | f + 1 => by funext x0 x1 x2 x3 x4 x5 x6 x7 x8 x9 x10 x11 x12 x13; rw [qdl, qSQ f]; rfl
theorem qdn : qf Tryz.prog qJ9 1 (qG Tryz.f64 5) :=
 ql mixed qSO (qT.of (l' := []) (by kernel_rfl) trivial) (q := 5) (kin := [0, 1, 2, 7, 8, 9, 10]) (kout := [8, 9]) (by kernel_rfl) (by kernel_rfl) fun vs objs K r h => by
  replace h : qMs vs objs K = some r := h
  unfold qMs at h
  split at h
  ·skip
   obtain ⟨t, h1, h2⟩ := qE h
   rw [<- qSQ] at h1
   refine ⟨_, qMp, t, qC, h1, fun e vs' objs' hd => ?_⟩
   unfold qMp at hd;split at hd;(cases hd;exact h2);cases hd
  ·cases h
def qSP : V -> List Obj -> Option (Int × Int) := fun v objs => match v, objs with
 | .agg [.one [.i .u64 y0, .i .u64 y1]], [] => some (y0, y1)
 | _, _ => none
theorem qdk (x0 x1 : Int) (x2 x3 : Int) (x4 x5 : LI) (x6 : Int) (x7 x8 : LL) : fnE qJ9 Tryz.f64 ([.s (.ptr 0 0 none 0), .s (.i .i64 x0), .s (.i .i64 x1), .agg [.one [.i .u64 x2, .i .u64 x3]]]) ([.rcells 49 [.arr .i8 81 x4, .arr .i8 16 x5, .one [.i .i8 x6], .rows [.i .u64, .i .u64] 32 x7, .rows [.i .u64, .i .u64] 2 x8]]) (qAa 1 qSP) = qGl x0 x1 x2 x3 x4 x5 x6 x7 x8 := by kernel_rfl
def qSN : HA := fun o vs objs K => match vs, List.map Obj.toRO objs with
 | [.s (.ptr 0 0 none 0), .s (.i .i64 x0), .s (.i .i64 x1), .agg [.one [.i .u64 x2, .i .u64 x3]]], [.rcells 49 [.arr .i8 81 x4, .arr .i8 16 x5, .one [.i .i8 x6], .rows [.i .u64, .i .u64] 32 x7, .rows [.i .u64, .i .u64] 2 x8]] => ob (qGl x0 x1 x2 x3 x4 x5 x6 x7 x8) fun z => K true (.agg [.one [.i .u64 (z.1), .i .u64 (z.2)]]) ([])
 | _, _ => o 64 vs objs K
def qMr (o : Orc) : Orc := qM 64 (qSN o) o
theorem qSR : OQ Tryz.prog qMr := fun _ ho => qP ho fun vs objs K r h => by
 unfold qSN at h
 split at h
 ·skip
  have hq : List.map Obj.toRO objs = _ := (by rename_i hq; first | exact hq | assumption)
  obtain ⟨t, h1, h2⟩ := qE h
  refine qAi mixed qSO (m := 1) (fn := Tryz.f64) (b := (Tryz.f64).body.getD .skip) (by kernel_rfl) (by kernel_rfl) (by kernel_rfl) hq (by kernel_rfl) (by kernel_rfl) (qT.of (l' := [qG Tryz.f64 5]) (by kernel_rfl) ⟨qdn, trivial⟩) ((qdk _ _ _ _ _ _ _ _ _).trans h1) fun v objs' hd => ?_
  unfold qSP at hd;split at hd;(cases hd;exact h2);cases hd
 ·exact ho _ _ _ _ _ h
def qSG : Ctx := mkC 14 ((qMr (qGv (qKH qL)))) [] qV
theorem qdf : CtxOK Tryz.prog qSG := mkC_ok ((qSR _ (qIj _ (qNM _ qN))))
def qSH : V -> List Obj -> Option (Int × Int) := fun v objs => match v, objs with
 | .agg [.one [.i .u64 y0, .i .u64 y1]], [] => some (y0, y1)
 | _, _ => none
theorem qde (x0 : Int) (x1 x2 : LI) (x3 : Int) (x4 x5 : LL) : fnE qSG Tryz.f51 ([.s (.ptr 0 0 none 0), .s (.i .i64 x0)]) ([.rcells 49 [.arr .i8 81 x1, .arr .i8 16 x2, .one [.i .i8 x3], .rows [.i .u64, .i .u64] 32 x4, .rows [.i .u64, .i .u64] 2 x5]]) (qAa 1 qSH) = qFx x0 x1 x2 x3 x4 x5 := by kernel_rfl
def qSF : HA := fun o vs objs K => match vs, List.map Obj.toRO objs with
 | [.s (.ptr 0 0 none 0), .s (.i .i64 x0)], [.rcells 49 [.arr .i8 81 x1, .arr .i8 16 x2, .one [.i .i8 x3], .rows [.i .u64, .i .u64] 32 x4, .rows [.i .u64, .i .u64] 2 x5]] => ob (qFx x0 x1 x2 x3 x4 x5) fun z => K true (.agg [.one [.i .u64 (z.1), .i .u64 (z.2)]]) ([])
 | _, _ => o 51 vs objs K
def qJ8 (o : Orc) : Orc := qM 51 (qSF o) o
theorem qMo : OQ Tryz.prog qJ8 := fun _ ho => qP ho fun vs objs K r h => by
 unfold qSF at h
 split at h
 ·skip
  have hq : List.map Obj.toRO objs = _ := (by rename_i hq; first | exact hq | assumption)
  obtain ⟨t, h1, h2⟩ := qE h
  refine qAi mixed qdf (m := 1) (fn := Tryz.f51) (b := (Tryz.f51).body.getD .skip) (by kernel_rfl) (by kernel_rfl) (by kernel_rfl) hq (by kernel_rfl) (by kernel_rfl) (qT.of (l' := []) (by kernel_rfl) trivial) ((qde _ _ _ _ _ _).trans h1) fun v objs' hd => ?_
  unfold qSH at hd;split at hd;(cases hd;exact h2);cases hd
 ·exact ho _ _ _ _ _ h
def qWK : Ctx := mkC 44 ((qGY (qPk (qL9 (qL7 (qJ8 (qSW (qJe (qKH qL))))))))) [] qV
theorem qiW : CtxOK Tryz.prog qWK := mkC_ok ((qIJ _ (qYQ _ (qQ1 _ (qQz _ (qMo _ (qds _ (qL6 _ (qNM _ qN)))))))))
def qWL : V -> List Obj -> Option (Int × Int × Int × Int × Bool × List (LI × LI)) := fun v objs => match v, objs with
 | .agg [.one [.ptr 0 0 none 0, .i .i64 y0, .i .i64 y1, .i .u64 y2, .i .u64 y3, .mp 1, .b y4]], [.map false true [.i .i64] [.i .u64, .i .u64] y5] => some (y0, y1, y2, y3, y4, y5)
 | _, _ => none
theorem qiV (x0 x1 : LI) (x2 : Int) (x3 x4 : LL) : fnE qWK Tryz.f18 ([.s (.ptr 0 0 none 0)]) ([.rcells 49 [.arr .i8 81 x0, .arr .i8 16 x1, .one [.i .i8 x2], .rows [.i .u64, .i .u64] 32 x3, .rows [.i .u64, .i .u64] 2 x4]]) (qAa 1 qWL) = qHS x0 x1 x2 x3 x4 := by kernel_rfl
def qWJ : HA := fun o vs objs K => match vs, List.map Obj.toRO objs with
 | [.s (.ptr 0 0 none 0)], [.rcells 49 [.arr .i8 81 x0, .arr .i8 16 x1, .one [.i .i8 x2], .rows [.i .u64, .i .u64] 32 x3, .rows [.i .u64, .i .u64] 2 x4]] => ob (qHS x0 x1 x2 x3 x4) fun z => K true (.agg [.one [.ptr 0 0 none 0, .i .i64 (z.1), .i .i64 (z.2.1), .i .u64 (z.2.2.1), .i .u64 (z.2.2.2.1), .mp 1, .b (z.2.2.2.2.1)]]) ([.map false true [.i .i64] [.i .u64, .i .u64] (z.2.2.2.2.2)])
 | _, _ => o 18 vs objs K
def qO2 (o : Orc) : Orc := qM 18 (qWJ o) o
theorem qWM : OQ Tryz.prog qO2 := fun _ ho => qP ho fun vs objs K r h => by
 unfold qWJ at h
 split at h
 ·skip
  have hq : List.map Obj.toRO objs = _ := (by rename_i hq; first | exact hq | assumption)
  obtain ⟨t, h1, h2⟩ := qE h
  refine qAi mixed qiW (m := 1) (fn := Tryz.f18) (b := (Tryz.f18).body.getD .skip) (by kernel_rfl) (by kernel_rfl) (by kernel_rfl) hq (by kernel_rfl) (by kernel_rfl) (qT.of (l' := []) (by kernel_rfl) trivial) ((qiV _ _ _ _ _).trans h1) fun v objs' hd => ?_
  unfold qWL at hd;split at hd;(cases hd;exact h2);cases hd
 ·exact ho _ _ _ _ _ h
def qX8 : Ctx := mkC 13 (qL) [] qV
theorem qk5 : CtxOK Tryz.prog qX8 := mkC_ok (qN)
def qX9 : V -> List Obj -> Option (Int) := fun v objs => match v, objs with
 | .s (.i .i64 y0), [] => some (y0)
 | _, _ => none
theorem qk4 (x0 : Int) : fnE qX8 Tryz.f42 ([.s (.i .i64 x0)]) ([]) qX9 = qCk x0 := by kernel_rfl
def qX7 : HA := fun o vs objs K => match vs, objs with
 | [.s (.i .i64 x0)], [] => ob (qCk x0) fun y0 => K false (.s (.i .i64 y0)) ([])
 | _, _ => o 42 vs objs K
def qJK (o : Orc) : Orc := qM 42 (qX7 o) o
theorem qLY : OQ Tryz.prog qJK := fun _ ho => qP ho fun vs objs K r h => by
 unfold qX7 at h
 split at h
 ·skip
  obtain ⟨t, h1, h2⟩ := qE h
  refine qc mixed qk5 ((qk4 _).trans h1) (by kernel_rfl) fun v objs' hd => ?_
  unfold qX9 at hd;split at hd;(cases hd;exact h2);cases hd
 ·exact ho _ _ _ _ _ h
def qcM : Ctx := mkC 23 ((qME qL)) [] qV
theorem qpV : CtxOK Tryz.prog qcM := mkC_ok ((qRA _ qN))
def qcN : V -> List Obj -> Option (Int) := fun v objs => match v, objs with
 | .s (.i .i64 y0), [] => some (y0)
 | _, _ => none
theorem qpU (x0 x1 : Int) : fnE qcM Tryz.f110 ([.s (.i .i64 x0), .s (.i .i64 x1)]) ([]) qcN = qFq x0 x1 := by kernel_rfl
def qcL : HA := fun o vs objs K => match vs, objs with
 | [.s (.i .i64 x0), .s (.i .i64 x1)], [] => ob (qFq x0 x1) fun y0 => K false (.s (.i .i64 y0)) ([])
 | _, _ => o 110 vs objs K
def qRU (o : Orc) : Orc := qM 110 (qcL o) o
theorem qcO : OQ Tryz.prog qRU := fun _ ho => qP ho fun vs objs K r h => by
 unfold qcL at h
 split at h
 ·skip
  obtain ⟨t, h1, h2⟩ := qE h
  refine qc mixed qpV ((qpU _ _).trans h1) (by kernel_rfl) fun v objs' hd => ?_
  unfold qcN at hd;split at hd;(cases hd;exact h2);cases hd
 ·exact ho _ _ _ _ _ h
def qRY : Ex -> List V -> List Obj -> Option (Int × Int × Int × Int) := fun e vs objs => match e, vs, objs with
 | .exit 0, [.s (.ptr 0 0 none 0), .s (.ptr 1 0 none 0)], [.cells 45 [.one [.i .u64 y0, .i .u64 y1]], .cells 45 [.one [.i .u64 y2, .i .u64 y3]]] => some (y0, y1, y2, y3)
 | _, _, _ => none
def qRa : HL := fun vs objs K => match vs, objs with
 | [.s (.i .i64 x0), .s (.ptr 0 0 none 0), .s (.ptr 1 0 none 0), .s (.i .i64 x1)], [.cells 45 [.one [.i .u64 x2, .i .u64 x3]], .cells 45 [.one [.i .u64 x4, .i .u64 x5]]] => ob (qMT qC x0 x1 x2 x3 x4 x5) fun z => K (.exit 0) ([.s (.ptr 0 0 none 0), .s (.ptr 1 0 none 0)]) ([.cells 45 [.one [.i .u64 (z.1), .i .u64 (z.2.1)]], .cells 45 [.one [.i .u64 (z.2.2.1), .i .u64 (z.2.2.2)]]])
 | _, _ => none
def qpd : {R : Type} -> Nat -> List V -> List Obj -> (Ex -> List V -> List Obj -> Option R) -> Option R := fun q vs objs K => bif Nat.beq q 3 then qRa vs objs K else none
def qMS : Ctx := mkC 23 ((qEb (qRU qL))) [(3, [0, 2, 3, 6], [2, 3])] qpd
theorem qcV : CtxOK Tryz.prog qMS := mkC_ok ((qFn _ (qcO _ qN)))
def qRZ (f : Nat) (x0 x1 : Int) (x2 x3 : Int) (x4 x5 : Int) : Option (Int × Int × Int × Int) := qh qMS 0 [0, 2, 3, 6] [2, 3] (qG Tryz.f92 3) f ([.s (.i .i64 x0), .s (.ptr 0 0 none 0), .s (.ptr 1 0 none 0), .s (.i .i64 x1)]) ([.cells 45 [.one [.i .u64 x2, .i .u64 x3]], .cells 45 [.one [.i .u64 x4, .i .u64 x5]]]) qRY
theorem qpc (f : Nat) (x0 x1 : Int) (x2 x3 : Int) (x4 x5 : Int) : qRZ (f + 1) x0 x1 x2 x3 x4 x5 = qcY (qRZ f) x0 x1 x2 x3 x4 x5 := by kernel_rfl
theorem qcX : ∀ f, qRZ f = qMT f
 | 0 => rfl
 | f + 1 => by funext x0 x1 x2 x3 x4 x5; rw [qpc, qcX f]; rfl
theorem qpf : qf Tryz.prog qMS 0 (qG Tryz.f92 3) :=
 ql mixed qcV (qT.of (l' := []) (by kernel_rfl) trivial) (q := 3) (kin := [0, 2, 3, 6]) (kout := [2, 3]) (by kernel_rfl) (by kernel_rfl) fun vs objs K r h => by
  replace h : qRa vs objs K = some r := h
  unfold qRa at h
  split at h
  ·skip
   obtain ⟨t, h1, h2⟩ := qE h
   rw [<- qcX] at h1
   refine ⟨_, qRY, t, qC, h1, fun e vs' objs' hd => ?_⟩
   unfold qRY at hd;split at hd;(cases hd;exact h2);cases hd
  ·cases h
def qcW : V -> List Obj -> Option (Int × Int) := fun v objs => match v, objs with
 | .agg [.one [.i .u64 y0, .i .u64 y1]], [] => some (y0, y1)
 | _, _ => none
theorem qpb (x0 : Int) : fnE qMS Tryz.f92 ([.s (.i .i64 x0)]) ([]) qcW = qJm x0 := by kernel_rfl
def qcU : HA := fun o vs objs K => match vs, objs with
 | [.s (.i .i64 x0)], [] => ob (qJm x0) fun z => K false (.agg [.one [.i .u64 (z.1), .i .u64 (z.2)]]) ([])
 | _, _ => o 92 vs objs K
def qcZ (o : Orc) : Orc := qM 92 (qcU o) o
theorem qpe : OQ Tryz.prog qcZ := fun _ ho => qP ho fun vs objs K r h => by
 unfold qcU at h
 split at h
 ·skip
  obtain ⟨t, h1, h2⟩ := qE h
  refine qAY mixed qcV (fn := Tryz.f92) (b := (Tryz.f92).body.getD .skip) (by kernel_rfl) (by kernel_rfl) (by kernel_rfl) ((qpb _).trans h1) (m := 0) rfl (qT.of (l' := [qG Tryz.f92 3]) (by kernel_rfl) ⟨qpf, trivial⟩) fun v objs' hd => ?_
  unfold qcW at hd;split at hd;(cases hd;exact h2);cases hd
 ·exact ho _ _ _ _ _ h
def qb9 : Ctx := mkC 25 ((qCP (qRU (qDe qL)))) [] qV
theorem qpK : CtxOK Tryz.prog qb9 := mkC_ok ((qCi _ (qcO _ (qEH _ qN))))
def qcA : V -> List Obj -> Option (Bool) := fun v objs => match v, objs with
 | .s (.b y0), [] => some (y0)
 | _, _ => none
theorem qpJ (x0 x1 : Int) : fnE qb9 Tryz.f93 ([.s (.i .i8 x0), .s (.i .i64 x1)]) ([]) qcA = qDq x0 x1 := by kernel_rfl
def qb8 : HA := fun o vs objs K => match vs, objs with
 | [.s (.i .i8 x0), .s (.i .i64 x1)], [] => ob (qDq x0 x1) fun y0 => K false (.s (.b y0)) ([])
 | _, _ => o 93 vs objs K
def qMQ (o : Orc) : Orc := qM 93 (qb8 o) o
theorem qRQ : OQ Tryz.prog qMQ := fun _ ho => qP ho fun vs objs K r h => by
 unfold qb8 at h
 split at h
 ·skip
  obtain ⟨t, h1, h2⟩ := qE h
  refine qc mixed qpK ((qpJ _ _).trans h1) (by kernel_rfl) fun v objs' hd => ?_
  unfold qcA at hd;split at hd;(cases hd;exact h2);cases hd
 ·exact ho _ _ _ _ _ h
def qVL : Ctx := mkC 27 ((qMQ (qGX (qcZ (qDe (qJK (qCP qL))))))) [] qV
theorem qhP : CtxOK Tryz.prog qVL := mkC_ok ((qRQ _ (qIF _ (qpe _ (qEH _ (qLY _ (qCi _ qN)))))))
def qVM : V -> List Obj -> Option (Bool × Bool) := fun v objs => match v, objs with
 | .tup [W.s (.b y0), W.s (.b y1)], [] => some (y0, y1)
 | _, _ => none
theorem qhO (x0 x1 x2 : Int) : fnE qVL Tryz.f63 ([.s (.i .i8 x0), .s (.i .i64 x1), .s (.i .i64 x2)]) ([]) qVM = qI3 x0 x1 x2 := by kernel_rfl
def qVK : HA := fun o vs objs K => match vs, objs with
 | [.s (.i .i8 x0), .s (.i .i64 x1), .s (.i .i64 x2)], [] => ob (qI3 x0 x1 x2) fun z => K false (.tup [W.s (.b (z.1)), W.s (.b (z.2))]) ([])
 | _, _ => o 63 vs objs K
def qVN (o : Orc) : Orc := qM 63 (qVK o) o
theorem qhQ : OQ Tryz.prog qVN := fun _ ho => qP ho fun vs objs K r h => by
 unfold qVK at h
 split at h
 ·skip
  obtain ⟨t, h1, h2⟩ := qE h
  refine qc mixed qhP ((qhO _ _ _).trans h1) (by kernel_rfl) fun v objs' hd => ?_
  unfold qVM at hd;split at hd;(cases hd;exact h2);cases hd
 ·exact ho _ _ _ _ _ h
def qOE : Ex -> List V -> List Obj -> Option (Nat × Int × Nat × Int × Int × LI × LI × Int × LL × LL × Int × Int × Nat × LL × Int × Int × Nat × LI) := fun e vs objs => match e, vs, objs with
 | .exit 2, [.s (.ptr 0 0 none 0), .s (.ptr 1 0 none 0), .s (.sl 2 0 y0 true), .s (.i .i64 y1), .s (.ptr 3 0 none 0), .s (.sl 4 0 y2 true), .s (.i .i64 y3), .s (.i .i64 y4)], [.rcells 49 [.arr .i8 81 y5, .arr .i8 16 y6, .one [.i .i8 y7], .rows [.i .u64, .i .u64] 32 y8, .rows [.i .u64, .i .u64] 2 y9], .cells 45 [.one [.i .u64 y10, .i .u64 y11]], .sli 53 false (.rows [.i .i64, .i .i64, .i .i64, .b] y12 y13), .cells 45 [.one [.i .u64 y14, .i .u64 y15]], .sli 3 false (.arr .i64 y16 y17)] => some (y0, y1, y2, y3, y4, y5, y6, y7, y8, y9, y10, y11, y12, y13, y14, y15, y16, y17)
 | _, _, _ => none
def qOC : Ex -> List V -> List Obj -> Option (Nat × LI × LI × Int × LL × LL × Nat × LL) := fun e vs objs => match e, vs, objs with
 | .exit 0, [.s (.sl 1 0 y0 true)], [.rcells 49 [.arr .i8 81 y1, .arr .i8 16 y2, .one [.i .i8 y3], .rows [.i .u64, .i .u64] 32 y4, .rows [.i .u64, .i .u64] 2 y5], .sli 53 false (.rows [.i .i64, .i .i64, .i .i64, .b] y6 y7)] => some (y0, y1, y2, y3, y4, y5, y6, y7)
 | _, _, _ => none
def qOI : HL := fun vs objs K => match vs, objs with
 | [.s (.ptr 0 0 none 0), .s (.ptr 1 0 none 0), .s (.sl 2 0 x0 true), .s (.i .i64 x1), .s (.ptr 3 0 none 0), .s (.i .i64 x2), .s (.i .i8 x3), .s (.sl 4 0 x4 true), .s (.i .i64 x5), .s (.i .i64 x6), .s (.sl 5 0 x7 true), .s (.i .i64 x8), .s (.i .i64 x9)], [.rcells 49 [.arr .i8 81 x10, .arr .i8 16 x11, .one [.i .i8 x12], .rows [.i .u64, .i .u64] 32 x13, .rows [.i .u64, .i .u64] 2 x14], .cells 45 [.one [.i .u64 x15, .i .u64 x16]], .sli 53 false (.rows [.i .i64, .i .i64, .i .i64, .b] x17 x18), .cells 45 [.one [.i .u64 x19, .i .u64 x20]], .sli 3 false (.arr .i64 x21 x22), .sli 3 false (.arr .i64 x23 x24)] => ob (qE9 qC x0 x1 x2 x3 x4 x5 x6 x7 x8 x9 x10 x11 x12 x13 x14 x15 x16 x17 x18 x19 x20 x21 x22 x23 x24) fun z => K (.exit 2) ([.s (.ptr 0 0 none 0), .s (.ptr 1 0 none 0), .s (.sl 2 0 (z.1) true), .s (.i .i64 (z.2.1)), .s (.ptr 3 0 none 0), .s (.sl 4 0 (z.2.2.1) true), .s (.i .i64 (z.2.2.2.1)), .s (.i .i64 (z.2.2.2.2.1))]) ([.rcells 49 [.arr .i8 81 (z.2.2.2.2.2.1), .arr .i8 16 (z.2.2.2.2.2.2.1), .one [.i .i8 (z.2.2.2.2.2.2.2.1)], .rows [.i .u64, .i .u64] 32 (z.2.2.2.2.2.2.2.2.1), .rows [.i .u64, .i .u64] 2 (z.2.2.2.2.2.2.2.2.2.1)], .cells 45 [.one [.i .u64 (z.2.2.2.2.2.2.2.2.2.2.1), .i .u64 (z.2.2.2.2.2.2.2.2.2.2.2.1)]], .sli 53 false (.rows [.i .i64, .i .i64, .i .i64, .b] (z.2.2.2.2.2.2.2.2.2.2.2.2.1) (z.2.2.2.2.2.2.2.2.2.2.2.2.2.1)), .cells 45 [.one [.i .u64 (z.2.2.2.2.2.2.2.2.2.2.2.2.2.2.1), .i .u64 (z.2.2.2.2.2.2.2.2.2.2.2.2.2.2.2.1)]], .sli 3 false (.arr .i64 (z.2.2.2.2.2.2.2.2.2.2.2.2.2.2.2.2.1) (z.2.2.2.2.2.2.2.2.2.2.2.2.2.2.2.2.2))])
 | _, _ => none
def qOH : HL := fun vs objs K => match vs, objs with
 | [.s (.ptr 0 0 none 0), .s (.ptr 1 0 none 0), .s (.sl 2 0 x0 true), .s (.i .i64 x1), .s (.ptr 3 0 none 0), .s (.sl 4 0 x2 true), .s (.i .i64 x3), .s (.i .i64 x4)], [.rcells 49 [.arr .i8 81 x5, .arr .i8 16 x6, .one [.i .i8 x7], .rows [.i .u64, .i .u64] 32 x8, .rows [.i .u64, .i .u64] 2 x9], .cells 45 [.one [.i .u64 x10, .i .u64 x11]], .sli 53 false (.rows [.i .i64, .i .i64, .i .i64, .b] x12 x13), .cells 45 [.one [.i .u64 x14, .i .u64 x15]], .sli 3 false (.arr .i64 x16 x17)] => ob (qE8 qC x0 x1 x2 x3 x4 x5 x6 x7 x8 x9 x10 x11 x12 x13 x14 x15 x16 x17) fun z => K (.exit 0) ([.s (.sl 1 0 (z.1) true)]) ([.rcells 49 [.arr .i8 81 (z.2.1), .arr .i8 16 (z.2.2.1), .one [.i .i8 (z.2.2.2.1)], .rows [.i .u64, .i .u64] 32 (z.2.2.2.2.1), .rows [.i .u64, .i .u64] 2 (z.2.2.2.2.2.1)], .sli 53 false (.rows [.i .i64, .i .i64, .i .i64, .b] (z.2.2.2.2.2.2.1) (z.2.2.2.2.2.2.2))])
 | _, _ => none
def qg9 : {R : Type} -> Nat -> List V -> List Obj -> (Ex -> List V -> List Obj -> Option R) -> Option R := fun q vs objs K => bif Nat.beq q 9 then qOI vs objs K else bif Nat.beq q 5 then qOH vs objs K else none
def qHB : Ctx := mkC 82 ((qVN (qFj (qMC (qLi (qGv (qF0 (qJh (qNQ (qGY (qF2 qL))))))))))) [(5, [0, 3, 5, 6, 7, 29, 30, 31], [5]), (9, [0, 3, 5, 6, 7, 9, 10, 29, 30, 31, 51, 52, 53], [0, 3, 5, 6, 7, 29, 30, 31])] qg9
theorem qOB : CtxOK Tryz.prog qHB := mkC_ok ((qhQ _ (qGT _ (qQ6 _ (qPp _ (qIj _ (qGq _ (qMH _ (qTB _ (qIJ _ (qGt _ qN)))))))))))
def qOF (f : Nat) (x0 : Nat) (x1 x2 x3 : Int) (x4 : Nat) (x5 x6 : Int) (x7 : Nat) (x8 x9 : Int) (x10 x11 : LI) (x12 : Int) (x13 x14 : LL) (x15 x16 : Int) (x17 : Nat) (x18 : LL) (x19 x20 : Int) (x21 : Nat) (x22 : LI) (x23 : Nat) (x24 : LI) : Option (Nat × Int × Nat × Int × Int × LI × LI × Int × LL × LL × Int × Int × Nat × LL × Int × Int × Nat × LI) := qh qHB 1 [0, 3, 5, 6, 7, 9, 10, 29, 30, 31, 51, 52, 53] [0, 3, 5, 6, 7, 29, 30, 31] (qG Tryz.f19 9) f ([.s (.ptr 0 0 none 0), .s (.ptr 1 0 none 0), .s (.sl 2 0 x0 true), .s (.i .i64 x1), .s (.ptr 3 0 none 0), .s (.i .i64 x2), .s (.i .i8 x3), .s (.sl 4 0 x4 true), .s (.i .i64 x5), .s (.i .i64 x6), .s (.sl 5 0 x7 true), .s (.i .i64 x8), .s (.i .i64 x9)]) ([.rcells 49 [.arr .i8 81 x10, .arr .i8 16 x11, .one [.i .i8 x12], .rows [.i .u64, .i .u64] 32 x13, .rows [.i .u64, .i .u64] 2 x14], .cells 45 [.one [.i .u64 x15, .i .u64 x16]], .sli 53 false (.rows [.i .i64, .i .i64, .i .i64, .b] x17 x18), .cells 45 [.one [.i .u64 x19, .i .u64 x20]], .sli 3 false (.arr .i64 x21 x22), .sli 3 false (.arr .i64 x23 x24)]) qOE
theorem qg8 (f : Nat) (x0 : Nat) (x1 x2 x3 : Int) (x4 : Nat) (x5 x6 : Int) (x7 : Nat) (x8 x9 : Int) (x10 x11 : LI) (x12 : Int) (x13 x14 : LL) (x15 x16 : Int) (x17 : Nat) (x18 : LL) (x19 x20 : Int) (x21 : Nat) (x22 : LI) (x23 : Nat) (x24 : LI) : qOF (f + 1) x0 x1 x2 x3 x4 x5 x6 x7 x8 x9 x10 x11 x12 x13 x14 x15 x16 x17 x18 x19 x20 x21 x22 x23 x24 = qHD (qOF f) x0 x1 x2 x3 x4 x5 x6 x7 x8 x9 x10 x11 x12 x13 x14 x15 x16 x17 x18 x19 x20 x21 x22 x23 x24 := by kernel_rfl
theorem qU8 : ∀ f, qOF f = qE9 f
 | 0 => rfl
 | f + 1 => by funext x0 x1 x2 x3 x4 x5 x6 x7 x8 x9 x10 x11 x12 x13 x14 x15 x16 x17 x18 x19 x20 x21 x22 x23 x24; rw [qg8, qU8 f]; rfl
def qOD (f : Nat) (x0 : Nat) (x1 : Int) (x2 : Nat) (x3 x4 : Int) (x5 x6 : LI) (x7 : Int) (x8 x9 : LL) (x10 x11 : Int) (x12 : Nat) (x13 : LL) (x14 x15 : Int) (x16 : Nat) (x17 : LI) : Option (Nat × LI × LI × Int × LL × LL × Nat × LL) := qh qHB 1 [0, 3, 5, 6, 7, 29, 30, 31] [5] (qG Tryz.f19 5) f ([.s (.ptr 0 0 none 0), .s (.ptr 1 0 none 0), .s (.sl 2 0 x0 true), .s (.i .i64 x1), .s (.ptr 3 0 none 0), .s (.sl 4 0 x2 true), .s (.i .i64 x3), .s (.i .i64 x4)]) ([.rcells 49 [.arr .i8 81 x5, .arr .i8 16 x6, .one [.i .i8 x7], .rows [.i .u64, .i .u64] 32 x8, .rows [.i .u64, .i .u64] 2 x9], .cells 45 [.one [.i .u64 x10, .i .u64 x11]], .sli 53 false (.rows [.i .i64, .i .i64, .i .i64, .b] x12 x13), .cells 45 [.one [.i .u64 x14, .i .u64 x15]], .sli 3 false (.arr .i64 x16 x17)]) qOC
theorem qg7 (f : Nat) (x0 : Nat) (x1 : Int) (x2 : Nat) (x3 x4 : Int) (x5 x6 : LI) (x7 : Int) (x8 x9 : LL) (x10 x11 : Int) (x12 : Nat) (x13 : LL) (x14 x15 : Int) (x16 : Nat) (x17 : LI) : qOD (f + 1) x0 x1 x2 x3 x4 x5 x6 x7 x8 x9 x10 x11 x12 x13 x14 x15 x16 x17 = qHC (qOD f) x0 x1 x2 x3 x4 x5 x6 x7 x8 x9 x10 x11 x12 x13 x14 x15 x16 x17 := by kernel_rfl
theorem qU7 : ∀ f, qOD f = qE8 f
 | 0 => rfl
 | f + 1 => by funext x0 x1 x2 x3 x4 x5 x6 x7 x8 x9 x10 x11 x12 x13 x14 x15 x16 x17; rw [qg7, qU7 f]; rfl
theorem qhB : qf Tryz.prog qHB 1 (qG Tryz.f19 9) :=
 ql mixed qOB (qT.of (l' := []) (by kernel_rfl) trivial) (q := 9) (kin := [0, 3, 5, 6, 7, 9, 10, 29, 30, 31, 51, 52, 53]) (kout := [0, 3, 5, 6, 7, 29, 30, 31]) (by kernel_rfl) (by kernel_rfl) fun vs objs K r h => by
  replace h : qOI vs objs K = some r := h
  unfold qOI at h
  split at h
  ·skip
   obtain ⟨t, h1, h2⟩ := qE h
   rw [<- qU8] at h1
   refine ⟨_, qOE, t, qC, h1, fun e vs' objs' hd => ?_⟩
   unfold qOE at hd;split at hd;(cases hd;exact h2);cases hd
  ·cases h
theorem qhA : qf Tryz.prog qHB 1 (qG Tryz.f19 5) :=
 ql mixed qOB (qT.of (l' := [qG Tryz.f19 9]) (by kernel_rfl) ⟨qhB, trivial⟩) (q := 5) (kin := [0, 3, 5, 6, 7, 29, 30, 31]) (kout := [5]) (by kernel_rfl) (by kernel_rfl) fun vs objs K r h => by
  replace h : qOH vs objs K = some r := h
  unfold qOH at h
  split at h
  ·skip
   obtain ⟨t, h1, h2⟩ := qE h
   rw [<- qU7] at h1
   refine ⟨_, qOC, t, qC, h1, fun e vs' objs' hd => ?_⟩
   unfold qOC at hd;split at hd;(cases hd;exact h2);cases hd
  ·cases h
def qU6 : V -> List Obj -> Option (Nat × Nat × LL) := fun v objs => match v, objs with
 | .s (.sl 1 0 y0 true), [.sli 53 false (.rows [.i .i64, .i .i64, .i .i64, .b] y1 y2)] => some (y0, y1, y2)
 | _, _ => none
theorem qg6 (x0 x1 : Int) (x2 x3 : LI) (x4 : Int) (x5 x6 : LL) : fnE qHB Tryz.f19 ([.s (.ptr 0 0 none 0), .agg [.one [.i .u64 x0, .i .u64 x1]]]) ([.rcells 49 [.arr .i8 81 x2, .arr .i8 16 x3, .one [.i .i8 x4], .rows [.i .u64, .i .u64] 32 x5, .rows [.i .u64, .i .u64] 2 x6]]) (qAa 1 qU6) = qHA x0 x1 x2 x3 x4 x5 x6 := by kernel_rfl
def qU5 : HA := fun o vs objs K => match vs, List.map Obj.toRO objs with
 | [.s (.ptr 0 0 none 0), .agg [.one [.i .u64 x0, .i .u64 x1]]], [.rcells 49 [.arr .i8 81 x2, .arr .i8 16 x3, .one [.i .i8 x4], .rows [.i .u64, .i .u64] 32 x5, .rows [.i .u64, .i .u64] 2 x6]] => ob (qHA x0 x1 x2 x3 x4 x5 x6) fun z => K true (.s (.sl 1 0 (z.1) true)) ([.sli 53 false (.rows [.i .i64, .i .i64, .i .i64, .b] (z.2.1) (z.2.2))])
 | _, _ => o 19 vs objs K
def qOG (o : Orc) : Orc := qM 19 (qU5 o) o
theorem qU9 : OQ Tryz.prog qOG := fun _ ho => qP ho fun vs objs K r h => by
 unfold qU5 at h
 split at h
 ·skip
  have hq : List.map Obj.toRO objs = _ := (by rename_i hq; first | exact hq | assumption)
  obtain ⟨t, h1, h2⟩ := qE h
  refine qAi mixed qOB (m := 1) (fn := Tryz.f19) (b := (Tryz.f19).body.getD .skip) (by kernel_rfl) (by kernel_rfl) (by kernel_rfl) hq (by kernel_rfl) (by kernel_rfl) (qT.of (l' := [qG Tryz.f19 5]) (by kernel_rfl) ⟨qhA, trivial⟩) ((qg6 _ _ _ _ _ _ _).trans h1) fun v objs' hd => ?_
  unfold qU6 at hd;split at hd;(cases hd;exact h2);cases hd
 ·exact ho _ _ _ _ _ h
def qWO : Ctx := mkC 49 ((qGX (qIE (qMr (qJi (qGv qL)))))) [] qV
theorem qiY : CtxOK Tryz.prog qWO := mkC_ok ((qIF _ (qJf _ (qSR _ (qMI _ (qIj _ qN))))))
def qWP : V -> List Obj -> Option (Bool × LI × LI × Int × LL × LL × List (LI × LI)) := fun v objs => match v, objs with
 | .s (.b y0), [.cells 49 [.arr .i8 81 y1, .arr .i8 16 y2, .one [.i .i8 y3], .rows [.i .u64, .i .u64] 32 y4, .rows [.i .u64, .i .u64] 2 y5], .map false true [.i .i64] [.i .u64, .i .u64] y6] => some (y0, y1, y2, y3, y4, y5, y6)
 | _, _ => none
theorem qiX (x0 x1 : Int) (x2 x3 : Int) (x4 : Bool) (x5 x6 x7 : Int) (x8 : Bool) (x9 x10 : LI) (x11 : Int) (x12 x13 : LL) (x14 : List (LI × LI)) : fnE qWO Tryz.f21 ([.agg [.one [.ptr 0 0 none 0, .i .i64 x0, .i .i64 x1, .i .u64 x2, .i .u64 x3, .mp 1, .b x4]], .agg [.one [.i .i64 x5, .i .i64 x6, .i .i64 x7, .b x8]]]) ([.cells 49 [.arr .i8 81 x9, .arr .i8 16 x10, .one [.i .i8 x11], .rows [.i .u64, .i .u64] 32 x12, .rows [.i .u64, .i .u64] 2 x13], .map false true [.i .i64] [.i .u64, .i .u64] x14]) qWP = qHT x0 x1 x2 x3 x4 x5 x6 x7 x8 x9 x10 x11 x12 x13 x14 := by kernel_rfl
def qWN : HA := fun o vs objs K => match vs, objs with
 | [.agg [.one [.ptr 0 0 none 0, .i .i64 x0, .i .i64 x1, .i .u64 x2, .i .u64 x3, .mp 1, .b x4]], .agg [.one [.i .i64 x5, .i .i64 x6, .i .i64 x7, .b x8]]], [.cells 49 [.arr .i8 81 x9, .arr .i8 16 x10, .one [.i .i8 x11], .rows [.i .u64, .i .u64] 32 x12, .rows [.i .u64, .i .u64] 2 x13], .map false true [.i .i64] [.i .u64, .i .u64] x14] => ob (qHT x0 x1 x2 x3 x4 x5 x6 x7 x8 x9 x10 x11 x12 x13 x14) fun z => K false (.s (.b (z.1))) ([.cells 49 [.arr .i8 81 (z.2.1), .arr .i8 16 (z.2.2.1), .one [.i .i8 (z.2.2.2.1)], .rows [.i .u64, .i .u64] 32 (z.2.2.2.2.1), .rows [.i .u64, .i .u64] 2 (z.2.2.2.2.2.1)], .map false true [.i .i64] [.i .u64, .i .u64] (z.2.2.2.2.2.2)])
 | _, _ => o 21 vs objs K
def qO3 (o : Orc) : Orc := qM 21 (qWN o) o
theorem qWQ : OQ Tryz.prog qO3 := fun _ ho => qP ho fun vs objs K r h => by
 unfold qWN at h
 split at h
 ·skip
  obtain ⟨t, h1, h2⟩ := qE h
  refine qc mixed qiY ((qiX _ _ _ _ _ _ _ _ _ _ _ _ _ _ _).trans h1) (by kernel_rfl) fun v objs' hd => ?_
  unfold qWP at hd;split at hd;(cases hd;exact h2);cases hd
 ·exact ho _ _ _ _ _ h
def qSw : Ctx := mkC 31 (qL) [] qV
theorem qea : CtxOK Tryz.prog qSw := mkC_ok (qN)
def qSx : V -> List Obj -> Option (Int) := fun v objs => match v, objs with
 | .s (.i .i64 y0), [] => some (y0)
 | _, _ => none
theorem qeZ (x0 x1 : Int) (x2 x3 : LI) (x4 : Int) (x5 x6 : LL) : fnE qSw Tryz.f68 ([.s (.ptr 0 0 none 0), .s (.i .i64 x0), .s (.i .i64 x1)]) ([.rcells 49 [.arr .i8 81 x2, .arr .i8 16 x3, .one [.i .i8 x4], .rows [.i .u64, .i .u64] 32 x5, .rows [.i .u64, .i .u64] 2 x6]]) (qAa 1 qSx) = qCZ x0 x1 x2 x3 x4 x5 x6 := by kernel_rfl
def qSv : HA := fun o vs objs K => match vs, List.map Obj.toRO objs with
 | [.s (.ptr 0 0 none 0), .s (.i .i64 x0), .s (.i .i64 x1)], [.rcells 49 [.arr .i8 81 x2, .arr .i8 16 x3, .one [.i .i8 x4], .rows [.i .u64, .i .u64] 32 x5, .rows [.i .u64, .i .u64] 2 x6]] => ob (qCZ x0 x1 x2 x3 x4 x5 x6) fun y0 => K true (.s (.i .i64 y0)) ([])
 | _, _ => o 68 vs objs K
def qKG (o : Orc) : Orc := qM 68 (qSv o) o
theorem qNL : OQ Tryz.prog qKG := fun _ ho => qP ho fun vs objs K r h => by
 unfold qSv at h
 split at h
 ·skip
  have hq : List.map Obj.toRO objs = _ := (by rename_i hq; first | exact hq | assumption)
  obtain ⟨t, h1, h2⟩ := qE h
  refine qAi mixed qea (m := 1) (fn := Tryz.f68) (b := (Tryz.f68).body.getD .skip) (by kernel_rfl) (by kernel_rfl) (by kernel_rfl) hq (by kernel_rfl) (by kernel_rfl) (qT.of (l' := []) (by kernel_rfl) trivial) ((qeZ _ _ _ _ _ _ _).trans h1) fun v objs' hd => ?_
  unfold qSx at hd;split at hd;(cases hd;exact h2);cases hd
 ·exact ho _ _ _ _ _ h
def qbS : Ctx := mkC 6 ((qMC (qJe qL))) [] qV
theorem qoQ : CtxOK Tryz.prog qbS := mkC_ok ((qQ6 _ (qL6 _ qN)))
def qbT : V -> List Obj -> Option (Int × Int) := fun v objs => match v, objs with
 | .agg [.one [.i .u64 y0, .i .u64 y1]], [] => some (y0, y1)
 | _, _ => none
theorem qoP (x0 x1 : Int) : fnE qbS Tryz.f95 ([.agg [.one [.i .u64 x0, .i .u64 x1]]]) ([]) qbT = qJg x0 x1 := by kernel_rfl
def qbR : HA := fun o vs objs K => match vs, objs with
 | [.agg [.one [.i .u64 x0, .i .u64 x1]]], [] => ob (qJg x0 x1) fun z => K false (.agg [.one [.i .u64 (z.1), .i .u64 (z.2)]]) ([])
 | _, _ => o 95 vs objs K
def qbU (o : Orc) : Orc := qM 95 (qbR o) o
theorem qoR : OQ Tryz.prog qbU := fun _ ho => qP ho fun vs objs K r h => by
 unfold qbR at h
 split at h
 ·skip
  obtain ⟨t, h1, h2⟩ := qE h
  refine qc mixed qoQ ((qoP _ _).trans h1) (by kernel_rfl) fun v objs' hd => ?_
  unfold qbT at hd;split at hd;(cases hd;exact h2);cases hd
 ·exact ho _ _ _ _ _ h
def qQ2 : Ex -> List V -> List Obj -> Option (Int × Int × Int × Int) := fun e vs objs => match e, vs, objs with
 | .exit 0, [.s (.ptr 0 0 none 0), .s (.ptr 1 0 none 0)], [.cells 45 [.one [.i .u64 y0, .i .u64 y1]], .cells 45 [.one [.i .u64 y2, .i .u64 y3]]] => some (y0, y1, y2, y3)
 | _, _, _ => none
def qQ5 : HL := fun vs objs K => match vs, objs with
 | [.s (.i .i64 x0), .s (.ptr 0 0 none 0), .s (.ptr 1 0 none 0), .s (.i .i64 x1)], [.cells 45 [.one [.i .u64 x2, .i .u64 x3]], .cells 45 [.one [.i .u64 x4, .i .u64 x5]]] => ob (qMB qC x0 x1 x2 x3 x4 x5) fun z => K (.exit 0) ([.s (.ptr 0 0 none 0), .s (.ptr 1 0 none 0)]) ([.cells 45 [.one [.i .u64 (z.1), .i .u64 (z.2.1)]], .cells 45 [.one [.i .u64 (z.2.2.1), .i .u64 (z.2.2.2)]]])
 | _, _ => none
def qoL : {R : Type} -> Nat -> List V -> List Obj -> (Ex -> List V -> List Obj -> Option R) -> Option R := fun q vs objs K => bif Nat.beq q 3 then qQ5 vs objs K else none
def qMA : Ctx := mkC 15 ((qEb (set_Squareo qL))) [(3, [0, 2, 3, 5], [2, 3])] qoL
theorem qbJ : CtxOK Tryz.prog qMA := mkC_ok ((qFn _ (set_Squareo_ok _ qN)))
def qQ3 (f : Nat) (x0 x1 : Int) (x2 x3 : Int) (x4 x5 : Int) : Option (Int × Int × Int × Int) := qh qMA 0 [0, 2, 3, 5] [2, 3] (qG Tryz.f96 3) f ([.s (.i .i64 x0), .s (.ptr 0 0 none 0), .s (.ptr 1 0 none 0), .s (.i .i64 x1)]) ([.cells 45 [.one [.i .u64 x2, .i .u64 x3]], .cells 45 [.one [.i .u64 x4, .i .u64 x5]]]) qQ2
theorem qoK (f : Nat) (x0 x1 : Int) (x2 x3 : Int) (x4 x5 : Int) : qQ3 (f + 1) x0 x1 x2 x3 x4 x5 = qbM (qQ3 f) x0 x1 x2 x3 x4 x5 := by kernel_rfl
theorem qbL : ∀ f, qQ3 f = qMB f
 | 0 => rfl
 | f + 1 => by funext x0 x1 x2 x3 x4 x5; rw [qoK, qbL f]; rfl
theorem qoM : qf Tryz.prog qMA 0 (qG Tryz.f96 3) :=
 ql mixed qbJ (qT.of (l' := []) (by kernel_rfl) trivial) (q := 3) (kin := [0, 2, 3, 5]) (kout := [2, 3]) (by kernel_rfl) (by kernel_rfl) fun vs objs K r h => by
  replace h : qQ5 vs objs K = some r := h
  unfold qQ5 at h
  split at h
  ·skip
   obtain ⟨t, h1, h2⟩ := qE h
   rw [<- qbL] at h1
   refine ⟨_, qQ2, t, qC, h1, fun e vs' objs' hd => ?_⟩
   unfold qQ2 at hd;split at hd;(cases hd;exact h2);cases hd
  ·cases h
def qbK : V -> List Obj -> Option (Int × Int) := fun v objs => match v, objs with
 | .agg [.one [.i .u64 y0, .i .u64 y1]], [] => some (y0, y1)
 | _, _ => none
theorem qoJ (x0 : Int) : fnE qMA Tryz.f96 ([.s (.i .i64 x0)]) ([]) qbK = qIG x0 := by kernel_rfl
def qbI : HA := fun o vs objs K => match vs, objs with
 | [.s (.i .i64 x0)], [] => ob (qIG x0) fun z => K false (.agg [.one [.i .u64 (z.1), .i .u64 (z.2)]]) ([])
 | _, _ => o 96 vs objs K
def qQ4 (o : Orc) : Orc := qM 96 (qbI o) o
theorem qbN : OQ Tryz.prog qQ4 := fun _ ho => qP ho fun vs objs K r h => by
 unfold qbI at h
 split at h
 ·skip
  obtain ⟨t, h1, h2⟩ := qE h
  refine qAY mixed qbJ (fn := Tryz.f96) (b := (Tryz.f96).body.getD .skip) (by kernel_rfl) (by kernel_rfl) (by kernel_rfl) ((qoJ _).trans h1) (m := 0) rfl (qT.of (l' := [qG Tryz.f96 3]) (by kernel_rfl) ⟨qoM, trivial⟩) fun v objs' hd => ?_
  unfold qbK at hd;split at hd;(cases hd;exact h2);cases hd
 ·exact ho _ _ _ _ _ h
def qOQ : Ex -> List V -> List Obj -> Option (LI × LI × Int × LL × LL × Int × Int × Int × Int) := fun e vs objs => match e, vs, objs with
 | .exit 0, [.s (.ptr 1 0 none 0), .s (.ptr 2 0 none 0)], [.rcells 49 [.arr .i8 81 y0, .arr .i8 16 y1, .one [.i .i8 y2], .rows [.i .u64, .i .u64] 32 y3, .rows [.i .u64, .i .u64] 2 y4], .cells 45 [.one [.i .u64 y5, .i .u64 y6]], .cells 45 [.one [.i .u64 y7, .i .u64 y8]]] => some (y0, y1, y2, y3, y4, y5, y6, y7, y8)
 | _, _, _ => none
def qOS : HL := fun vs objs K => match vs, objs with
 | [.s (.ptr 0 0 none 0), .s (.i .i64 x0), .s (.i .i64 x1), .s (.ptr 1 0 none 0), .s (.i .i8 x2), .s (.ptr 2 0 none 0), .s (.sl 3 0 x3 true), .s (.i .i64 x4), .s (.i .i64 x5)], [.rcells 49 [.arr .i8 81 x6, .arr .i8 16 x7, .one [.i .i8 x8], .rows [.i .u64, .i .u64] 32 x9, .rows [.i .u64, .i .u64] 2 x10], .cells 45 [.one [.i .u64 x11, .i .u64 x12]], .cells 45 [.one [.i .u64 x13, .i .u64 x14]], .sli 3 false (.arr .i64 x15 x16)] => ob (qDV qC x0 x1 x2 x3 x4 x5 x6 x7 x8 x9 x10 x11 x12 x13 x14 x15 x16) fun z => K (.exit 0) ([.s (.ptr 1 0 none 0), .s (.ptr 2 0 none 0)]) ([.rcells 49 [.arr .i8 81 (z.1), .arr .i8 16 (z.2.1), .one [.i .i8 (z.2.2.1)], .rows [.i .u64, .i .u64] 32 (z.2.2.2.1), .rows [.i .u64, .i .u64] 2 (z.2.2.2.2.1)], .cells 45 [.one [.i .u64 (z.2.2.2.2.2.1), .i .u64 (z.2.2.2.2.2.2.1)]], .cells 45 [.one [.i .u64 (z.2.2.2.2.2.2.2.1), .i .u64 (z.2.2.2.2.2.2.2.2)]]])
 | _, _ => none
def qhL : {R : Type} -> Nat -> List V -> List Obj -> (Ex -> List V -> List Obj -> Option R) -> Option R := fun q vs objs K => bif Nat.beq q 6 then qOS vs objs K else none
def qKn : Ctx := mkC 53 ((qEb (qIE (qFj (qQ4 (qL8 (qF2 (qMQ (qJh (qbU (qGv (qDd qL)))))))))))) [(6, [0, 1, 2, 6, 7, 8, 24, 25, 26], [6, 8])] qhL
theorem qVG : CtxOK Tryz.prog qKn := mkC_ok ((qFn _ (qJf _ (qGT _ (qbN _ (qQ0 _ (qGt _ (qRQ _ (qMH _ (qoR _ (qIj _ (qEG _ qN))))))))))))
def qOR (f : Nat) (x0 x1 x2 : Int) (x3 : Nat) (x4 x5 : Int) (x6 x7 : LI) (x8 : Int) (x9 x10 : LL) (x11 x12 : Int) (x13 x14 : Int) (x15 : Nat) (x16 : LI) : Option (LI × LI × Int × LL × LL × Int × Int × Int × Int) := qh qKn 1 [0, 1, 2, 6, 7, 8, 24, 25, 26] [6, 8] (qG Tryz.f69 6) f ([.s (.ptr 0 0 none 0), .s (.i .i64 x0), .s (.i .i64 x1), .s (.ptr 1 0 none 0), .s (.i .i8 x2), .s (.ptr 2 0 none 0), .s (.sl 3 0 x3 true), .s (.i .i64 x4), .s (.i .i64 x5)]) ([.rcells 49 [.arr .i8 81 x6, .arr .i8 16 x7, .one [.i .i8 x8], .rows [.i .u64, .i .u64] 32 x9, .rows [.i .u64, .i .u64] 2 x10], .cells 45 [.one [.i .u64 x11, .i .u64 x12]], .cells 45 [.one [.i .u64 x13, .i .u64 x14]], .sli 3 false (.arr .i64 x15 x16)]) qOQ
theorem qhK (f : Nat) (x0 x1 x2 : Int) (x3 : Nat) (x4 x5 : Int) (x6 x7 : LI) (x8 : Int) (x9 x10 : LL) (x11 x12 : Int) (x13 x14 : Int) (x15 : Nat) (x16 : LI) : qOR (f + 1) x0 x1 x2 x3 x4 x5 x6 x7 x8 x9 x10 x11 x12 x13 x14 x15 x16 = qHH (qOR f) x0 x1 x2 x3 x4 x5 x6 x7 x8 x9 x10 x11 x12 x13 x14 x15 x16 := by kernel_rfl
theorem qVI : ∀ f, qOR f = qDV f
 | 0 => rfl
 | f + 1 => by funext x0 x1 x2 x3 x4 x5 x6 x7 x8 x9 x10 x11 x12 x13 x14 x15 x16; rw [qhK, qVI f]; rfl
theorem qhN : qf Tryz.prog qKn 1 (qG Tryz.f69 6) :=
 ql mixed qVG (qT.of (l' := []) (by kernel_rfl) trivial) (q := 6) (kin := [0, 1, 2, 6, 7, 8, 24, 25, 26]) (kout := [6, 8]) (by kernel_rfl) (by kernel_rfl) fun vs objs K r h => by
  replace h : qOS vs objs K = some r := h
  unfold qOS at h
  split at h
  ·skip
   obtain ⟨t, h1, h2⟩ := qE h
   rw [<- qVI] at h1
   refine ⟨_, qOQ, t, qC, h1, fun e vs' objs' hd => ?_⟩
   unfold qOQ at hd;split at hd;(cases hd;exact h2);cases hd
  ·cases h
def qVH : V -> List Obj -> Option (Int × Int) := fun v objs => match v, objs with
 | .agg [.one [.i .u64 y0, .i .u64 y1]], [] => some (y0, y1)
 | _, _ => none
theorem qhJ (x0 x1 : Int) (x2 x3 : LI) (x4 : Int) (x5 x6 : LL) : fnE qKn Tryz.f69 ([.s (.ptr 0 0 none 0), .s (.i .i64 x0), .s (.i .i64 x1)]) ([.rcells 49 [.arr .i8 81 x2, .arr .i8 16 x3, .one [.i .i8 x4], .rows [.i .u64, .i .u64] 32 x5, .rows [.i .u64, .i .u64] 2 x6]]) (qAa 1 qVH) = qI2 x0 x1 x2 x3 x4 x5 x6 := by kernel_rfl
def qVF : HA := fun o vs objs K => match vs, List.map Obj.toRO objs with
 | [.s (.ptr 0 0 none 0), .s (.i .i64 x0), .s (.i .i64 x1)], [.rcells 49 [.arr .i8 81 x2, .arr .i8 16 x3, .one [.i .i8 x4], .rows [.i .u64, .i .u64] 32 x5, .rows [.i .u64, .i .u64] 2 x6]] => ob (qI2 x0 x1 x2 x3 x4 x5 x6) fun z => K true (.agg [.one [.i .u64 (z.1), .i .u64 (z.2)]]) ([])
 | _, _ => o 69 vs objs K
def qVJ (o : Orc) : Orc := qM 69 (qVF o) o
theorem qhM : OQ Tryz.prog qVJ := fun _ ho => qP ho fun vs objs K r h => by
 unfold qVF at h
 split at h
 ·skip
  have hq : List.map Obj.toRO objs = _ := (by rename_i hq; first | exact hq | assumption)
  obtain ⟨t, h1, h2⟩ := qE h
  refine qAi mixed qVG (m := 1) (fn := Tryz.f69) (b := (Tryz.f69).body.getD .skip) (by kernel_rfl) (by kernel_rfl) (by kernel_rfl) hq (by kernel_rfl) (by kernel_rfl) (qT.of (l' := [qG Tryz.f69 6]) (by kernel_rfl) ⟨qhN, trivial⟩) ((qhJ _ _ _ _ _ _ _).trans h1) fun v objs' hd => ?_
  unfold qVH at hd;split at hd;(cases hd;exact h2);cases hd
 ·exact ho _ _ _ _ _ h
def qOM : Ex -> List V -> List Obj -> Option (Nat × Int × Int × LI × LI × Int × LL × LL × Int × Int × Nat × LL) := fun e vs objs => match e, vs, objs with
 | .exit 2, [.s (.ptr 0 0 none 0), .s (.ptr 1 0 none 0), .s (.sl 2 0 y0 true), .s (.i .i64 y1), .s (.i .i64 y2)], [.rcells 49 [.arr .i8 81 y3, .arr .i8 16 y4, .one [.i .i8 y5], .rows [.i .u64, .i .u64] 32 y6, .rows [.i .u64, .i .u64] 2 y7], .cells 45 [.one [.i .u64 y8, .i .u64 y9]], .sli 53 false (.rows [.i .i64, .i .i64, .i .i64, .b] y10 y11)] => some (y0, y1, y2, y3, y4, y5, y6, y7, y8, y9, y10, y11)
 | _, _, _ => none
def qOK : Ex -> List V -> List Obj -> Option (Nat × LI × LI × Int × LL × LL × Nat × LL) := fun e vs objs => match e, vs, objs with
 | .exit 0, [.s (.sl 1 0 y0 true)], [.rcells 49 [.arr .i8 81 y1, .arr .i8 16 y2, .one [.i .i8 y3], .rows [.i .u64, .i .u64] 32 y4, .rows [.i .u64, .i .u64] 2 y5], .sli 53 false (.rows [.i .i64, .i .i64, .i .i64, .b] y6 y7)] => some (y0, y1, y2, y3, y4, y5, y6, y7)
 | _, _, _ => none
def qOP : HL := fun vs objs K => match vs, objs with
 | [.s (.ptr 0 0 none 0), .s (.ptr 1 0 none 0), .s (.sl 2 0 x0 true), .s (.i .i64 x1), .s (.i .i64 x2), .s (.sl 3 0 x3 true), .s (.i .i64 x4), .s (.i .i64 x5)], [.rcells 49 [.arr .i8 81 x6, .arr .i8 16 x7, .one [.i .i8 x8], .rows [.i .u64, .i .u64] 32 x9, .rows [.i .u64, .i .u64] 2 x10], .cells 45 [.one [.i .u64 x11, .i .u64 x12]], .sli 53 false (.rows [.i .i64, .i .i64, .i .i64, .b] x13 x14), .sli 3 false (.arr .i64 x15 x16)] => ob (qFB qC x0 x1 x2 x3 x4 x5 x6 x7 x8 x9 x10 x11 x12 x13 x14 x15 x16) fun z => K (.exit 2) ([.s (.ptr 0 0 none 0), .s (.ptr 1 0 none 0), .s (.sl 2 0 (z.1) true), .s (.i .i64 (z.2.1)), .s (.i .i64 (z.2.2.1))]) ([.rcells 49 [.arr .i8 81 (z.2.2.2.1), .arr .i8 16 (z.2.2.2.2.1), .one [.i .i8 (z.2.2.2.2.2.1)], .rows [.i .u64, .i .u64] 32 (z.2.2.2.2.2.2.1), .rows [.i .u64, .i .u64] 2 (z.2.2.2.2.2.2.2.1)], .cells 45 [.one [.i .u64 (z.2.2.2.2.2.2.2.2.1), .i .u64 (z.2.2.2.2.2.2.2.2.2.1)]], .sli 53 false (.rows [.i .i64, .i .i64, .i .i64, .b] (z.2.2.2.2.2.2.2.2.2.2.1) (z.2.2.2.2.2.2.2.2.2.2.2))])
 | _, _ => none
def qOO : HL := fun vs objs K => match vs, objs with
 | [.s (.ptr 0 0 none 0), .s (.ptr 1 0 none 0), .s (.sl 2 0 x0 true), .s (.i .i64 x1), .s (.i .i64 x2)], [.rcells 49 [.arr .i8 81 x3, .arr .i8 16 x4, .one [.i .i8 x5], .rows [.i .u64, .i .u64] 32 x6, .rows [.i .u64, .i .u64] 2 x7], .cells 45 [.one [.i .u64 x8, .i .u64 x9]], .sli 53 false (.rows [.i .i64, .i .i64, .i .i64, .b] x10 x11)] => ob (qFA qC x0 x1 x2 x3 x4 x5 x6 x7 x8 x9 x10 x11) fun z => K (.exit 0) ([.s (.sl 1 0 (z.1) true)]) ([.rcells 49 [.arr .i8 81 (z.2.1), .arr .i8 16 (z.2.2.1), .one [.i .i8 (z.2.2.2.1)], .rows [.i .u64, .i .u64] 32 (z.2.2.2.2.1), .rows [.i .u64, .i .u64] 2 (z.2.2.2.2.2.1)], .sli 53 false (.rows [.i .i64, .i .i64, .i .i64, .b] (z.2.2.2.2.2.2.1) (z.2.2.2.2.2.2.2))])
 | _, _ => none
def qhF : {R : Type} -> Nat -> List V -> List Obj -> (Ex -> List V -> List Obj -> Option R) -> Option R := fun q vs objs K => bif Nat.beq q 8 then qOP vs objs K else bif Nat.beq q 4 then qOO vs objs K else none
def qHE : Ctx := mkC 45 ((qJh (qFj (qVJ (qKG qL))))) [(4, [0, 3, 5, 6, 7], [5]), (8, [0, 3, 5, 6, 7, 31, 32, 33], [0, 3, 5, 6, 7])] qhF
theorem qOJ : CtxOK Tryz.prog qHE := mkC_ok ((qMH _ (qGT _ (qhM _ (qNL _ qN)))))
def qON (f : Nat) (x0 : Nat) (x1 x2 : Int) (x3 : Nat) (x4 x5 : Int) (x6 x7 : LI) (x8 : Int) (x9 x10 : LL) (x11 x12 : Int) (x13 : Nat) (x14 : LL) (x15 : Nat) (x16 : LI) : Option (Nat × Int × Int × LI × LI × Int × LL × LL × Int × Int × Nat × LL) := qh qHE 1 [0, 3, 5, 6, 7, 31, 32, 33] [0, 3, 5, 6, 7] (qG Tryz.f22 8) f ([.s (.ptr 0 0 none 0), .s (.ptr 1 0 none 0), .s (.sl 2 0 x0 true), .s (.i .i64 x1), .s (.i .i64 x2), .s (.sl 3 0 x3 true), .s (.i .i64 x4), .s (.i .i64 x5)]) ([.rcells 49 [.arr .i8 81 x6, .arr .i8 16 x7, .one [.i .i8 x8], .rows [.i .u64, .i .u64] 32 x9, .rows [.i .u64, .i .u64] 2 x10], .cells 45 [.one [.i .u64 x11, .i .u64 x12]], .sli 53 false (.rows [.i .i64, .i .i64, .i .i64, .b] x13 x14), .sli 3 false (.arr .i64 x15 x16)]) qOM
theorem qhE (f : Nat) (x0 : Nat) (x1 x2 : Int) (x3 : Nat) (x4 x5 : Int) (x6 x7 : LI) (x8 : Int) (x9 x10 : LL) (x11 x12 : Int) (x13 : Nat) (x14 : LL) (x15 : Nat) (x16 : LI) : qON (f + 1) x0 x1 x2 x3 x4 x5 x6 x7 x8 x9 x10 x11 x12 x13 x14 x15 x16 = qHG (qON f) x0 x1 x2 x3 x4 x5 x6 x7 x8 x9 x10 x11 x12 x13 x14 x15 x16 := by kernel_rfl
theorem qVD : ∀ f, qON f = qFB f
 | 0 => rfl
 | f + 1 => by funext x0 x1 x2 x3 x4 x5 x6 x7 x8 x9 x10 x11 x12 x13 x14 x15 x16; rw [qhE, qVD f]; rfl
def qOL (f : Nat) (x0 : Nat) (x1 x2 : Int) (x3 x4 : LI) (x5 : Int) (x6 x7 : LL) (x8 x9 : Int) (x10 : Nat) (x11 : LL) : Option (Nat × LI × LI × Int × LL × LL × Nat × LL) := qh qHE 1 [0, 3, 5, 6, 7] [5] (qG Tryz.f22 4) f ([.s (.ptr 0 0 none 0), .s (.ptr 1 0 none 0), .s (.sl 2 0 x0 true), .s (.i .i64 x1), .s (.i .i64 x2)]) ([.rcells 49 [.arr .i8 81 x3, .arr .i8 16 x4, .one [.i .i8 x5], .rows [.i .u64, .i .u64] 32 x6, .rows [.i .u64, .i .u64] 2 x7], .cells 45 [.one [.i .u64 x8, .i .u64 x9]], .sli 53 false (.rows [.i .i64, .i .i64, .i .i64, .b] x10 x11)]) qOK
theorem qhD (f : Nat) (x0 : Nat) (x1 x2 : Int) (x3 x4 : LI) (x5 : Int) (x6 x7 : LL) (x8 x9 : Int) (x10 : Nat) (x11 : LL) : qOL (f + 1) x0 x1 x2 x3 x4 x5 x6 x7 x8 x9 x10 x11 = qHF (qOL f) x0 x1 x2 x3 x4 x5 x6 x7 x8 x9 x10 x11 := by kernel_rfl
theorem qVC : ∀ f, qOL f = qFA f
 | 0 => rfl
 | f + 1 => by funext x0 x1 x2 x3 x4 x5 x6 x7 x8 x9 x10 x11; rw [qhD, qVC f]; rfl
theorem qhI : qf Tryz.prog qHE 1 (qG Tryz.f22 8) :=
 ql mixed qOJ (qT.of (l' := []) (by kernel_rfl) trivial) (q := 8) (kin := [0, 3, 5, 6, 7, 31, 32, 33]) (kout := [0, 3, 5, 6, 7]) (by kernel_rfl) (by kernel_rfl) fun vs objs K r h => by
  replace h : qOP vs objs K = some r := h
  unfold qOP at h
  split at h
  ·skip
   obtain ⟨t, h1, h2⟩ := qE h
   rw [<- qVD] at h1
   refine ⟨_, qOM, t, qC, h1, fun e vs' objs' hd => ?_⟩
   unfold qOM at hd;split at hd;(cases hd;exact h2);cases hd
  ·cases h
theorem qhH : qf Tryz.prog qHE 1 (qG Tryz.f22 4) :=
 ql mixed qOJ (qT.of (l' := [qG Tryz.f22 8]) (by kernel_rfl) ⟨qhI, trivial⟩) (q := 4) (kin := [0, 3, 5, 6, 7]) (kout := [5]) (by kernel_rfl) (by kernel_rfl) fun vs objs K r h => by
  replace h : qOO vs objs K = some r := h
  unfold qOO at h
  split at h
  ·skip
   obtain ⟨t, h1, h2⟩ := qE h
   rw [<- qVC] at h1
   refine ⟨_, qOK, t, qC, h1, fun e vs' objs' hd => ?_⟩
   unfold qOK at hd;split at hd;(cases hd;exact h2);cases hd
  ·cases h
def qVB : V -> List Obj -> Option (Nat × Nat × LL) := fun v objs => match v, objs with
 | .s (.sl 1 0 y0 true), [.sli 53 false (.rows [.i .i64, .i .i64, .i .i64, .b] y1 y2)] => some (y0, y1, y2)
 | _, _ => none
theorem qhC (x0 x1 : Int) (x2 x3 : LI) (x4 : Int) (x5 x6 : LL) : fnE qHE Tryz.f22 ([.s (.ptr 0 0 none 0), .agg [.one [.i .u64 x0, .i .u64 x1]]]) ([.rcells 49 [.arr .i8 81 x2, .arr .i8 16 x3, .one [.i .i8 x4], .rows [.i .u64, .i .u64] 32 x5, .rows [.i .u64, .i .u64] 2 x6]]) (qAa 1 qVB) = qI1 x0 x1 x2 x3 x4 x5 x6 := by kernel_rfl
def qVA : HA := fun o vs objs K => match vs, List.map Obj.toRO objs with
 | [.s (.ptr 0 0 none 0), .agg [.one [.i .u64 x0, .i .u64 x1]]], [.rcells 49 [.arr .i8 81 x2, .arr .i8 16 x3, .one [.i .i8 x4], .rows [.i .u64, .i .u64] 32 x5, .rows [.i .u64, .i .u64] 2 x6]] => ob (qI1 x0 x1 x2 x3 x4 x5 x6) fun z => K true (.s (.sl 1 0 (z.1) true)) ([.sli 53 false (.rows [.i .i64, .i .i64, .i .i64, .b] (z.2.1) (z.2.2))])
 | _, _ => o 22 vs objs K
def qVE (o : Orc) : Orc := qM 22 (qVA o) o
theorem qhG : OQ Tryz.prog qVE := fun _ ho => qP ho fun vs objs K r h => by
 unfold qVA at h
 split at h
 ·skip
  have hq : List.map Obj.toRO objs = _ := (by rename_i hq; first | exact hq | assumption)
  obtain ⟨t, h1, h2⟩ := qE h
  refine qAi mixed qOJ (m := 1) (fn := Tryz.f22) (b := (Tryz.f22).body.getD .skip) (by kernel_rfl) (by kernel_rfl) (by kernel_rfl) hq (by kernel_rfl) (by kernel_rfl) (qT.of (l' := [qG Tryz.f22 4]) (by kernel_rfl) ⟨qhH, trivial⟩) ((qhC _ _ _ _ _ _ _).trans h1) fun v objs' hd => ?_
  unfold qVB at hd;split at hd;(cases hd;exact h2);cases hd
 ·exact ho _ _ _ _ _ h
def qSs : Ctx := mkC 7 (qL) [] qV
theorem qeX : CtxOK Tryz.prog qSs := mkC_ok (qN)
def qSt : V -> List Obj -> Option (LI × LI × Int × LL × LL) := fun v objs => match v, objs with
 | .s (.ptr 1 0 none 0), [.cells 49 [.arr .i8 81 y0, .arr .i8 16 y1, .one [.i .i8 y2], .rows [.i .u64, .i .u64] 32 y3, .rows [.i .u64, .i .u64] 2 y4]] => some (y0, y1, y2, y3, y4)
 | _, _ => none
theorem qeW (x0 x1 : LI) (x2 : Int) (x3 x4 : LL) : fnE qSs Tryz.f70 ([.s (.ptr 0 0 none 0)]) ([.rcells 49 [.arr .i8 81 x0, .arr .i8 16 x1, .one [.i .i8 x2], .rows [.i .u64, .i .u64] 32 x3, .rows [.i .u64, .i .u64] 2 x4]]) (qAa 1 qSt) = qKF x0 x1 x2 x3 x4 := by kernel_rfl
def qSr : HA := fun o vs objs K => match vs, List.map Obj.toRO objs with
 | [.s (.ptr 0 0 none 0)], [.rcells 49 [.arr .i8 81 x0, .arr .i8 16 x1, .one [.i .i8 x2], .rows [.i .u64, .i .u64] 32 x3, .rows [.i .u64, .i .u64] 2 x4]] => ob (qKF x0 x1 x2 x3 x4) fun z => K true (.s (.ptr 1 0 none 0)) ([.cells 49 [.arr .i8 81 (z.1), .arr .i8 16 (z.2.1), .one [.i .i8 (z.2.2.1)], .rows [.i .u64, .i .u64] 32 (z.2.2.2.1), .rows [.i .u64, .i .u64] 2 (z.2.2.2.2)]])
 | _, _ => o 70 vs objs K
def qSu (o : Orc) : Orc := qM 70 (qSr o) o
theorem qeY : OQ Tryz.prog qSu := fun _ ho => qP ho fun vs objs K r h => by
 unfold qSr at h
 split at h
 ·skip
  have hq : List.map Obj.toRO objs = _ := (by rename_i hq; first | exact hq | assumption)
  obtain ⟨t, h1, h2⟩ := qE h
  refine qAi mixed qeX (m := 1) (fn := Tryz.f70) (b := (Tryz.f70).body.getD .skip) (by kernel_rfl) (by kernel_rfl) (by kernel_rfl) hq (by kernel_rfl) (by kernel_rfl) (qT.of (l' := []) (by kernel_rfl) trivial) ((qeW _ _ _ _ _).trans h1) fun v objs' hd => ?_
  unfold qSt at hd;split at hd;(cases hd;exact h2);cases hd
 ·exact ho _ _ _ _ _ h
def qOz : Ex -> List V -> List Obj -> Option ((Bool × LI × LI × Int × LL × LL) ⊕ (LI × LI × Int × LL × LL)) := fun e vs objs => match e, vs, objs with
 | .ret, [.s (.b y0)], [.rcells 49 [.arr .i8 81 y1, .arr .i8 16 y2, .one [.i .i8 y3], .rows [.i .u64, .i .u64] 32 y4, .rows [.i .u64, .i .u64] 2 y5]] => some (.inl (y0, y1, y2, y3, y4, y5))
 | .exit 0, [.s .bad], [.rcells 49 [.arr .i8 81 y0, .arr .i8 16 y1, .one [.i .i8 y2], .rows [.i .u64, .i .u64] 32 y3, .rows [.i .u64, .i .u64] 2 y4]] => some (.inr (y0, y1, y2, y3, y4))
 | _, _, _ => none
def qO1 : HL := fun vs objs K => match vs, objs with
 | [.s (.ptr 1 0 none 0), .s (.sl 2 0 x0 true), .s (.i .i64 x1), .s (.i .i64 x2)], [.rcells 49 [.arr .i8 81 x3, .arr .i8 16 x4, .one [.i .i8 x5], .rows [.i .u64, .i .u64] 32 x6, .rows [.i .u64, .i .u64] 2 x7], .cells 66 [.one [.ptr 3 0 none 0, .i .i64 x8, .i .i64 x9, .i .u64 x10, .i .u64 x11, .mp 4, .b x12]], .sli 53 false (.rows [.i .i64, .i .i64, .i .i64, .b] x13 x14), .cells 49 [.arr .i8 81 x15, .arr .i8 16 x16, .one [.i .i8 x17], .rows [.i .u64, .i .u64] 32 x18, .rows [.i .u64, .i .u64] 2 x19], .map false true [.i .i64] [.i .u64, .i .u64] x20] => ob (qFL qC x0 x1 x2 x3 x4 x5 x6 x7 x8 x9 x10 x11 x12 x13 x14 x15 x16 x17 x18 x19 x20) fun t0 => sw t0 (fun z => K (.ret) ([.s (.b (z.1))]) ([.rcells 49 [.arr .i8 81 (z.2.1), .arr .i8 16 (z.2.2.1), .one [.i .i8 (z.2.2.2.1)], .rows [.i .u64, .i .u64] 32 (z.2.2.2.2.1), .rows [.i .u64, .i .u64] 2 (z.2.2.2.2.2)]])) (fun z => K (.exit 0) ([.s .bad]) ([.rcells 49 [.arr .i8 81 (z.1), .arr .i8 16 (z.2.1), .one [.i .i8 (z.2.2.1)], .rows [.i .u64, .i .u64] 32 (z.2.2.2.1), .rows [.i .u64, .i .u64] 2 (z.2.2.2.2)]]))
 | _, _ => none
def qiS : {R : Type} -> Nat -> List V -> List Obj -> (Ex -> List V -> List Obj -> Option R) -> Option R := fun q vs objs K => bif Nat.beq q 11 then qO1 vs objs K else none
def qK1 : Ctx := mkC 74 ((qO3 (qOG (qJe (qO2 (qGX (qJ8 (qKK (qSu (qF0 (qDd qL))))))))))) [(11, [7, 64, 65, 66], [4])] qiS
theorem qWF : CtxOK Tryz.prog qK1 := mkC_ok ((qWQ _ (qU9 _ (qL6 _ (qWM _ (qIF _ (qMo _ (qNR _ (qeY _ (qGq _ (qEG _ qN)))))))))))
def qO0 (f : Nat) (x0 : Nat) (x1 x2 : Int) (x3 x4 : LI) (x5 : Int) (x6 x7 : LL) (x8 x9 : Int) (x10 x11 : Int) (x12 : Bool) (x13 : Nat) (x14 : LL) (x15 x16 : LI) (x17 : Int) (x18 x19 : LL) (x20 : List (LI × LI)) : Option ((Bool × LI × LI × Int × LL × LL) ⊕ (LI × LI × Int × LL × LL)) := qh qK1 1 [7, 64, 65, 66] [4] (qG Tryz.f23 11) f ([.s (.ptr 1 0 none 0), .s (.sl 2 0 x0 true), .s (.i .i64 x1), .s (.i .i64 x2)]) ([.rcells 49 [.arr .i8 81 x3, .arr .i8 16 x4, .one [.i .i8 x5], .rows [.i .u64, .i .u64] 32 x6, .rows [.i .u64, .i .u64] 2 x7], .cells 66 [.one [.ptr 3 0 none 0, .i .i64 x8, .i .i64 x9, .i .u64 x10, .i .u64 x11, .mp 4, .b x12]], .sli 53 false (.rows [.i .i64, .i .i64, .i .i64, .b] x13 x14), .cells 49 [.arr .i8 81 x15, .arr .i8 16 x16, .one [.i .i8 x17], .rows [.i .u64, .i .u64] 32 x18, .rows [.i .u64, .i .u64] 2 x19], .map false true [.i .i64] [.i .u64, .i .u64] x20]) qOz
theorem qiR (f : Nat) (x0 : Nat) (x1 x2 : Int) (x3 x4 : LI) (x5 : Int) (x6 x7 : LL) (x8 x9 : Int) (x10 x11 : Int) (x12 : Bool) (x13 : Nat) (x14 : LL) (x15 x16 : LI) (x17 : Int) (x18 x19 : LL) (x20 : List (LI × LI)) : qO0 (f + 1) x0 x1 x2 x3 x4 x5 x6 x7 x8 x9 x10 x11 x12 x13 x14 x15 x16 x17 x18 x19 x20 = qHR (qO0 f) x0 x1 x2 x3 x4 x5 x6 x7 x8 x9 x10 x11 x12 x13 x14 x15 x16 x17 x18 x19 x20 := by kernel_rfl
theorem qWH : ∀ f, qO0 f = qFL f
 | 0 => rfl
 | f + 1 => by funext x0 x1 x2 x3 x4 x5 x6 x7 x8 x9 x10 x11 x12 x13 x14 x15 x16 x17 x18 x19 x20; rw [qiR, qWH f]; rfl
theorem qiU : qf Tryz.prog qK1 1 (qG Tryz.f23 11) :=
 ql mixed qWF (qT.of (l' := []) (by kernel_rfl) trivial) (q := 11) (kin := [7, 64, 65, 66]) (kout := [4]) (by kernel_rfl) (by kernel_rfl) fun vs objs K r h => by
  replace h : qO1 vs objs K = some r := h
  unfold qO1 at h
  split at h
  ·skip
   obtain ⟨t, h1, h2⟩ := qE h
   rw [<- qWH] at h1
   refine ⟨_, qOz, t, qC, h1, fun e vs' objs' hd => ?_⟩
   unfold qOz at hd
   split at hd
   ·skip
    cases hd
    exact h2
   ·skip
    cases hd
    exact h2
   ·cases hd
  ·cases h
def qWG : V -> List Obj -> Option (Bool) := fun v objs => match v, objs with
 | .s (.b y0), [] => some (y0)
 | _, _ => none
theorem qiQ (x0 : Int) (x1 x2 : LI) (x3 : Int) (x4 x5 : LL) : fnE qK1 Tryz.f23 ([.s (.ptr 0 0 none 0), .s (.i .i64 x0)]) ([.rcells 49 [.arr .i8 81 x1, .arr .i8 16 x2, .one [.i .i8 x3], .rows [.i .u64, .i .u64] 32 x4, .rows [.i .u64, .i .u64] 2 x5]]) (qAa 1 qWG) = qI7 x0 x1 x2 x3 x4 x5 := by kernel_rfl
def qWE : HA := fun o vs objs K => match vs, List.map Obj.toRO objs with
 | [.s (.ptr 0 0 none 0), .s (.i .i64 x0)], [.rcells 49 [.arr .i8 81 x1, .arr .i8 16 x2, .one [.i .i8 x3], .rows [.i .u64, .i .u64] 32 x4, .rows [.i .u64, .i .u64] 2 x5]] => ob (qI7 x0 x1 x2 x3 x4 x5) fun y0 => K true (.s (.b y0)) ([])
 | _, _ => o 23 vs objs K
def qWI (o : Orc) : Orc := qM 23 (qWE o) o
theorem qiT : OQ Tryz.prog qWI := fun _ ho => qP ho fun vs objs K r h => by
 unfold qWE at h
 split at h
 ·skip
  have hq : List.map Obj.toRO objs = _ := (by rename_i hq; first | exact hq | assumption)
  obtain ⟨t, h1, h2⟩ := qE h
  refine qAi mixed qWF (m := 1) (fn := Tryz.f23) (b := (Tryz.f23).body.getD .skip) (by kernel_rfl) (by kernel_rfl) (by kernel_rfl) hq (by kernel_rfl) (by kernel_rfl) (qT.of (l' := [qG Tryz.f23 11]) (by kernel_rfl) ⟨qiU, trivial⟩) ((qiQ _ _ _ _ _ _).trans h1) fun v objs' hd => ?_
  unfold qWG at hd;split at hd;(cases hd;exact h2);cases hd
 ·exact ho _ _ _ _ _ h
def qOu : Ex -> List V -> List Obj -> Option (Nat × LI × LI × Int × LL × LL × Int × Int × Int × Int × Bool × Nat × LL × List (LI × LI)) := fun e vs objs => match e, vs, objs with
 | .exit 0, [.s (.ptr 0 0 none 0), .s (.ptr 1 0 none 0), .s (.sl 2 0 y0 true)], [.cells 49 [.arr .i8 81 y1, .arr .i8 16 y2, .one [.i .i8 y3], .rows [.i .u64, .i .u64] 32 y4, .rows [.i .u64, .i .u64] 2 y5], .cells 66 [.one [.ptr 0 0 none 0, .i .i64 y6, .i .i64 y7, .i .u64 y8, .i .u64 y9, .mp 3, .b y10]], .sli 53 false (.rows [.i .i64, .i .i64, .i .i64, .b] y11 y12), .map false true [.i .i64] [.i .u64, .i .u64] y13] => some (y0, y1, y2, y3, y4, y5, y6, y7, y8, y9, y10, y11, y12, y13)
 | _, _, _ => none
def qOs : Ex -> List V -> List Obj -> Option (Nat × LI × LI × Int × LL × LL × Nat × LL) := fun e vs objs => match e, vs, objs with
 | .exit 2, [.s (.sl 1 0 y0 true)], [.cells 49 [.arr .i8 81 y1, .arr .i8 16 y2, .one [.i .i8 y3], .rows [.i .u64, .i .u64] 32 y4, .rows [.i .u64, .i .u64] 2 y5], .sli 53 false (.rows [.i .i64, .i .i64, .i .i64, .b] y6 y7)] => some (y0, y1, y2, y3, y4, y5, y6, y7)
 | _, _, _ => none
def qOy : HL := fun vs objs K => match vs, objs with
 | [.s (.ptr 0 0 none 0), .s (.ptr 1 0 none 0), .s (.sl 2 0 x0 true), .s (.sl 3 0 x1 true), .s (.i .i64 x2), .s (.i .i64 x3)], [.cells 49 [.arr .i8 81 x4, .arr .i8 16 x5, .one [.i .i8 x6], .rows [.i .u64, .i .u64] 32 x7, .rows [.i .u64, .i .u64] 2 x8], .cells 66 [.one [.ptr 0 0 none 0, .i .i64 x9, .i .i64 x10, .i .u64 x11, .i .u64 x12, .mp 4, .b x13]], .sli 53 false (.rows [.i .i64, .i .i64, .i .i64, .b] x14 x15), .sli 53 false (.rows [.i .i64, .i .i64, .i .i64, .b] x16 x17), .map false true [.i .i64] [.i .u64, .i .u64] x18] => ob (qFK qC x0 x1 x2 x3 x4 x5 x6 x7 x8 x9 x10 x11 x12 x13 x14 x15 x16 x17 x18) fun z => K (.exit 0) ([.s (.ptr 0 0 none 0), .s (.ptr 1 0 none 0), .s (.sl 2 0 (z.1) true)]) ([.cells 49 [.arr .i8 81 (z.2.1), .arr .i8 16 (z.2.2.1), .one [.i .i8 (z.2.2.2.1)], .rows [.i .u64, .i .u64] 32 (z.2.2.2.2.1), .rows [.i .u64, .i .u64] 2 (z.2.2.2.2.2.1)], .cells 66 [.one [.ptr 0 0 none 0, .i .i64 (z.2.2.2.2.2.2.1), .i .i64 (z.2.2.2.2.2.2.2.1), .i .u64 (z.2.2.2.2.2.2.2.2.1), .i .u64 (z.2.2.2.2.2.2.2.2.2.1), .mp 3, .b (z.2.2.2.2.2.2.2.2.2.2.1)]], .sli 53 false (.rows [.i .i64, .i .i64, .i .i64, .b] (z.2.2.2.2.2.2.2.2.2.2.2.1) (z.2.2.2.2.2.2.2.2.2.2.2.2.1)), .map false true [.i .i64] [.i .u64, .i .u64] (z.2.2.2.2.2.2.2.2.2.2.2.2.2)])
 | _, _ => none
def qOx : HL := fun vs objs K => match vs, objs with
 | [.s (.ptr 0 0 none 0), .s (.sl 1 0 x0 true), .s (.sl 2 0 x1 true), .s (.i .i64 x2), .s (.i .i64 x3)], [.cells 49 [.arr .i8 81 x4, .arr .i8 16 x5, .one [.i .i8 x6], .rows [.i .u64, .i .u64] 32 x7, .rows [.i .u64, .i .u64] 2 x8], .sli 53 false (.rows [.i .i64, .i .i64, .i .i64, .b] x9 x10), .sli 53 false (.rows [.i .i64, .i .i64, .i .i64, .b] x11 x12)] => ob (qEA qC x0 x1 x2 x3 x4 x5 x6 x7 x8 x9 x10 x11 x12) fun z => K (.exit 2) ([.s (.sl 1 0 (z.1) true)]) ([.cells 49 [.arr .i8 81 (z.2.1), .arr .i8 16 (z.2.2.1), .one [.i .i8 (z.2.2.2.1)], .rows [.i .u64, .i .u64] 32 (z.2.2.2.2.1), .rows [.i .u64, .i .u64] 2 (z.2.2.2.2.2.1)], .sli 53 false (.rows [.i .i64, .i .i64, .i .i64, .b] (z.2.2.2.2.2.2.1) (z.2.2.2.2.2.2.2))])
 | _, _ => none
def qiN : {R : Type} -> Nat -> List V -> List Obj -> (Ex -> List V -> List Obj -> Option R) -> Option R := fun q vs objs K => bif Nat.beq q 4 then qOy vs objs K else bif Nat.beq q 10 then qOx vs objs K else none
def qHO : Ctx := mkC 51 ((qWI (qVE (qO3 (qOG (qJe (qO2 qL))))))) [(4, [0, 3, 4, 13, 14, 15], [0, 3, 4]), (10, [0, 4, 30, 31, 32], [4])] qiN
theorem qOr : CtxOK Tryz.prog qHO := mkC_ok ((qiT _ (qhG _ (qWQ _ (qU9 _ (qL6 _ (qWM _ qN)))))))
def qOv (f : Nat) (x0 x1 : Nat) (x2 x3 : Int) (x4 x5 : LI) (x6 : Int) (x7 x8 : LL) (x9 x10 : Int) (x11 x12 : Int) (x13 : Bool) (x14 : Nat) (x15 : LL) (x16 : Nat) (x17 : LL) (x18 : List (LI × LI)) : Option (Nat × LI × LI × Int × LL × LL × Int × Int × Int × Int × Bool × Nat × LL × List (LI × LI)) := qh qHO 1 [0, 3, 4, 13, 14, 15] [0, 3, 4] (qG Tryz.f4 4) f ([.s (.ptr 0 0 none 0), .s (.ptr 1 0 none 0), .s (.sl 2 0 x0 true), .s (.sl 3 0 x1 true), .s (.i .i64 x2), .s (.i .i64 x3)]) ([.cells 49 [.arr .i8 81 x4, .arr .i8 16 x5, .one [.i .i8 x6], .rows [.i .u64, .i .u64] 32 x7, .rows [.i .u64, .i .u64] 2 x8], .cells 66 [.one [.ptr 0 0 none 0, .i .i64 x9, .i .i64 x10, .i .u64 x11, .i .u64 x12, .mp 4, .b x13]], .sli 53 false (.rows [.i .i64, .i .i64, .i .i64, .b] x14 x15), .sli 53 false (.rows [.i .i64, .i .i64, .i .i64, .b] x16 x17), .map false true [.i .i64] [.i .u64, .i .u64] x18]) qOu
theorem qiM (f : Nat) (x0 x1 : Nat) (x2 x3 : Int) (x4 x5 : LI) (x6 : Int) (x7 x8 : LL) (x9 x10 : Int) (x11 x12 : Int) (x13 : Bool) (x14 : Nat) (x15 : LL) (x16 : Nat) (x17 : LL) (x18 : List (LI × LI)) : qOv (f + 1) x0 x1 x2 x3 x4 x5 x6 x7 x8 x9 x10 x11 x12 x13 x14 x15 x16 x17 x18 = qHQ (qOv f) x0 x1 x2 x3 x4 x5 x6 x7 x8 x9 x10 x11 x12 x13 x14 x15 x16 x17 x18 := by kernel_rfl
theorem qWC : ∀ f, qOv f = qFK f
 | 0 => rfl
 | f + 1 => by funext x0 x1 x2 x3 x4 x5 x6 x7 x8 x9 x10 x11 x12 x13 x14 x15 x16 x17 x18; rw [qiM, qWC f]; rfl
def qOt (f : Nat) (x0 x1 : Nat) (x2 x3 : Int) (x4 x5 : LI) (x6 : Int) (x7 x8 : LL) (x9 : Nat) (x10 : LL) (x11 : Nat) (x12 : LL) : Option (Nat × LI × LI × Int × LL × LL × Nat × LL) := qh qHO 1 [0, 4, 30, 31, 32] [4] (qG Tryz.f4 10) f ([.s (.ptr 0 0 none 0), .s (.sl 1 0 x0 true), .s (.sl 2 0 x1 true), .s (.i .i64 x2), .s (.i .i64 x3)]) ([.cells 49 [.arr .i8 81 x4, .arr .i8 16 x5, .one [.i .i8 x6], .rows [.i .u64, .i .u64] 32 x7, .rows [.i .u64, .i .u64] 2 x8], .sli 53 false (.rows [.i .i64, .i .i64, .i .i64, .b] x9 x10), .sli 53 false (.rows [.i .i64, .i .i64, .i .i64, .b] x11 x12)]) qOs
theorem qiL (f : Nat) (x0 x1 : Nat) (x2 x3 : Int) (x4 x5 : LI) (x6 : Int) (x7 x8 : LL) (x9 : Nat) (x10 : LL) (x11 : Nat) (x12 : LL) : qOt (f + 1) x0 x1 x2 x3 x4 x5 x6 x7 x8 x9 x10 x11 x12 = qHP (qOt f) x0 x1 x2 x3 x4 x5 x6 x7 x8 x9 x10 x11 x12 := by kernel_rfl
theorem qWB : ∀ f, qOt f = qEA f
 | 0 => rfl
 | f + 1 => by funext x0 x1 x2 x3 x4 x5 x6 x7 x8 x9 x10 x11 x12; rw [qiL, qWB f]; rfl
theorem qiP : qf Tryz.prog qHO 1 (qG Tryz.f4 4) :=
 ql mixed qOr (qT.of (l' := []) (by kernel_rfl) trivial) (q := 4) (kin := [0, 3, 4, 13, 14, 15]) (kout := [0, 3, 4]) (by kernel_rfl) (by kernel_rfl) fun vs objs K r h => by
  replace h : qOy vs objs K = some r := h
  unfold qOy at h
  split at h
  ·skip
   obtain ⟨t, h1, h2⟩ := qE h
   rw [<- qWC] at h1
   refine ⟨_, qOu, t, qC, h1, fun e vs' objs' hd => ?_⟩
   unfold qOu at hd;split at hd;(cases hd;exact h2);cases hd
  ·cases h
theorem qiO : qf Tryz.prog qHO 1 (qG Tryz.f4 10) :=
 ql mixed qOr (qT.of (l' := []) (by kernel_rfl) trivial) (q := 10) (kin := [0, 4, 30, 31, 32]) (kout := [4]) (by kernel_rfl) (by kernel_rfl) fun vs objs K r h => by
  replace h : qOx vs objs K = some r := h
  unfold qOx at h
  split at h
  ·skip
   obtain ⟨t, h1, h2⟩ := qE h
   rw [<- qWB] at h1
   refine ⟨_, qOs, t, qC, h1, fun e vs' objs' hd => ?_⟩
   unfold qOs at hd;split at hd;(cases hd;exact h2);cases hd
  ·cases h
def qWA : V -> List Obj -> Option (Nat × LI × LI × Int × LL × LL × Nat × LL) := fun v objs => match v, objs with
 | .s (.sl 1 0 y0 true), [.cells 49 [.arr .i8 81 y1, .arr .i8 16 y2, .one [.i .i8 y3], .rows [.i .u64, .i .u64] 32 y4, .rows [.i .u64, .i .u64] 2 y5], .sli 53 false (.rows [.i .i64, .i .i64, .i .i64, .b] y6 y7)] => some (y0, y1, y2, y3, y4, y5, y6, y7)
 | _, _ => none
theorem qiK (x0 x1 : LI) (x2 : Int) (x3 x4 : LL) : fnE qHO Tryz.f4 ([.s (.ptr 0 0 none 0)]) ([.cells 49 [.arr .i8 81 x0, .arr .i8 16 x1, .one [.i .i8 x2], .rows [.i .u64, .i .u64] 32 x3, .rows [.i .u64, .i .u64] 2 x4]]) qWA = qD9 x0 x1 x2 x3 x4 := by kernel_rfl
def qV9 : HA := fun o vs objs K => match vs, objs with
 | [.s (.ptr 0 0 none 0)], [.cells 49 [.arr .i8 81 x0, .arr .i8 16 x1, .one [.i .i8 x2], .rows [.i .u64, .i .u64] 32 x3, .rows [.i .u64, .i .u64] 2 x4]] => ob (qD9 x0 x1 x2 x3 x4) fun z => K false (.s (.sl 1 0 (z.1) true)) ([.cells 49 [.arr .i8 81 (z.2.1), .arr .i8 16 (z.2.2.1), .one [.i .i8 (z.2.2.2.1)], .rows [.i .u64, .i .u64] 32 (z.2.2.2.2.1), .rows [.i .u64, .i .u64] 2 (z.2.2.2.2.2.1)], .sli 53 false (.rows [.i .i64, .i .i64, .i .i64, .b] (z.2.2.2.2.2.2.1) (z.2.2.2.2.2.2.2))])
 | _, _ => o 4 vs objs K
def qOw (o : Orc) : Orc := qM 4 (qV9 o) o
theorem qWD : OQ Tryz.prog qOw := fun _ ho => qP ho fun vs objs K r h => by
 unfold qV9 at h
 split at h
 ·skip
  obtain ⟨t, h1, h2⟩ := qE h
  refine qAY mixed qOr (fn := Tryz.f4) (b := (Tryz.f4).body.getD .skip) (by kernel_rfl) (by kernel_rfl) (by kernel_rfl) ((qiK _ _ _ _ _).trans h1) (m := 1) rfl (qT.of (l' := [qG Tryz.f4 4, qG Tryz.f4 10]) (by kernel_rfl) ⟨qiP, qiO, trivial⟩) fun v objs' hd => ?_
  unfold qWA at hd;split at hd;(cases hd;exact h2);cases hd
 ·exact ho _ _ _ _ _ h
def qXy : Ctx := mkC 13 ((qDd qL)) [] qV
theorem qky : CtxOK Tryz.prog qXy := mkC_ok ((qEG _ qN))
def qXz : V -> List Obj -> Option (Int) := fun v objs => match v, objs with
 | .s (.i .i64 y0), [] => some (y0)
 | _, _ => none
theorem qkx (x0 : Int) : fnE qXy Tryz.f44 ([.s (.i .i64 x0)]) ([]) qXz = qCj x0 := by kernel_rfl
def qXx : HA := fun o vs objs K => match vs, objs with
 | [.s (.i .i64 x0)], [] => ob (qCj x0) fun y0 => K false (.s (.i .i64 y0)) ([])
 | _, _ => o 44 vs objs K
def qJJ (o : Orc) : Orc := qM 44 (qXx o) o
theorem qLW : OQ Tryz.prog qJJ := fun _ ho => qP ho fun vs objs K r h => by
 unfold qXx at h
 split at h
 ·skip
  obtain ⟨t, h1, h2⟩ := qE h
  refine qc mixed qky ((qkx _).trans h1) (by kernel_rfl) fun v objs' hd => ?_
  unfold qXz at hd;split at hd;(cases hd;exact h2);cases hd
 ·exact ho _ _ _ _ _ h
def qX4 : Ctx := mkC 15 (qL) [] qV
theorem qk2 : CtxOK Tryz.prog qX4 := mkC_ok (qN)
def qX5 : V -> List Obj -> Option (Int) := fun v objs => match v, objs with
 | .s (.i .i64 y0), [] => some (y0)
 | _, _ => none
theorem qk1 (x0 : Int) : fnE qX4 Tryz.f72 ([.s (.i .i64 x0)]) ([]) qX5 = qLX x0 := by kernel_rfl
def qX3 : HA := fun o vs objs K => match vs, objs with
 | [.s (.i .i64 x0)], [] => ob (qLX x0) fun y0 => K false (.s (.i .i64 y0)) ([])
 | _, _ => o 72 vs objs K
def qX6 (o : Orc) : Orc := qM 72 (qX3 o) o
theorem qk3 : OQ Tryz.prog qX6 := fun _ ho => qP ho fun vs objs K r h => by
 unfold qX3 at h
 split at h
 ·skip
  obtain ⟨t, h1, h2⟩ := qE h
  refine qc mixed qk2 ((qk1 _).trans h1) (by kernel_rfl) fun v objs' hd => ?_
  unfold qX5 at hd;split at hd;(cases hd;exact h2);cases hd
 ·exact ho _ _ _ _ _ h
end
end Go.Kk.KkST
