/- Printed by a tool of this project (KkGen): the program's functions come to the plain ones. -/
import Derived.Test.YtbeinkbjmmbloaaGreatDoorKkST
namespace Go.Kk.KkST
noncomputable section
open Go.Proofs Go.Kk.Pl
set_option maxRecDepth 100000
set_option maxHeartbeats 4000000
def qMu : Ex -> List V -> List Obj -> Option (Int × Int × Nat × Int × Int × LI × LI × Int × LL × LL × List (LI × LI) × Nat × LI) := fun e vs objs => match e, vs, objs with
 | .exit 2, [.s (.ptr 0 0 none 0), .s (.i .i64 y0), .s (.mp 1), .s (.i .i64 y1), .s (.sl 2 0 y2 true), .s (.i .i64 y3), .s (.i .i64 y4)], [.rcells 49 [.arr .i8 81 y5, .arr .i8 16 y6, .one [.i .i8 y7], .rows [.i .u64, .i .u64] 32 y8, .rows [.i .u64, .i .u64] 2 y9], .map false true [.i .i64] [.i .u64, .i .u64] y10, .sli 3 false (.arr .i64 y11 y12)] => some (y0, y1, y2, y3, y4, y5, y6, y7, y8, y9, y10, y11, y12)
 | _, _, _ => none
def qMs : Ex -> List V -> List Obj -> Option (LI × LI × Int × LL × LL × List (LI × LI)) := fun e vs objs => match e, vs, objs with
 | .exit 0, [.s (.mp 1)], [.rcells 49 [.arr .i8 81 y0, .arr .i8 16 y1, .one [.i .i8 y2], .rows [.i .u64, .i .u64] 32 y3, .rows [.i .u64, .i .u64] 2 y4], .map false true [.i .i64] [.i .u64, .i .u64] y5] => some (y0, y1, y2, y3, y4, y5)
 | _, _, _ => none
def qMx : HL := fun vs objs K => match vs, objs with
 | [.s (.ptr 0 0 none 0), .s (.i .i64 x0), .s (.mp 1), .s (.i .i64 x1), .s (.sl 2 0 x2 true), .s (.i .i64 x3), .s (.i .i64 x4), .s (.sl 3 0 x5 true), .s (.i .i64 x6), .s (.i .i64 x7)], [.rcells 49 [.arr .i8 81 x8, .arr .i8 16 x9, .one [.i .i8 x10], .rows [.i .u64, .i .u64] 32 x11, .rows [.i .u64, .i .u64] 2 x12], .map false true [.i .i64] [.i .u64, .i .u64] x13, .sli 3 false (.arr .i64 x14 x15), .sli 3 false (.arr .i64 x16 x17)] => ob (qEq qC x0 x1 x2 x3 x4 x5 x6 x7 x8 x9 x10 x11 x12 x13 x14 x15 x16 x17) fun z => K (.exit 2) ([.s (.ptr 0 0 none 0), .s (.i .i64 (z.1)), .s (.mp 1), .s (.i .i64 (z.2.1)), .s (.sl 2 0 (z.2.2.1) true), .s (.i .i64 (z.2.2.2.1)), .s (.i .i64 (z.2.2.2.2.1))]) ([.rcells 49 [.arr .i8 81 (z.2.2.2.2.2.1), .arr .i8 16 (z.2.2.2.2.2.2.1), .one [.i .i8 (z.2.2.2.2.2.2.2.1)], .rows [.i .u64, .i .u64] 32 (z.2.2.2.2.2.2.2.2.1), .rows [.i .u64, .i .u64] 2 (z.2.2.2.2.2.2.2.2.2.1)], .map false true [.i .i64] [.i .u64, .i .u64] (z.2.2.2.2.2.2.2.2.2.2.1), .sli 3 false (.arr .i64 (z.2.2.2.2.2.2.2.2.2.2.2.1) (z.2.2.2.2.2.2.2.2.2.2.2.2))])
 | _, _ => none
def qMw : HL := fun vs objs K => match vs, objs with
 | [.s (.ptr 0 0 none 0), .s (.i .i64 x0), .s (.mp 1), .s (.i .i64 x1), .s (.sl 2 0 x2 true), .s (.i .i64 x3), .s (.i .i64 x4)], [.rcells 49 [.arr .i8 81 x5, .arr .i8 16 x6, .one [.i .i8 x7], .rows [.i .u64, .i .u64] 32 x8, .rows [.i .u64, .i .u64] 2 x9], .map false true [.i .i64] [.i .u64, .i .u64] x10, .sli 3 false (.arr .i64 x11 x12)] => ob (qEp qC x0 x1 x2 x3 x4 x5 x6 x7 x8 x9 x10 x11 x12) fun z => K (.exit 0) ([.s (.mp 1)]) ([.rcells 49 [.arr .i8 81 (z.1), .arr .i8 16 (z.2.1), .one [.i .i8 (z.2.2.1)], .rows [.i .u64, .i .u64] 32 (z.2.2.2.1), .rows [.i .u64, .i .u64] 2 (z.2.2.2.2.1)], .map false true [.i .i64] [.i .u64, .i .u64] (z.2.2.2.2.2)])
 | _, _ => none
def qdq : {R : Type} -> Nat -> List V -> List Obj -> (Ex -> List V -> List Obj -> Option R) -> Option R := fun q vs objs K => bif Nat.beq q 9 then qMx vs objs K else bif Nat.beq q 6 then qMw vs objs K else none
def qGn : Ctx := mkC 89 ((qEa (qGW (qLh (qJh (qFz (qL8 (qID (qNO (qL6 (qFh (qGu (qPi (qJg (qF1 (qKG qL)))))))))))))))) [(6, [0, 1, 5, 6, 21, 22, 23], [5]), (9, [0, 1, 5, 6, 21, 22, 23, 32, 33, 34], [0, 1, 5, 6, 21, 22, 23])] qdq
theorem qMr : CtxOK Tryz.prog qGn := mkC_ok ((qFl _ (qIE _ (qPn _ (qMH _ (qGp _ (qQz _ (qJe _ (qTA _ (qQx _ (qGS _ (qIi _ (qYP _ (qMG _ (qGs _ (qNK _ qN))))))))))))))))
def qMv (f : Nat) (x0 x1 : Int) (x2 : Nat) (x3 x4 : Int) (x5 : Nat) (x6 x7 : Int) (x8 x9 : LI) (x10 : Int) (x11 x12 : LL) (x13 : List (LI × LI)) (x14 : Nat) (x15 : LI) (x16 : Nat) (x17 : LI) : Option (Int × Int × Nat × Int × Int × LI × LI × Int × LL × LL × List (LI × LI) × Nat × LI) := qg qGn 1 [0, 1, 5, 6, 21, 22, 23, 32, 33, 34] [0, 1, 5, 6, 21, 22, 23] (qG Tryz.f50 9) f ([.s (.ptr 0 0 none 0), .s (.i .i64 x0), .s (.mp 1), .s (.i .i64 x1), .s (.sl 2 0 x2 true), .s (.i .i64 x3), .s (.i .i64 x4), .s (.sl 3 0 x5 true), .s (.i .i64 x6), .s (.i .i64 x7)]) ([.rcells 49 [.arr .i8 81 x8, .arr .i8 16 x9, .one [.i .i8 x10], .rows [.i .u64, .i .u64] 32 x11, .rows [.i .u64, .i .u64] 2 x12], .map false true [.i .i64] [.i .u64, .i .u64] x13, .sli 3 false (.arr .i64 x14 x15), .sli 3 false (.arr .i64 x16 x17)]) qMu
theorem qdp (f : Nat) (x0 x1 : Int) (x2 : Nat) (x3 x4 : Int) (x5 : Nat) (x6 x7 : Int) (x8 x9 : LI) (x10 : Int) (x11 x12 : LL) (x13 : List (LI × LI)) (x14 : Nat) (x15 : LI) (x16 : Nat) (x17 : LI) : qMv (f + 1) x0 x1 x2 x3 x4 x5 x6 x7 x8 x9 x10 x11 x12 x13 x14 x15 x16 x17 = qFx (qMv f) x0 x1 x2 x3 x4 x5 x6 x7 x8 x9 x10 x11 x12 x13 x14 x15 x16 x17 := by kernel_rfl
theorem qSU : ∀ f, qMv f = qEq f
 | 0 => rfl
 | f + 1 => by funext x0 x1 x2 x3 x4 x5 x6 x7 x8 x9 x10 x11 x12 x13 x14 x15 x16 x17; rw [qdp, qSU f]; rfl
def qMt (f : Nat) (x0 x1 : Int) (x2 : Nat) (x3 x4 : Int) (x5 x6 : LI) (x7 : Int) (x8 x9 : LL) (x10 : List (LI × LI)) (x11 : Nat) (x12 : LI) : Option (LI × LI × Int × LL × LL × List (LI × LI)) := qg qGn 1 [0, 1, 5, 6, 21, 22, 23] [5] (qG Tryz.f50 6) f ([.s (.ptr 0 0 none 0), .s (.i .i64 x0), .s (.mp 1), .s (.i .i64 x1), .s (.sl 2 0 x2 true), .s (.i .i64 x3), .s (.i .i64 x4)]) ([.rcells 49 [.arr .i8 81 x5, .arr .i8 16 x6, .one [.i .i8 x7], .rows [.i .u64, .i .u64] 32 x8, .rows [.i .u64, .i .u64] 2 x9], .map false true [.i .i64] [.i .u64, .i .u64] x10, .sli 3 false (.arr .i64 x11 x12)]) qMs
theorem qdo (f : Nat) (x0 x1 : Int) (x2 : Nat) (x3 x4 : Int) (x5 x6 : LI) (x7 : Int) (x8 x9 : LL) (x10 : List (LI × LI)) (x11 : Nat) (x12 : LI) : qMt (f + 1) x0 x1 x2 x3 x4 x5 x6 x7 x8 x9 x10 x11 x12 = qGo (qMt f) x0 x1 x2 x3 x4 x5 x6 x7 x8 x9 x10 x11 x12 := by kernel_rfl
theorem qST : ∀ f, qMt f = qEp f
 | 0 => rfl
 | f + 1 => by funext x0 x1 x2 x3 x4 x5 x6 x7 x8 x9 x10 x11 x12; rw [qdo, qST f]; rfl
theorem qdt : qe Tryz.prog qGn 1 (qG Tryz.f50 9) :=
 qk mixed qMr (qT.of (l' := []) (by kernel_rfl) trivial) (q := 9) (kin := [0, 1, 5, 6, 21, 22, 23, 32, 33, 34]) (kout := [0, 1, 5, 6, 21, 22, 23]) (by kernel_rfl) (by kernel_rfl) fun vs objs K r h => by
  replace h : qMx vs objs K = some r := h
  unfold qMx at h
  split at h
  ·skip
   obtain ⟨t, h1, h2⟩ := qE h
   rw [<- qSU] at h1
   refine ⟨_, qMu, t, qC, h1, fun e vs' objs' hd => ?_⟩
   unfold qMu at hd;split at hd;(cases hd;exact h2);cases hd
  ·cases h
theorem qds : qe Tryz.prog qGn 1 (qG Tryz.f50 6) :=
 qk mixed qMr (qT.of (l' := [qG Tryz.f50 9]) (by kernel_rfl) ⟨qdt, trivial⟩) (q := 6) (kin := [0, 1, 5, 6, 21, 22, 23]) (kout := [5]) (by kernel_rfl) (by kernel_rfl) fun vs objs K r h => by
  replace h : qMw vs objs K = some r := h
  unfold qMw at h
  split at h
  ·skip
   obtain ⟨t, h1, h2⟩ := qE h
   rw [<- qST] at h1
   refine ⟨_, qMs, t, qC, h1, fun e vs' objs' hd => ?_⟩
   unfold qMs at hd;split at hd;(cases hd;exact h2);cases hd
  ·cases h
def qSS : V -> List Obj -> Option (List (LI × LI)) := fun v objs => match v, objs with
 | .s (.mp 1), [.map false true [.i .i64] [.i .u64, .i .u64] y0] => some (y0)
 | _, _ => none
theorem qdn (x0 : Int) (x1 x2 : LI) (x3 : Int) (x4 x5 : LL) : fnE qGn Tryz.f50 ([.s (.ptr 0 0 none 0), .s (.i .i64 x0)]) ([.rcells 49 [.arr .i8 81 x1, .arr .i8 16 x2, .one [.i .i8 x3], .rows [.i .u64, .i .u64] 32 x4, .rows [.i .u64, .i .u64] 2 x5]]) (qAZ 1 qSS) = qGm x0 x1 x2 x3 x4 x5 := by kernel_rfl
def qSR : HA := fun o vs objs K => match vs, List.map Obj.toRO objs with
 | [.s (.ptr 0 0 none 0), .s (.i .i64 x0)], [.rcells 49 [.arr .i8 81 x1, .arr .i8 16 x2, .one [.i .i8 x3], .rows [.i .u64, .i .u64] 32 x4, .rows [.i .u64, .i .u64] 2 x5]] => ob (qGm x0 x1 x2 x3 x4 x5) fun y0 => K true (.s (.mp 1)) ([.map false true [.i .i64] [.i .u64, .i .u64] y0])
 | _, _ => o 50 vs objs K
def qSV (o : Orc) : Orc := qM 50 (qSR o) o
theorem qdr : OQ Tryz.prog qSV := fun _ ho => qP ho fun vs objs K r h => by
 unfold qSR at h
 split at h
 ·skip
  have hq : List.map Obj.toRO objs = _ := (by rename_i hq; first | exact hq | assumption)
  obtain ⟨t, h1, h2⟩ := qE h
  refine qAh mixed qMr (m := 1) (fn := Tryz.f50) (b := (Tryz.f50).body.getD .skip) (by kernel_rfl) (by kernel_rfl) (by kernel_rfl) hq (by kernel_rfl) (by kernel_rfl) (qT.of (l' := [qG Tryz.f50 6]) (by kernel_rfl) ⟨qds, trivial⟩) ((qdn _ _ _ _ _ _).trans h1) fun v objs' hd => ?_
  unfold qSS at hd;split at hd;(cases hd;exact h2);cases hd
 ·exact ho _ _ _ _ _ h
def qMn : Ex -> List V -> List Obj -> Option (LI × LI × Int × LL × LL × Int × Int × Int × Int) := fun e vs objs => match e, vs, objs with
 | .exit 0, [.s (.ptr 1 0 none 0), .s (.ptr 2 0 none 0)], [.rcells 49 [.arr .i8 81 y0, .arr .i8 16 y1, .one [.i .i8 y2], .rows [.i .u64, .i .u64] 32 y3, .rows [.i .u64, .i .u64] 2 y4], .cells 45 [.one [.i .u64 y5, .i .u64 y6]], .cells 45 [.one [.i .u64 y7, .i .u64 y8]]] => some (y0, y1, y2, y3, y4, y5, y6, y7, y8)
 | _, _, _ => none
def qMq : HL := fun vs objs K => match vs, objs with
 | [.s (.ptr 0 0 none 0), .s (.i .i64 x0), .s (.i .i64 x1), .s (.ptr 1 0 none 0), .s (.ptr 2 0 none 0), .s (.ptr 3 0 none 0), .s (.i .i64 x2)], [.rcells 49 [.arr .i8 81 x3, .arr .i8 16 x4, .one [.i .i8 x5], .rows [.i .u64, .i .u64] 32 x6, .rows [.i .u64, .i .u64] 2 x7], .cells 45 [.one [.i .u64 x8, .i .u64 x9]], .cells 45 [.one [.i .u64 x10, .i .u64 x11]], .cells 45 [.one [.i .u64 x12, .i .u64 x13]]] => ob (qDw qC x0 x1 x2 x3 x4 x5 x6 x7 x8 x9 x10 x11 x12 x13) fun z => K (.exit 0) ([.s (.ptr 1 0 none 0), .s (.ptr 2 0 none 0)]) ([.rcells 49 [.arr .i8 81 (z.1), .arr .i8 16 (z.2.1), .one [.i .i8 (z.2.2.1)], .rows [.i .u64, .i .u64] 32 (z.2.2.2.1), .rows [.i .u64, .i .u64] 2 (z.2.2.2.2.1)], .cells 45 [.one [.i .u64 (z.2.2.2.2.2.1), .i .u64 (z.2.2.2.2.2.2.1)]], .cells 45 [.one [.i .u64 (z.2.2.2.2.2.2.2.1), .i .u64 (z.2.2.2.2.2.2.2.2)]]])
 | _, _ => none
def qdl : {R : Type} -> Nat -> List V -> List Obj -> (Ex -> List V -> List Obj -> Option R) -> Option R := fun q vs objs K => bif Nat.beq q 5 then qMq vs objs K else none
def qJ8 : Ctx := mkC 49 ((qGX (qFh (qF1 (qLh (qDb qL)))))) [(5, [0, 1, 2, 7, 8, 9, 10], [8, 9])] qdl
theorem qSN : CtxOK Tryz.prog qJ8 := mkC_ok ((qII _ (qGS _ (qGs _ (qPn _ (qEF _ qN))))))
def qMo (f : Nat) (x0 x1 x2 : Int) (x3 x4 : LI) (x5 : Int) (x6 x7 : LL) (x8 x9 : Int) (x10 x11 : Int) (x12 x13 : Int) : Option (LI × LI × Int × LL × LL × Int × Int × Int × Int) := qg qJ8 1 [0, 1, 2, 7, 8, 9, 10] [8, 9] (qG Tryz.f64 5) f ([.s (.ptr 0 0 none 0), .s (.i .i64 x0), .s (.i .i64 x1), .s (.ptr 1 0 none 0), .s (.ptr 2 0 none 0), .s (.ptr 3 0 none 0), .s (.i .i64 x2)]) ([.rcells 49 [.arr .i8 81 x3, .arr .i8 16 x4, .one [.i .i8 x5], .rows [.i .u64, .i .u64] 32 x6, .rows [.i .u64, .i .u64] 2 x7], .cells 45 [.one [.i .u64 x8, .i .u64 x9]], .cells 45 [.one [.i .u64 x10, .i .u64 x11]], .cells 45 [.one [.i .u64 x12, .i .u64 x13]]]) qMn
theorem qdk (f : Nat) (x0 x1 x2 : Int) (x3 x4 : LI) (x5 : Int) (x6 x7 : LL) (x8 x9 : Int) (x10 x11 : Int) (x12 x13 : Int) : qMo (f + 1) x0 x1 x2 x3 x4 x5 x6 x7 x8 x9 x10 x11 x12 x13 = qGl (qMo f) x0 x1 x2 x3 x4 x5 x6 x7 x8 x9 x10 x11 x12 x13 := by kernel_rfl
theorem qSP : ∀ f, qMo f = qDw f
 | 0 => rfl
 | f + 1 => by funext x0 x1 x2 x3 x4 x5 x6 x7 x8 x9 x10 x11 x12 x13; rw [qdk, qSP f]; rfl
theorem qdm : qe Tryz.prog qJ8 1 (qG Tryz.f64 5) :=
 qk mixed qSN (qT.of (l' := []) (by kernel_rfl) trivial) (q := 5) (kin := [0, 1, 2, 7, 8, 9, 10]) (kout := [8, 9]) (by kernel_rfl) (by kernel_rfl) fun vs objs K r h => by
  replace h : qMq vs objs K = some r := h
  unfold qMq at h
  split at h
  ·skip
   obtain ⟨t, h1, h2⟩ := qE h
   rw [<- qSP] at h1
   refine ⟨_, qMn, t, qC, h1, fun e vs' objs' hd => ?_⟩
   unfold qMn at hd;split at hd;(cases hd;exact h2);cases hd
  ·cases h
def qSO : V -> List Obj -> Option (Int × Int) := fun v objs => match v, objs with
 | .agg [.one [.i .u64 y0, .i .u64 y1]], [] => some (y0, y1)
 | _, _ => none
theorem qdj (x0 x1 : Int) (x2 x3 : Int) (x4 x5 : LI) (x6 : Int) (x7 x8 : LL) : fnE qJ8 Tryz.f64 ([.s (.ptr 0 0 none 0), .s (.i .i64 x0), .s (.i .i64 x1), .agg [.one [.i .u64 x2, .i .u64 x3]]]) ([.rcells 49 [.arr .i8 81 x4, .arr .i8 16 x5, .one [.i .i8 x6], .rows [.i .u64, .i .u64] 32 x7, .rows [.i .u64, .i .u64] 2 x8]]) (qAZ 1 qSO) = qGk x0 x1 x2 x3 x4 x5 x6 x7 x8 := by kernel_rfl
def qSM : HA := fun o vs objs K => match vs, List.map Obj.toRO objs with
 | [.s (.ptr 0 0 none 0), .s (.i .i64 x0), .s (.i .i64 x1), .agg [.one [.i .u64 x2, .i .u64 x3]]], [.rcells 49 [.arr .i8 81 x4, .arr .i8 16 x5, .one [.i .i8 x6], .rows [.i .u64, .i .u64] 32 x7, .rows [.i .u64, .i .u64] 2 x8]] => ob (qGk x0 x1 x2 x3 x4 x5 x6 x7 x8) fun z => K true (.agg [.one [.i .u64 (z.1), .i .u64 (z.2)]]) ([])
 | _, _ => o 64 vs objs K
def qMp (o : Orc) : Orc := qM 64 (qSM o) o
theorem qSQ : OQ Tryz.prog qMp := fun _ ho => qP ho fun vs objs K r h => by
 unfold qSM at h
 split at h
 ·skip
  have hq : List.map Obj.toRO objs = _ := (by rename_i hq; first | exact hq | assumption)
  obtain ⟨t, h1, h2⟩ := qE h
  refine qAh mixed qSN (m := 1) (fn := Tryz.f64) (b := (Tryz.f64).body.getD .skip) (by kernel_rfl) (by kernel_rfl) (by kernel_rfl) hq (by kernel_rfl) (by kernel_rfl) (qT.of (l' := [qG Tryz.f64 5]) (by kernel_rfl) ⟨qdm, trivial⟩) ((qdj _ _ _ _ _ _ _ _ _).trans h1) fun v objs' hd => ?_
  unfold qSO at hd;split at hd;(cases hd;exact h2);cases hd
 ·exact ho _ _ _ _ _ h
def qSF : Ctx := mkC 14 ((qMp (qGu (qKG qL)))) [] qV
theorem qde : CtxOK Tryz.prog qSF := mkC_ok ((qSQ _ (qIi _ (qNK _ qN))))
def qSG : V -> List Obj -> Option (Int × Int) := fun v objs => match v, objs with
 | .agg [.one [.i .u64 y0, .i .u64 y1]], [] => some (y0, y1)
 | _, _ => none
theorem qdd (x0 : Int) (x1 x2 : LI) (x3 : Int) (x4 x5 : LL) : fnE qSF Tryz.f51 ([.s (.ptr 0 0 none 0), .s (.i .i64 x0)]) ([.rcells 49 [.arr .i8 81 x1, .arr .i8 16 x2, .one [.i .i8 x3], .rows [.i .u64, .i .u64] 32 x4, .rows [.i .u64, .i .u64] 2 x5]]) (qAZ 1 qSG) = qFw x0 x1 x2 x3 x4 x5 := by kernel_rfl
def qSE : HA := fun o vs objs K => match vs, List.map Obj.toRO objs with
 | [.s (.ptr 0 0 none 0), .s (.i .i64 x0)], [.rcells 49 [.arr .i8 81 x1, .arr .i8 16 x2, .one [.i .i8 x3], .rows [.i .u64, .i .u64] 32 x4, .rows [.i .u64, .i .u64] 2 x5]] => ob (qFw x0 x1 x2 x3 x4 x5) fun z => K true (.agg [.one [.i .u64 (z.1), .i .u64 (z.2)]]) ([])
 | _, _ => o 51 vs objs K
def qJ7 (o : Orc) : Orc := qM 51 (qSE o) o
theorem qMm : OQ Tryz.prog qJ7 := fun _ ho => qP ho fun vs objs K r h => by
 unfold qSE at h
 split at h
 ·skip
  have hq : List.map Obj.toRO objs = _ := (by rename_i hq; first | exact hq | assumption)
  obtain ⟨t, h1, h2⟩ := qE h
  refine qAh mixed qde (m := 1) (fn := Tryz.f51) (b := (Tryz.f51).body.getD .skip) (by kernel_rfl) (by kernel_rfl) (by kernel_rfl) hq (by kernel_rfl) (by kernel_rfl) (qT.of (l' := []) (by kernel_rfl) trivial) ((qdd _ _ _ _ _ _).trans h1) fun v objs' hd => ?_
  unfold qSG at hd;split at hd;(cases hd;exact h2);cases hd
 ·exact ho _ _ _ _ _ h
def qWJ : Ctx := mkC 44 ((qGX (qPi (qL8 (qL6 (qJ7 (qSV (qJd (qKG qL))))))))) [] qV
theorem qiV : CtxOK Tryz.prog qWJ := mkC_ok ((qII _ (qYP _ (qQz _ (qQx _ (qMm _ (qdr _ (qL5 _ (qNK _ qN)))))))))
def qWK : V -> List Obj -> Option (Int × Int × Int × Int × Bool × List (LI × LI)) := fun v objs => match v, objs with
 | .agg [.one [.ptr 0 0 none 0, .i .i64 y0, .i .i64 y1, .i .u64 y2, .i .u64 y3, .mp 1, .b y4]], [.map false true [.i .i64] [.i .u64, .i .u64] y5] => some (y0, y1, y2, y3, y4, y5)
 | _, _ => none
theorem qiU (x0 x1 : LI) (x2 : Int) (x3 x4 : LL) : fnE qWJ Tryz.f18 ([.s (.ptr 0 0 none 0)]) ([.rcells 49 [.arr .i8 81 x0, .arr .i8 16 x1, .one [.i .i8 x2], .rows [.i .u64, .i .u64] 32 x3, .rows [.i .u64, .i .u64] 2 x4]]) (qAZ 1 qWK) = qHR x0 x1 x2 x3 x4 := by kernel_rfl
def qWI : HA := fun o vs objs K => match vs, List.map Obj.toRO objs with
 | [.s (.ptr 0 0 none 0)], [.rcells 49 [.arr .i8 81 x0, .arr .i8 16 x1, .one [.i .i8 x2], .rows [.i .u64, .i .u64] 32 x3, .rows [.i .u64, .i .u64] 2 x4]] => ob (qHR x0 x1 x2 x3 x4) fun z => K true (.agg [.one [.ptr 0 0 none 0, .i .i64 (z.1), .i .i64 (z.2.1), .i .u64 (z.2.2.1), .i .u64 (z.2.2.2.1), .mp 1, .b (z.2.2.2.2.1)]]) ([.map false true [.i .i64] [.i .u64, .i .u64] (z.2.2.2.2.2)])
 | _, _ => o 18 vs objs K
def qO0 (o : Orc) : Orc := qM 18 (qWI o) o
theorem qWL : OQ Tryz.prog qO0 := fun _ ho => qP ho fun vs objs K r h => by
 unfold qWI at h
 split at h
 ·skip
  have hq : List.map Obj.toRO objs = _ := (by rename_i hq; first | exact hq | assumption)
  obtain ⟨t, h1, h2⟩ := qE h
  refine qAh mixed qiV (m := 1) (fn := Tryz.f18) (b := (Tryz.f18).body.getD .skip) (by kernel_rfl) (by kernel_rfl) (by kernel_rfl) hq (by kernel_rfl) (by kernel_rfl) (qT.of (l' := []) (by kernel_rfl) trivial) ((qiU _ _ _ _ _).trans h1) fun v objs' hd => ?_
  unfold qWK at hd;split at hd;(cases hd;exact h2);cases hd
 ·exact ho _ _ _ _ _ h
def qX7 : Ctx := mkC 13 (qL) [] qV
theorem qk4 : CtxOK Tryz.prog qX7 := mkC_ok (qN)
def qX8 : V -> List Obj -> Option (Int) := fun v objs => match v, objs with
 | .s (.i .i64 y0), [] => some (y0)
 | _, _ => none
theorem qk3 (x0 : Int) : fnE qX7 Tryz.f42 ([.s (.i .i64 x0)]) ([]) qX8 = qCj x0 := by kernel_rfl
def qX6 : HA := fun o vs objs K => match vs, objs with
 | [.s (.i .i64 x0)], [] => ob (qCj x0) fun y0 => K false (.s (.i .i64 y0)) ([])
 | _, _ => o 42 vs objs K
def qJJ (o : Orc) : Orc := qM 42 (qX6 o) o
theorem qLX : OQ Tryz.prog qJJ := fun _ ho => qP ho fun vs objs K r h => by
 unfold qX6 at h
 split at h
 ·skip
  obtain ⟨t, h1, h2⟩ := qE h
  refine any0K mixed qk4 ((qk3 _).trans h1) (by kernel_rfl) fun v objs' hd => ?_
  unfold qX8 at hd;split at hd;(cases hd;exact h2);cases hd
 ·exact ho _ _ _ _ _ h
def qcL : Ctx := mkC 23 ((qMD qL)) [] qV
theorem qpU : CtxOK Tryz.prog qcL := mkC_ok ((qQ8 _ qN))
def qcM : V -> List Obj -> Option (Int) := fun v objs => match v, objs with
 | .s (.i .i64 y0), [] => some (y0)
 | _, _ => none
theorem qpT (x0 x1 : Int) : fnE qcL Tryz.f110 ([.s (.i .i64 x0), .s (.i .i64 x1)]) ([]) qcM = qFo x0 x1 := by kernel_rfl
def qcK : HA := fun o vs objs K => match vs, objs with
 | [.s (.i .i64 x0), .s (.i .i64 x1)], [] => ob (qFo x0 x1) fun y0 => K false (.s (.i .i64 y0)) ([])
 | _, _ => o 110 vs objs K
def qRS (o : Orc) : Orc := qM 110 (qcK o) o
theorem qcN : OQ Tryz.prog qRS := fun _ ho => qP ho fun vs objs K r h => by
 unfold qcK at h
 split at h
 ·skip
  obtain ⟨t, h1, h2⟩ := qE h
  refine any0K mixed qpU ((qpT _ _).trans h1) (by kernel_rfl) fun v objs' hd => ?_
  unfold qcM at hd;split at hd;(cases hd;exact h2);cases hd
 ·exact ho _ _ _ _ _ h
def qRW : Ex -> List V -> List Obj -> Option (Int × Int × Int × Int) := fun e vs objs => match e, vs, objs with
 | .exit 0, [.s (.ptr 0 0 none 0), .s (.ptr 1 0 none 0)], [.cells 45 [.one [.i .u64 y0, .i .u64 y1]], .cells 45 [.one [.i .u64 y2, .i .u64 y3]]] => some (y0, y1, y2, y3)
 | _, _, _ => none
def qRY : HL := fun vs objs K => match vs, objs with
 | [.s (.i .i64 x0), .s (.ptr 0 0 none 0), .s (.ptr 1 0 none 0), .s (.i .i64 x1)], [.cells 45 [.one [.i .u64 x2, .i .u64 x3]], .cells 45 [.one [.i .u64 x4, .i .u64 x5]]] => ob (qMS qC x0 x1 x2 x3 x4 x5) fun z => K (.exit 0) ([.s (.ptr 0 0 none 0), .s (.ptr 1 0 none 0)]) ([.cells 45 [.one [.i .u64 (z.1), .i .u64 (z.2.1)]], .cells 45 [.one [.i .u64 (z.2.2.1), .i .u64 (z.2.2.2)]]])
 | _, _ => none
def qpc : {R : Type} -> Nat -> List V -> List Obj -> (Ex -> List V -> List Obj -> Option R) -> Option R := fun q vs objs K => bif Nat.beq q 3 then qRY vs objs K else none
def qMR : Ctx := mkC 23 ((qEa (qRS qL))) [(3, [0, 2, 3, 6], [2, 3])] qpc
theorem qcU : CtxOK Tryz.prog qMR := mkC_ok ((qFl _ (qcN _ qN)))
def qRX (f : Nat) (x0 x1 : Int) (x2 x3 : Int) (x4 x5 : Int) : Option (Int × Int × Int × Int) := qg qMR 0 [0, 2, 3, 6] [2, 3] (qG Tryz.f92 3) f ([.s (.i .i64 x0), .s (.ptr 0 0 none 0), .s (.ptr 1 0 none 0), .s (.i .i64 x1)]) ([.cells 45 [.one [.i .u64 x2, .i .u64 x3]], .cells 45 [.one [.i .u64 x4, .i .u64 x5]]]) qRW
theorem qpb (f : Nat) (x0 x1 : Int) (x2 x3 : Int) (x4 x5 : Int) : qRX (f + 1) x0 x1 x2 x3 x4 x5 = qcX (qRX f) x0 x1 x2 x3 x4 x5 := by kernel_rfl
theorem qcW : ∀ f, qRX f = qMS f
 | 0 => rfl
 | f + 1 => by funext x0 x1 x2 x3 x4 x5; rw [qpb, qcW f]; rfl
theorem qpe : qe Tryz.prog qMR 0 (qG Tryz.f92 3) :=
 qk mixed qcU (qT.of (l' := []) (by kernel_rfl) trivial) (q := 3) (kin := [0, 2, 3, 6]) (kout := [2, 3]) (by kernel_rfl) (by kernel_rfl) fun vs objs K r h => by
  replace h : qRY vs objs K = some r := h
  unfold qRY at h
  split at h
  ·skip
   obtain ⟨t, h1, h2⟩ := qE h
   rw [<- qcW] at h1
   refine ⟨_, qRW, t, qC, h1, fun e vs' objs' hd => ?_⟩
   unfold qRW at hd;split at hd;(cases hd;exact h2);cases hd
  ·cases h
def qcV : V -> List Obj -> Option (Int × Int) := fun v objs => match v, objs with
 | .agg [.one [.i .u64 y0, .i .u64 y1]], [] => some (y0, y1)
 | _, _ => none
theorem qpa (x0 : Int) : fnE qMR Tryz.f92 ([.s (.i .i64 x0)]) ([]) qcV = qJl x0 := by kernel_rfl
def qcT : HA := fun o vs objs K => match vs, objs with
 | [.s (.i .i64 x0)], [] => ob (qJl x0) fun z => K false (.agg [.one [.i .u64 (z.1), .i .u64 (z.2)]]) ([])
 | _, _ => o 92 vs objs K
def qcY (o : Orc) : Orc := qM 92 (qcT o) o
theorem qpd : OQ Tryz.prog qcY := fun _ ho => qP ho fun vs objs K r h => by
 unfold qcT at h
 split at h
 ·skip
  obtain ⟨t, h1, h2⟩ := qE h
  refine qAX mixed qcU (fn := Tryz.f92) (b := (Tryz.f92).body.getD .skip) (by kernel_rfl) (by kernel_rfl) (by kernel_rfl) ((qpa _).trans h1) (m := 0) rfl (qT.of (l' := [qG Tryz.f92 3]) (by kernel_rfl) ⟨qpe, trivial⟩) fun v objs' hd => ?_
  unfold qcV at hd;split at hd;(cases hd;exact h2);cases hd
 ·exact ho _ _ _ _ _ h
def qb8 : Ctx := mkC 25 ((qCO (qRS (qDc qL)))) [] qV
theorem qpJ : CtxOK Tryz.prog qb8 := mkC_ok ((qCh _ (qcN _ (qEG _ qN))))
def qb9 : V -> List Obj -> Option (Bool) := fun v objs => match v, objs with
 | .s (.b y0), [] => some (y0)
 | _, _ => none
theorem qpI (x0 x1 : Int) : fnE qb8 Tryz.f93 ([.s (.i .i8 x0), .s (.i .i64 x1)]) ([]) qb9 = qDo x0 x1 := by kernel_rfl
def qb7 : HA := fun o vs objs K => match vs, objs with
 | [.s (.i .i8 x0), .s (.i .i64 x1)], [] => ob (qDo x0 x1) fun y0 => K false (.s (.b y0)) ([])
 | _, _ => o 93 vs objs K
def qMP (o : Orc) : Orc := qM 93 (qb7 o) o
theorem qRO : OQ Tryz.prog qMP := fun _ ho => qP ho fun vs objs K r h => by
 unfold qb7 at h
 split at h
 ·skip
  obtain ⟨t, h1, h2⟩ := qE h
  refine any0K mixed qpJ ((qpI _ _).trans h1) (by kernel_rfl) fun v objs' hd => ?_
  unfold qb9 at hd;split at hd;(cases hd;exact h2);cases hd
 ·exact ho _ _ _ _ _ h
def qVK : Ctx := mkC 27 ((qMP (qGW (qcY (qDc (qJJ (qCO qL))))))) [] qV
theorem qhO : CtxOK Tryz.prog qVK := mkC_ok ((qRO _ (qIE _ (qpd _ (qEG _ (qLX _ (qCh _ qN)))))))
def qVL : V -> List Obj -> Option (Bool × Bool) := fun v objs => match v, objs with
 | .tup [W.s (.b y0), W.s (.b y1)], [] => some (y0, y1)
 | _, _ => none
theorem qhN (x0 x1 x2 : Int) : fnE qVK Tryz.f63 ([.s (.i .i8 x0), .s (.i .i64 x1), .s (.i .i64 x2)]) ([]) qVL = qI2 x0 x1 x2 := by kernel_rfl
def qVJ : HA := fun o vs objs K => match vs, objs with
 | [.s (.i .i8 x0), .s (.i .i64 x1), .s (.i .i64 x2)], [] => ob (qI2 x0 x1 x2) fun z => K false (.tup [W.s (.b (z.1)), W.s (.b (z.2))]) ([])
 | _, _ => o 63 vs objs K
def qVM (o : Orc) : Orc := qM 63 (qVJ o) o
theorem qhP : OQ Tryz.prog qVM := fun _ ho => qP ho fun vs objs K r h => by
 unfold qVJ at h
 split at h
 ·skip
  obtain ⟨t, h1, h2⟩ := qE h
  refine any0K mixed qhO ((qhN _ _ _).trans h1) (by kernel_rfl) fun v objs' hd => ?_
  unfold qVL at hd;split at hd;(cases hd;exact h2);cases hd
 ·exact ho _ _ _ _ _ h
def qOC : Ex -> List V -> List Obj -> Option (Nat × Int × Nat × Int × Int × LI × LI × Int × LL × LL × Int × Int × Nat × LL × Int × Int × Nat × LI) := fun e vs objs => match e, vs, objs with
 | .exit 2, [.s (.ptr 0 0 none 0), .s (.ptr 1 0 none 0), .s (.sl 2 0 y0 true), .s (.i .i64 y1), .s (.ptr 3 0 none 0), .s (.sl 4 0 y2 true), .s (.i .i64 y3), .s (.i .i64 y4)], [.rcells 49 [.arr .i8 81 y5, .arr .i8 16 y6, .one [.i .i8 y7], .rows [.i .u64, .i .u64] 32 y8, .rows [.i .u64, .i .u64] 2 y9], .cells 45 [.one [.i .u64 y10, .i .u64 y11]], .sli 53 false (.rows [.i .i64, .i .i64, .i .i64, .b] y12 y13), .cells 45 [.one [.i .u64 y14, .i .u64 y15]], .sli 3 false (.arr .i64 y16 y17)] => some (y0, y1, y2, y3, y4, y5, y6, y7, y8, y9, y10, y11, y12, y13, y14, y15, y16, y17)
 | _, _, _ => none
def qOA : Ex -> List V -> List Obj -> Option (Nat × LI × LI × Int × LL × LL × Nat × LL) := fun e vs objs => match e, vs, objs with
 | .exit 0, [.s (.sl 1 0 y0 true)], [.rcells 49 [.arr .i8 81 y1, .arr .i8 16 y2, .one [.i .i8 y3], .rows [.i .u64, .i .u64] 32 y4, .rows [.i .u64, .i .u64] 2 y5], .sli 53 false (.rows [.i .i64, .i .i64, .i .i64, .b] y6 y7)] => some (y0, y1, y2, y3, y4, y5, y6, y7)
 | _, _, _ => none
def qOG : HL := fun vs objs K => match vs, objs with
 | [.s (.ptr 0 0 none 0), .s (.ptr 1 0 none 0), .s (.sl 2 0 x0 true), .s (.i .i64 x1), .s (.ptr 3 0 none 0), .s (.i .i64 x2), .s (.i .i8 x3), .s (.sl 4 0 x4 true), .s (.i .i64 x5), .s (.i .i64 x6), .s (.sl 5 0 x7 true), .s (.i .i64 x8), .s (.i .i64 x9)], [.rcells 49 [.arr .i8 81 x10, .arr .i8 16 x11, .one [.i .i8 x12], .rows [.i .u64, .i .u64] 32 x13, .rows [.i .u64, .i .u64] 2 x14], .cells 45 [.one [.i .u64 x15, .i .u64 x16]], .sli 53 false (.rows [.i .i64, .i .i64, .i .i64, .b] x17 x18), .cells 45 [.one [.i .u64 x19, .i .u64 x20]], .sli 3 false (.arr .i64 x21 x22), .sli 3 false (.arr .i64 x23 x24)] => ob (qE7 qC x0 x1 x2 x3 x4 x5 x6 x7 x8 x9 x10 x11 x12 x13 x14 x15 x16 x17 x18 x19 x20 x21 x22 x23 x24) fun z => K (.exit 2) ([.s (.ptr 0 0 none 0), .s (.ptr 1 0 none 0), .s (.sl 2 0 (z.1) true), .s (.i .i64 (z.2.1)), .s (.ptr 3 0 none 0), .s (.sl 4 0 (z.2.2.1) true), .s (.i .i64 (z.2.2.2.1)), .s (.i .i64 (z.2.2.2.2.1))]) ([.rcells 49 [.arr .i8 81 (z.2.2.2.2.2.1), .arr .i8 16 (z.2.2.2.2.2.2.1), .one [.i .i8 (z.2.2.2.2.2.2.2.1)], .rows [.i .u64, .i .u64] 32 (z.2.2.2.2.2.2.2.2.1), .rows [.i .u64, .i .u64] 2 (z.2.2.2.2.2.2.2.2.2.1)], .cells 45 [.one [.i .u64 (z.2.2.2.2.2.2.2.2.2.2.1), .i .u64 (z.2.2.2.2.2.2.2.2.2.2.2.1)]], .sli 53 false (.rows [.i .i64, .i .i64, .i .i64, .b] (z.2.2.2.2.2.2.2.2.2.2.2.2.1) (z.2.2.2.2.2.2.2.2.2.2.2.2.2.1)), .cells 45 [.one [.i .u64 (z.2.2.2.2.2.2.2.2.2.2.2.2.2.2.1), .i .u64 (z.2.2.2.2.2.2.2.2.2.2.2.2.2.2.2.1)]], .sli 3 false (.arr .i64 (z.2.2.2.2.2.2.2.2.2.2.2.2.2.2.2.2.1) (z.2.2.2.2.2.2.2.2.2.2.2.2.2.2.2.2.2))])
 | _, _ => none
def qOF : HL := fun vs objs K => match vs, objs with
 | [.s (.ptr 0 0 none 0), .s (.ptr 1 0 none 0), .s (.sl 2 0 x0 true), .s (.i .i64 x1), .s (.ptr 3 0 none 0), .s (.sl 4 0 x2 true), .s (.i .i64 x3), .s (.i .i64 x4)], [.rcells 49 [.arr .i8 81 x5, .arr .i8 16 x6, .one [.i .i8 x7], .rows [.i .u64, .i .u64] 32 x8, .rows [.i .u64, .i .u64] 2 x9], .cells 45 [.one [.i .u64 x10, .i .u64 x11]], .sli 53 false (.rows [.i .i64, .i .i64, .i .i64, .b] x12 x13), .cells 45 [.one [.i .u64 x14, .i .u64 x15]], .sli 3 false (.arr .i64 x16 x17)] => ob (qE6 qC x0 x1 x2 x3 x4 x5 x6 x7 x8 x9 x10 x11 x12 x13 x14 x15 x16 x17) fun z => K (.exit 0) ([.s (.sl 1 0 (z.1) true)]) ([.rcells 49 [.arr .i8 81 (z.2.1), .arr .i8 16 (z.2.2.1), .one [.i .i8 (z.2.2.2.1)], .rows [.i .u64, .i .u64] 32 (z.2.2.2.2.1), .rows [.i .u64, .i .u64] 2 (z.2.2.2.2.2.1)], .sli 53 false (.rows [.i .i64, .i .i64, .i .i64, .b] (z.2.2.2.2.2.2.1) (z.2.2.2.2.2.2.2))])
 | _, _ => none
def qg8 : {R : Type} -> Nat -> List V -> List Obj -> (Ex -> List V -> List Obj -> Option R) -> Option R := fun q vs objs K => bif Nat.beq q 9 then qOG vs objs K else bif Nat.beq q 5 then qOF vs objs K else none
def qHA : Ctx := mkC 82 ((qVM (qFh (qMB (qLh (qGu (qFz (qJg (qNO (qGX (qF1 qL))))))))))) [(5, [0, 3, 5, 6, 7, 29, 30, 31], [5]), (9, [0, 3, 5, 6, 7, 9, 10, 29, 30, 31, 51, 52, 53], [0, 3, 5, 6, 7, 29, 30, 31])] qg8
theorem qN9 : CtxOK Tryz.prog qHA := mkC_ok ((qhP _ (qGS _ (qQ4 _ (qPn _ (qIi _ (qGp _ (qMG _ (qTA _ (qII _ (qGs _ qN)))))))))))
def qOD (f : Nat) (x0 : Nat) (x1 x2 x3 : Int) (x4 : Nat) (x5 x6 : Int) (x7 : Nat) (x8 x9 : Int) (x10 x11 : LI) (x12 : Int) (x13 x14 : LL) (x15 x16 : Int) (x17 : Nat) (x18 : LL) (x19 x20 : Int) (x21 : Nat) (x22 : LI) (x23 : Nat) (x24 : LI) : Option (Nat × Int × Nat × Int × Int × LI × LI × Int × LL × LL × Int × Int × Nat × LL × Int × Int × Nat × LI) := qg qHA 1 [0, 3, 5, 6, 7, 9, 10, 29, 30, 31, 51, 52, 53] [0, 3, 5, 6, 7, 29, 30, 31] (qG Tryz.f19 9) f ([.s (.ptr 0 0 none 0), .s (.ptr 1 0 none 0), .s (.sl 2 0 x0 true), .s (.i .i64 x1), .s (.ptr 3 0 none 0), .s (.i .i64 x2), .s (.i .i8 x3), .s (.sl 4 0 x4 true), .s (.i .i64 x5), .s (.i .i64 x6), .s (.sl 5 0 x7 true), .s (.i .i64 x8), .s (.i .i64 x9)]) ([.rcells 49 [.arr .i8 81 x10, .arr .i8 16 x11, .one [.i .i8 x12], .rows [.i .u64, .i .u64] 32 x13, .rows [.i .u64, .i .u64] 2 x14], .cells 45 [.one [.i .u64 x15, .i .u64 x16]], .sli 53 false (.rows [.i .i64, .i .i64, .i .i64, .b] x17 x18), .cells 45 [.one [.i .u64 x19, .i .u64 x20]], .sli 3 false (.arr .i64 x21 x22), .sli 3 false (.arr .i64 x23 x24)]) qOC
theorem qg7 (f : Nat) (x0 : Nat) (x1 x2 x3 : Int) (x4 : Nat) (x5 x6 : Int) (x7 : Nat) (x8 x9 : Int) (x10 x11 : LI) (x12 : Int) (x13 x14 : LL) (x15 x16 : Int) (x17 : Nat) (x18 : LL) (x19 x20 : Int) (x21 : Nat) (x22 : LI) (x23 : Nat) (x24 : LI) : qOD (f + 1) x0 x1 x2 x3 x4 x5 x6 x7 x8 x9 x10 x11 x12 x13 x14 x15 x16 x17 x18 x19 x20 x21 x22 x23 x24 = qHC (qOD f) x0 x1 x2 x3 x4 x5 x6 x7 x8 x9 x10 x11 x12 x13 x14 x15 x16 x17 x18 x19 x20 x21 x22 x23 x24 := by kernel_rfl
theorem qU7 : ∀ f, qOD f = qE7 f
 | 0 => rfl
 | f + 1 => by funext x0 x1 x2 x3 x4 x5 x6 x7 x8 x9 x10 x11 x12 x13 x14 x15 x16 x17 x18 x19 x20 x21 x22 x23 x24; rw [qg7, qU7 f]; rfl
def qOB (f : Nat) (x0 : Nat) (x1 : Int) (x2 : Nat) (x3 x4 : Int) (x5 x6 : LI) (x7 : Int) (x8 x9 : LL) (x10 x11 : Int) (x12 : Nat) (x13 : LL) (x14 x15 : Int) (x16 : Nat) (x17 : LI) : Option (Nat × LI × LI × Int × LL × LL × Nat × LL) := qg qHA 1 [0, 3, 5, 6, 7, 29, 30, 31] [5] (qG Tryz.f19 5) f ([.s (.ptr 0 0 none 0), .s (.ptr 1 0 none 0), .s (.sl 2 0 x0 true), .s (.i .i64 x1), .s (.ptr 3 0 none 0), .s (.sl 4 0 x2 true), .s (.i .i64 x3), .s (.i .i64 x4)]) ([.rcells 49 [.arr .i8 81 x5, .arr .i8 16 x6, .one [.i .i8 x7], .rows [.i .u64, .i .u64] 32 x8, .rows [.i .u64, .i .u64] 2 x9], .cells 45 [.one [.i .u64 x10, .i .u64 x11]], .sli 53 false (.rows [.i .i64, .i .i64, .i .i64, .b] x12 x13), .cells 45 [.one [.i .u64 x14, .i .u64 x15]], .sli 3 false (.arr .i64 x16 x17)]) qOA
theorem qg6 (f : Nat) (x0 : Nat) (x1 : Int) (x2 : Nat) (x3 x4 : Int) (x5 x6 : LI) (x7 : Int) (x8 x9 : LL) (x10 x11 : Int) (x12 : Nat) (x13 : LL) (x14 x15 : Int) (x16 : Nat) (x17 : LI) : qOB (f + 1) x0 x1 x2 x3 x4 x5 x6 x7 x8 x9 x10 x11 x12 x13 x14 x15 x16 x17 = qHB (qOB f) x0 x1 x2 x3 x4 x5 x6 x7 x8 x9 x10 x11 x12 x13 x14 x15 x16 x17 := by kernel_rfl
theorem qU6 : ∀ f, qOB f = qE6 f
 | 0 => rfl
 | f + 1 => by funext x0 x1 x2 x3 x4 x5 x6 x7 x8 x9 x10 x11 x12 x13 x14 x15 x16 x17; rw [qg6, qU6 f]; rfl
theorem qhA : qe Tryz.prog qHA 1 (qG Tryz.f19 9) :=
 qk mixed qN9 (qT.of (l' := []) (by kernel_rfl) trivial) (q := 9) (kin := [0, 3, 5, 6, 7, 9, 10, 29, 30, 31, 51, 52, 53]) (kout := [0, 3, 5, 6, 7, 29, 30, 31]) (by kernel_rfl) (by kernel_rfl) fun vs objs K r h => by
  replace h : qOG vs objs K = some r := h
  unfold qOG at h
  split at h
  ·skip
   obtain ⟨t, h1, h2⟩ := qE h
   rw [<- qU7] at h1
   refine ⟨_, qOC, t, qC, h1, fun e vs' objs' hd => ?_⟩
   unfold qOC at hd;split at hd;(cases hd;exact h2);cases hd
  ·cases h
theorem qg9 : qe Tryz.prog qHA 1 (qG Tryz.f19 5) :=
 qk mixed qN9 (qT.of (l' := [qG Tryz.f19 9]) (by kernel_rfl) ⟨qhA, trivial⟩) (q := 5) (kin := [0, 3, 5, 6, 7, 29, 30, 31]) (kout := [5]) (by kernel_rfl) (by kernel_rfl) fun vs objs K r h => by
  replace h : qOF vs objs K = some r := h
  unfold qOF at h
  split at h
  ·skip
   obtain ⟨t, h1, h2⟩ := qE h
   rw [<- qU6] at h1
   refine ⟨_, qOA, t, qC, h1, fun e vs' objs' hd => ?_⟩
   unfold qOA at hd;split at hd;(cases hd;exact h2);cases hd
  ·cases h
def qU5 : V -> List Obj -> Option (Nat × Nat × LL) := fun v objs => match v, objs with
 | .s (.sl 1 0 y0 true), [.sli 53 false (.rows [.i .i64, .i .i64, .i .i64, .b] y1 y2)] => some (y0, y1, y2)
 | _, _ => none
theorem qg5 (x0 x1 : Int) (x2 x3 : LI) (x4 : Int) (x5 x6 : LL) : fnE qHA Tryz.f19 ([.s (.ptr 0 0 none 0), .agg [.one [.i .u64 x0, .i .u64 x1]]]) ([.rcells 49 [.arr .i8 81 x2, .arr .i8 16 x3, .one [.i .i8 x4], .rows [.i .u64, .i .u64] 32 x5, .rows [.i .u64, .i .u64] 2 x6]]) (qAZ 1 qU5) = qG9 x0 x1 x2 x3 x4 x5 x6 := by kernel_rfl
def qU4 : HA := fun o vs objs K => match vs, List.map Obj.toRO objs with
 | [.s (.ptr 0 0 none 0), .agg [.one [.i .u64 x0, .i .u64 x1]]], [.rcells 49 [.arr .i8 81 x2, .arr .i8 16 x3, .one [.i .i8 x4], .rows [.i .u64, .i .u64] 32 x5, .rows [.i .u64, .i .u64] 2 x6]] => ob (qG9 x0 x1 x2 x3 x4 x5 x6) fun z => K true (.s (.sl 1 0 (z.1) true)) ([.sli 53 false (.rows [.i .i64, .i .i64, .i .i64, .b] (z.2.1) (z.2.2))])
 | _, _ => o 19 vs objs K
def qOE (o : Orc) : Orc := qM 19 (qU4 o) o
theorem qU8 : OQ Tryz.prog qOE := fun _ ho => qP ho fun vs objs K r h => by
 unfold qU4 at h
 split at h
 ·skip
  have hq : List.map Obj.toRO objs = _ := (by rename_i hq; first | exact hq | assumption)
  obtain ⟨t, h1, h2⟩ := qE h
  refine qAh mixed qN9 (m := 1) (fn := Tryz.f19) (b := (Tryz.f19).body.getD .skip) (by kernel_rfl) (by kernel_rfl) (by kernel_rfl) hq (by kernel_rfl) (by kernel_rfl) (qT.of (l' := [qG Tryz.f19 5]) (by kernel_rfl) ⟨qg9, trivial⟩) ((qg5 _ _ _ _ _ _ _).trans h1) fun v objs' hd => ?_
  unfold qU5 at hd;split at hd;(cases hd;exact h2);cases hd
 ·exact ho _ _ _ _ _ h
def qWN : Ctx := mkC 49 ((qGW (qID (qMp (qJh (qGu qL)))))) [] qV
theorem qiX : CtxOK Tryz.prog qWN := mkC_ok ((qIE _ (qJe _ (qSQ _ (qMH _ (qIi _ qN))))))
def qWO : V -> List Obj -> Option (Bool × LI × LI × Int × LL × LL × List (LI × LI)) := fun v objs => match v, objs with
 | .s (.b y0), [.cells 49 [.arr .i8 81 y1, .arr .i8 16 y2, .one [.i .i8 y3], .rows [.i .u64, .i .u64] 32 y4, .rows [.i .u64, .i .u64] 2 y5], .map false true [.i .i64] [.i .u64, .i .u64] y6] => some (y0, y1, y2, y3, y4, y5, y6)
 | _, _ => none
theorem qiW (x0 x1 : Int) (x2 x3 : Int) (x4 : Bool) (x5 x6 x7 : Int) (x8 : Bool) (x9 x10 : LI) (x11 : Int) (x12 x13 : LL) (x14 : List (LI × LI)) : fnE qWN Tryz.f21 ([.agg [.one [.ptr 0 0 none 0, .i .i64 x0, .i .i64 x1, .i .u64 x2, .i .u64 x3, .mp 1, .b x4]], .agg [.one [.i .i64 x5, .i .i64 x6, .i .i64 x7, .b x8]]]) ([.cells 49 [.arr .i8 81 x9, .arr .i8 16 x10, .one [.i .i8 x11], .rows [.i .u64, .i .u64] 32 x12, .rows [.i .u64, .i .u64] 2 x13], .map false true [.i .i64] [.i .u64, .i .u64] x14]) qWO = qHS x0 x1 x2 x3 x4 x5 x6 x7 x8 x9 x10 x11 x12 x13 x14 := by kernel_rfl
def qWM : HA := fun o vs objs K => match vs, objs with
 | [.agg [.one [.ptr 0 0 none 0, .i .i64 x0, .i .i64 x1, .i .u64 x2, .i .u64 x3, .mp 1, .b x4]], .agg [.one [.i .i64 x5, .i .i64 x6, .i .i64 x7, .b x8]]], [.cells 49 [.arr .i8 81 x9, .arr .i8 16 x10, .one [.i .i8 x11], .rows [.i .u64, .i .u64] 32 x12, .rows [.i .u64, .i .u64] 2 x13], .map false true [.i .i64] [.i .u64, .i .u64] x14] => ob (qHS x0 x1 x2 x3 x4 x5 x6 x7 x8 x9 x10 x11 x12 x13 x14) fun z => K false (.s (.b (z.1))) ([.cells 49 [.arr .i8 81 (z.2.1), .arr .i8 16 (z.2.2.1), .one [.i .i8 (z.2.2.2.1)], .rows [.i .u64, .i .u64] 32 (z.2.2.2.2.1), .rows [.i .u64, .i .u64] 2 (z.2.2.2.2.2.1)], .map false true [.i .i64] [.i .u64, .i .u64] (z.2.2.2.2.2.2)])
 | _, _ => o 21 vs objs K
def qO1 (o : Orc) : Orc := qM 21 (qWM o) o
theorem qWP : OQ Tryz.prog qO1 := fun _ ho => qP ho fun vs objs K r h => by
 unfold qWM at h
 split at h
 ·skip
  obtain ⟨t, h1, h2⟩ := qE h
  refine any0K mixed qiX ((qiW _ _ _ _ _ _ _ _ _ _ _ _ _ _ _).trans h1) (by kernel_rfl) fun v objs' hd => ?_
  unfold qWO at hd;split at hd;(cases hd;exact h2);cases hd
 ·exact ho _ _ _ _ _ h
def qSv : Ctx := mkC 31 (qL) [] qV
theorem qeZ : CtxOK Tryz.prog qSv := mkC_ok (qN)
def qSw : V -> List Obj -> Option (Int) := fun v objs => match v, objs with
 | .s (.i .i64 y0), [] => some (y0)
 | _, _ => none
theorem qeY (x0 x1 : Int) (x2 x3 : LI) (x4 : Int) (x5 x6 : LL) : fnE qSv Tryz.f68 ([.s (.ptr 0 0 none 0), .s (.i .i64 x0), .s (.i .i64 x1)]) ([.rcells 49 [.arr .i8 81 x2, .arr .i8 16 x3, .one [.i .i8 x4], .rows [.i .u64, .i .u64] 32 x5, .rows [.i .u64, .i .u64] 2 x6]]) (qAZ 1 qSw) = qCY x0 x1 x2 x3 x4 x5 x6 := by kernel_rfl
def qSu : HA := fun o vs objs K => match vs, List.map Obj.toRO objs with
 | [.s (.ptr 0 0 none 0), .s (.i .i64 x0), .s (.i .i64 x1)], [.rcells 49 [.arr .i8 81 x2, .arr .i8 16 x3, .one [.i .i8 x4], .rows [.i .u64, .i .u64] 32 x5, .rows [.i .u64, .i .u64] 2 x6]] => ob (qCY x0 x1 x2 x3 x4 x5 x6) fun y0 => K true (.s (.i .i64 y0)) ([])
 | _, _ => o 68 vs objs K
def qKF (o : Orc) : Orc := qM 68 (qSu o) o
theorem qNJ : OQ Tryz.prog qKF := fun _ ho => qP ho fun vs objs K r h => by
 unfold qSu at h
 split at h
 ·skip
  have hq : List.map Obj.toRO objs = _ := (by rename_i hq; first | exact hq | assumption)
  obtain ⟨t, h1, h2⟩ := qE h
  refine qAh mixed qeZ (m := 1) (fn := Tryz.f68) (b := (Tryz.f68).body.getD .skip) (by kernel_rfl) (by kernel_rfl) (by kernel_rfl) hq (by kernel_rfl) (by kernel_rfl) (qT.of (l' := []) (by kernel_rfl) trivial) ((qeY _ _ _ _ _ _ _).trans h1) fun v objs' hd => ?_
  unfold qSw at hd;split at hd;(cases hd;exact h2);cases hd
 ·exact ho _ _ _ _ _ h
def qbR : Ctx := mkC 6 ((qMB (qJd qL))) [] qV
theorem qoP : CtxOK Tryz.prog qbR := mkC_ok ((qQ4 _ (qL5 _ qN)))
def qbS : V -> List Obj -> Option (Int × Int) := fun v objs => match v, objs with
 | .agg [.one [.i .u64 y0, .i .u64 y1]], [] => some (y0, y1)
 | _, _ => none
theorem qoO (x0 x1 : Int) : fnE qbR Tryz.f95 ([.agg [.one [.i .u64 x0, .i .u64 x1]]]) ([]) qbS = qJf x0 x1 := by kernel_rfl
def qbQ : HA := fun o vs objs K => match vs, objs with
 | [.agg [.one [.i .u64 x0, .i .u64 x1]]], [] => ob (qJf x0 x1) fun z => K false (.agg [.one [.i .u64 (z.1), .i .u64 (z.2)]]) ([])
 | _, _ => o 95 vs objs K
def qbT (o : Orc) : Orc := qM 95 (qbQ o) o
theorem qoQ : OQ Tryz.prog qbT := fun _ ho => qP ho fun vs objs K r h => by
 unfold qbQ at h
 split at h
 ·skip
  obtain ⟨t, h1, h2⟩ := qE h
  refine any0K mixed qoP ((qoO _ _).trans h1) (by kernel_rfl) fun v objs' hd => ?_
  unfold qbS at hd;split at hd;(cases hd;exact h2);cases hd
 ·exact ho _ _ _ _ _ h
def qQ0 : Ex -> List V -> List Obj -> Option (Int × Int × Int × Int) := fun e vs objs => match e, vs, objs with
 | .exit 0, [.s (.ptr 0 0 none 0), .s (.ptr 1 0 none 0)], [.cells 45 [.one [.i .u64 y0, .i .u64 y1]], .cells 45 [.one [.i .u64 y2, .i .u64 y3]]] => some (y0, y1, y2, y3)
 | _, _, _ => none
def qQ3 : HL := fun vs objs K => match vs, objs with
 | [.s (.i .i64 x0), .s (.ptr 0 0 none 0), .s (.ptr 1 0 none 0), .s (.i .i64 x1)], [.cells 45 [.one [.i .u64 x2, .i .u64 x3]], .cells 45 [.one [.i .u64 x4, .i .u64 x5]]] => ob (qMA qC x0 x1 x2 x3 x4 x5) fun z => K (.exit 0) ([.s (.ptr 0 0 none 0), .s (.ptr 1 0 none 0)]) ([.cells 45 [.one [.i .u64 (z.1), .i .u64 (z.2.1)]], .cells 45 [.one [.i .u64 (z.2.2.1), .i .u64 (z.2.2.2)]]])
 | _, _ => none
def qoK : {R : Type} -> Nat -> List V -> List Obj -> (Ex -> List V -> List Obj -> Option R) -> Option R := fun q vs objs K => bif Nat.beq q 3 then qQ3 vs objs K else none
def qL9 : Ctx := mkC 15 ((qEa (set_Squareo qL))) [(3, [0, 2, 3, 5], [2, 3])] qoK
theorem qbI : CtxOK Tryz.prog qL9 := mkC_ok ((qFl _ (set_Squareo_ok _ qN)))
def qQ1 (f : Nat) (x0 x1 : Int) (x2 x3 : Int) (x4 x5 : Int) : Option (Int × Int × Int × Int) := qg qL9 0 [0, 2, 3, 5] [2, 3] (qG Tryz.f96 3) f ([.s (.i .i64 x0), .s (.ptr 0 0 none 0), .s (.ptr 1 0 none 0), .s (.i .i64 x1)]) ([.cells 45 [.one [.i .u64 x2, .i .u64 x3]], .cells 45 [.one [.i .u64 x4, .i .u64 x5]]]) qQ0
theorem qoJ (f : Nat) (x0 x1 : Int) (x2 x3 : Int) (x4 x5 : Int) : qQ1 (f + 1) x0 x1 x2 x3 x4 x5 = qbL (qQ1 f) x0 x1 x2 x3 x4 x5 := by kernel_rfl
theorem qbK : ∀ f, qQ1 f = qMA f
 | 0 => rfl
 | f + 1 => by funext x0 x1 x2 x3 x4 x5; rw [qoJ, qbK f]; rfl
theorem qoL : qe Tryz.prog qL9 0 (qG Tryz.f96 3) :=
 qk mixed qbI (qT.of (l' := []) (by kernel_rfl) trivial) (q := 3) (kin := [0, 2, 3, 5]) (kout := [2, 3]) (by kernel_rfl) (by kernel_rfl) fun vs objs K r h => by
  replace h : qQ3 vs objs K = some r := h
  unfold qQ3 at h
  split at h
  ·skip
   obtain ⟨t, h1, h2⟩ := qE h
   rw [<- qbK] at h1
   refine ⟨_, qQ0, t, qC, h1, fun e vs' objs' hd => ?_⟩
   unfold qQ0 at hd;split at hd;(cases hd;exact h2);cases hd
  ·cases h
def qbJ : V -> List Obj -> Option (Int × Int) := fun v objs => match v, objs with
 | .agg [.one [.i .u64 y0, .i .u64 y1]], [] => some (y0, y1)
 | _, _ => none
theorem qoI (x0 : Int) : fnE qL9 Tryz.f96 ([.s (.i .i64 x0)]) ([]) qbJ = qIF x0 := by kernel_rfl
def qbH : HA := fun o vs objs K => match vs, objs with
 | [.s (.i .i64 x0)], [] => ob (qIF x0) fun z => K false (.agg [.one [.i .u64 (z.1), .i .u64 (z.2)]]) ([])
 | _, _ => o 96 vs objs K
def qQ2 (o : Orc) : Orc := qM 96 (qbH o) o
theorem qbM : OQ Tryz.prog qQ2 := fun _ ho => qP ho fun vs objs K r h => by
 unfold qbH at h
 split at h
 ·skip
  obtain ⟨t, h1, h2⟩ := qE h
  refine qAX mixed qbI (fn := Tryz.f96) (b := (Tryz.f96).body.getD .skip) (by kernel_rfl) (by kernel_rfl) (by kernel_rfl) ((qoI _).trans h1) (m := 0) rfl (qT.of (l' := [qG Tryz.f96 3]) (by kernel_rfl) ⟨qoL, trivial⟩) fun v objs' hd => ?_
  unfold qbJ at hd;split at hd;(cases hd;exact h2);cases hd
 ·exact ho _ _ _ _ _ h
def qOO : Ex -> List V -> List Obj -> Option (LI × LI × Int × LL × LL × Int × Int × Int × Int) := fun e vs objs => match e, vs, objs with
 | .exit 0, [.s (.ptr 1 0 none 0), .s (.ptr 2 0 none 0)], [.rcells 49 [.arr .i8 81 y0, .arr .i8 16 y1, .one [.i .i8 y2], .rows [.i .u64, .i .u64] 32 y3, .rows [.i .u64, .i .u64] 2 y4], .cells 45 [.one [.i .u64 y5, .i .u64 y6]], .cells 45 [.one [.i .u64 y7, .i .u64 y8]]] => some (y0, y1, y2, y3, y4, y5, y6, y7, y8)
 | _, _, _ => none
def qOQ : HL := fun vs objs K => match vs, objs with
 | [.s (.ptr 0 0 none 0), .s (.i .i64 x0), .s (.i .i64 x1), .s (.ptr 1 0 none 0), .s (.i .i8 x2), .s (.ptr 2 0 none 0), .s (.sl 3 0 x3 true), .s (.i .i64 x4), .s (.i .i64 x5)], [.rcells 49 [.arr .i8 81 x6, .arr .i8 16 x7, .one [.i .i8 x8], .rows [.i .u64, .i .u64] 32 x9, .rows [.i .u64, .i .u64] 2 x10], .cells 45 [.one [.i .u64 x11, .i .u64 x12]], .cells 45 [.one [.i .u64 x13, .i .u64 x14]], .sli 3 false (.arr .i64 x15 x16)] => ob (qDT qC x0 x1 x2 x3 x4 x5 x6 x7 x8 x9 x10 x11 x12 x13 x14 x15 x16) fun z => K (.exit 0) ([.s (.ptr 1 0 none 0), .s (.ptr 2 0 none 0)]) ([.rcells 49 [.arr .i8 81 (z.1), .arr .i8 16 (z.2.1), .one [.i .i8 (z.2.2.1)], .rows [.i .u64, .i .u64] 32 (z.2.2.2.1), .rows [.i .u64, .i .u64] 2 (z.2.2.2.2.1)], .cells 45 [.one [.i .u64 (z.2.2.2.2.2.1), .i .u64 (z.2.2.2.2.2.2.1)]], .cells 45 [.one [.i .u64 (z.2.2.2.2.2.2.2.1), .i .u64 (z.2.2.2.2.2.2.2.2)]]])
 | _, _ => none
def qhK : {R : Type} -> Nat -> List V -> List Obj -> (Ex -> List V -> List Obj -> Option R) -> Option R := fun q vs objs K => bif Nat.beq q 6 then qOQ vs objs K else none
def qKm : Ctx := mkC 53 ((qEa (qID (qFh (qQ2 (qL7 (qF1 (qMP (qJg (qbT (qGu (qDb qL)))))))))))) [(6, [0, 1, 2, 6, 7, 8, 24, 25, 26], [6, 8])] qhK
theorem qVF : CtxOK Tryz.prog qKm := mkC_ok ((qFl _ (qJe _ (qGS _ (qbM _ (qQy _ (qGs _ (qRO _ (qMG _ (qoQ _ (qIi _ (qEF _ qN))))))))))))
def qOP (f : Nat) (x0 x1 x2 : Int) (x3 : Nat) (x4 x5 : Int) (x6 x7 : LI) (x8 : Int) (x9 x10 : LL) (x11 x12 : Int) (x13 x14 : Int) (x15 : Nat) (x16 : LI) : Option (LI × LI × Int × LL × LL × Int × Int × Int × Int) := qg qKm 1 [0, 1, 2, 6, 7, 8, 24, 25, 26] [6, 8] (qG Tryz.f69 6) f ([.s (.ptr 0 0 none 0), .s (.i .i64 x0), .s (.i .i64 x1), .s (.ptr 1 0 none 0), .s (.i .i8 x2), .s (.ptr 2 0 none 0), .s (.sl 3 0 x3 true), .s (.i .i64 x4), .s (.i .i64 x5)]) ([.rcells 49 [.arr .i8 81 x6, .arr .i8 16 x7, .one [.i .i8 x8], .rows [.i .u64, .i .u64] 32 x9, .rows [.i .u64, .i .u64] 2 x10], .cells 45 [.one [.i .u64 x11, .i .u64 x12]], .cells 45 [.one [.i .u64 x13, .i .u64 x14]], .sli 3 false (.arr .i64 x15 x16)]) qOO
theorem qhJ (f : Nat) (x0 x1 x2 : Int) (x3 : Nat) (x4 x5 : Int) (x6 x7 : LI) (x8 : Int) (x9 x10 : LL) (x11 x12 : Int) (x13 x14 : Int) (x15 : Nat) (x16 : LI) : qOP (f + 1) x0 x1 x2 x3 x4 x5 x6 x7 x8 x9 x10 x11 x12 x13 x14 x15 x16 = qHG (qOP f) x0 x1 x2 x3 x4 x5 x6 x7 x8 x9 x10 x11 x12 x13 x14 x15 x16 := by kernel_rfl
theorem qVH : ∀ f, qOP f = qDT f
 | 0 => rfl
 | f + 1 => by funext x0 x1 x2 x3 x4 x5 x6 x7 x8 x9 x10 x11 x12 x13 x14 x15 x16; rw [qhJ, qVH f]; rfl
theorem qhM : qe Tryz.prog qKm 1 (qG Tryz.f69 6) :=
 qk mixed qVF (qT.of (l' := []) (by kernel_rfl) trivial) (q := 6) (kin := [0, 1, 2, 6, 7, 8, 24, 25, 26]) (kout := [6, 8]) (by kernel_rfl) (by kernel_rfl) fun vs objs K r h => by
  replace h : qOQ vs objs K = some r := h
  unfold qOQ at h
  split at h
  ·skip
   obtain ⟨t, h1, h2⟩ := qE h
   rw [<- qVH] at h1
   refine ⟨_, qOO, t, qC, h1, fun e vs' objs' hd => ?_⟩
   unfold qOO at hd;split at hd;(cases hd;exact h2);cases hd
  ·cases h
def qVG : V -> List Obj -> Option (Int × Int) := fun v objs => match v, objs with
 | .agg [.one [.i .u64 y0, .i .u64 y1]], [] => some (y0, y1)
 | _, _ => none
theorem qhI (x0 x1 : Int) (x2 x3 : LI) (x4 : Int) (x5 x6 : LL) : fnE qKm Tryz.f69 ([.s (.ptr 0 0 none 0), .s (.i .i64 x0), .s (.i .i64 x1)]) ([.rcells 49 [.arr .i8 81 x2, .arr .i8 16 x3, .one [.i .i8 x4], .rows [.i .u64, .i .u64] 32 x5, .rows [.i .u64, .i .u64] 2 x6]]) (qAZ 1 qVG) = qI1 x0 x1 x2 x3 x4 x5 x6 := by kernel_rfl
def qVE : HA := fun o vs objs K => match vs, List.map Obj.toRO objs with
 | [.s (.ptr 0 0 none 0), .s (.i .i64 x0), .s (.i .i64 x1)], [.rcells 49 [.arr .i8 81 x2, .arr .i8 16 x3, .one [.i .i8 x4], .rows [.i .u64, .i .u64] 32 x5, .rows [.i .u64, .i .u64] 2 x6]] => ob (qI1 x0 x1 x2 x3 x4 x5 x6) fun z => K true (.agg [.one [.i .u64 (z.1), .i .u64 (z.2)]]) ([])
 | _, _ => o 69 vs objs K
def qVI (o : Orc) : Orc := qM 69 (qVE o) o
theorem qhL : OQ Tryz.prog qVI := fun _ ho => qP ho fun vs objs K r h => by
 unfold qVE at h
 split at h
 ·skip
  have hq : List.map Obj.toRO objs = _ := (by rename_i hq; first | exact hq | assumption)
  obtain ⟨t, h1, h2⟩ := qE h
  refine qAh mixed qVF (m := 1) (fn := Tryz.f69) (b := (Tryz.f69).body.getD .skip) (by kernel_rfl) (by kernel_rfl) (by kernel_rfl) hq (by kernel_rfl) (by kernel_rfl) (qT.of (l' := [qG Tryz.f69 6]) (by kernel_rfl) ⟨qhM, trivial⟩) ((qhI _ _ _ _ _ _ _).trans h1) fun v objs' hd => ?_
  unfold qVG at hd;split at hd;(cases hd;exact h2);cases hd
 ·exact ho _ _ _ _ _ h
def qOK : Ex -> List V -> List Obj -> Option (Nat × Int × Int × LI × LI × Int × LL × LL × Int × Int × Nat × LL) := fun e vs objs => match e, vs, objs with
 | .exit 2, [.s (.ptr 0 0 none 0), .s (.ptr 1 0 none 0), .s (.sl 2 0 y0 true), .s (.i .i64 y1), .s (.i .i64 y2)], [.rcells 49 [.arr .i8 81 y3, .arr .i8 16 y4, .one [.i .i8 y5], .rows [.i .u64, .i .u64] 32 y6, .rows [.i .u64, .i .u64] 2 y7], .cells 45 [.one [.i .u64 y8, .i .u64 y9]], .sli 53 false (.rows [.i .i64, .i .i64, .i .i64, .b] y10 y11)] => some (y0, y1, y2, y3, y4, y5, y6, y7, y8, y9, y10, y11)
 | _, _, _ => none
def qOI : Ex -> List V -> List Obj -> Option (Nat × LI × LI × Int × LL × LL × Nat × LL) := fun e vs objs => match e, vs, objs with
 | .exit 0, [.s (.sl 1 0 y0 true)], [.rcells 49 [.arr .i8 81 y1, .arr .i8 16 y2, .one [.i .i8 y3], .rows [.i .u64, .i .u64] 32 y4, .rows [.i .u64, .i .u64] 2 y5], .sli 53 false (.rows [.i .i64, .i .i64, .i .i64, .b] y6 y7)] => some (y0, y1, y2, y3, y4, y5, y6, y7)
 | _, _, _ => none
def qON : HL := fun vs objs K => match vs, objs with
 | [.s (.ptr 0 0 none 0), .s (.ptr 1 0 none 0), .s (.sl 2 0 x0 true), .s (.i .i64 x1), .s (.i .i64 x2), .s (.sl 3 0 x3 true), .s (.i .i64 x4), .s (.i .i64 x5)], [.rcells 49 [.arr .i8 81 x6, .arr .i8 16 x7, .one [.i .i8 x8], .rows [.i .u64, .i .u64] 32 x9, .rows [.i .u64, .i .u64] 2 x10], .cells 45 [.one [.i .u64 x11, .i .u64 x12]], .sli 53 false (.rows [.i .i64, .i .i64, .i .i64, .b] x13 x14), .sli 3 false (.arr .i64 x15 x16)] => ob (qE9 qC x0 x1 x2 x3 x4 x5 x6 x7 x8 x9 x10 x11 x12 x13 x14 x15 x16) fun z => K (.exit 2) ([.s (.ptr 0 0 none 0), .s (.ptr 1 0 none 0), .s (.sl 2 0 (z.1) true), .s (.i .i64 (z.2.1)), .s (.i .i64 (z.2.2.1))]) ([.rcells 49 [.arr .i8 81 (z.2.2.2.1), .arr .i8 16 (z.2.2.2.2.1), .one [.i .i8 (z.2.2.2.2.2.1)], .rows [.i .u64, .i .u64] 32 (z.2.2.2.2.2.2.1), .rows [.i .u64, .i .u64] 2 (z.2.2.2.2.2.2.2.1)], .cells 45 [.one [.i .u64 (z.2.2.2.2.2.2.2.2.1), .i .u64 (z.2.2.2.2.2.2.2.2.2.1)]], .sli 53 false (.rows [.i .i64, .i .i64, .i .i64, .b] (z.2.2.2.2.2.2.2.2.2.2.1) (z.2.2.2.2.2.2.2.2.2.2.2))])
 | _, _ => none
def qOM : HL := fun vs objs K => match vs, objs with
 | [.s (.ptr 0 0 none 0), .s (.ptr 1 0 none 0), .s (.sl 2 0 x0 true), .s (.i .i64 x1), .s (.i .i64 x2)], [.rcells 49 [.arr .i8 81 x3, .arr .i8 16 x4, .one [.i .i8 x5], .rows [.i .u64, .i .u64] 32 x6, .rows [.i .u64, .i .u64] 2 x7], .cells 45 [.one [.i .u64 x8, .i .u64 x9]], .sli 53 false (.rows [.i .i64, .i .i64, .i .i64, .b] x10 x11)] => ob (qE8 qC x0 x1 x2 x3 x4 x5 x6 x7 x8 x9 x10 x11) fun z => K (.exit 0) ([.s (.sl 1 0 (z.1) true)]) ([.rcells 49 [.arr .i8 81 (z.2.1), .arr .i8 16 (z.2.2.1), .one [.i .i8 (z.2.2.2.1)], .rows [.i .u64, .i .u64] 32 (z.2.2.2.2.1), .rows [.i .u64, .i .u64] 2 (z.2.2.2.2.2.1)], .sli 53 false (.rows [.i .i64, .i .i64, .i .i64, .b] (z.2.2.2.2.2.2.1) (z.2.2.2.2.2.2.2))])
 | _, _ => none
def qhE : {R : Type} -> Nat -> List V -> List Obj -> (Ex -> List V -> List Obj -> Option R) -> Option R := fun q vs objs K => bif Nat.beq q 8 then qON vs objs K else bif Nat.beq q 4 then qOM vs objs K else none
def qHD : Ctx := mkC 45 ((qJg (qFh (qVI (qKF qL))))) [(4, [0, 3, 5, 6, 7], [5]), (8, [0, 3, 5, 6, 7, 31, 32, 33], [0, 3, 5, 6, 7])] qhE
theorem qOH : CtxOK Tryz.prog qHD := mkC_ok ((qMG _ (qGS _ (qhL _ (qNJ _ qN)))))
def qOL (f : Nat) (x0 : Nat) (x1 x2 : Int) (x3 : Nat) (x4 x5 : Int) (x6 x7 : LI) (x8 : Int) (x9 x10 : LL) (x11 x12 : Int) (x13 : Nat) (x14 : LL) (x15 : Nat) (x16 : LI) : Option (Nat × Int × Int × LI × LI × Int × LL × LL × Int × Int × Nat × LL) := qg qHD 1 [0, 3, 5, 6, 7, 31, 32, 33] [0, 3, 5, 6, 7] (qG Tryz.f22 8) f ([.s (.ptr 0 0 none 0), .s (.ptr 1 0 none 0), .s (.sl 2 0 x0 true), .s (.i .i64 x1), .s (.i .i64 x2), .s (.sl 3 0 x3 true), .s (.i .i64 x4), .s (.i .i64 x5)]) ([.rcells 49 [.arr .i8 81 x6, .arr .i8 16 x7, .one [.i .i8 x8], .rows [.i .u64, .i .u64] 32 x9, .rows [.i .u64, .i .u64] 2 x10], .cells 45 [.one [.i .u64 x11, .i .u64 x12]], .sli 53 false (.rows [.i .i64, .i .i64, .i .i64, .b] x13 x14), .sli 3 false (.arr .i64 x15 x16)]) qOK
theorem qhD (f : Nat) (x0 : Nat) (x1 x2 : Int) (x3 : Nat) (x4 x5 : Int) (x6 x7 : LI) (x8 : Int) (x9 x10 : LL) (x11 x12 : Int) (x13 : Nat) (x14 : LL) (x15 : Nat) (x16 : LI) : qOL (f + 1) x0 x1 x2 x3 x4 x5 x6 x7 x8 x9 x10 x11 x12 x13 x14 x15 x16 = qHF (qOL f) x0 x1 x2 x3 x4 x5 x6 x7 x8 x9 x10 x11 x12 x13 x14 x15 x16 := by kernel_rfl
theorem qVC : ∀ f, qOL f = qE9 f
 | 0 => rfl
 | f + 1 => by funext x0 x1 x2 x3 x4 x5 x6 x7 x8 x9 x10 x11 x12 x13 x14 x15 x16; rw [qhD, qVC f]; rfl
def qOJ (f : Nat) (x0 : Nat) (x1 x2 : Int) (x3 x4 : LI) (x5 : Int) (x6 x7 : LL) (x8 x9 : Int) (x10 : Nat) (x11 : LL) : Option (Nat × LI × LI × Int × LL × LL × Nat × LL) := qg qHD 1 [0, 3, 5, 6, 7] [5] (qG Tryz.f22 4) f ([.s (.ptr 0 0 none 0), .s (.ptr 1 0 none 0), .s (.sl 2 0 x0 true), .s (.i .i64 x1), .s (.i .i64 x2)]) ([.rcells 49 [.arr .i8 81 x3, .arr .i8 16 x4, .one [.i .i8 x5], .rows [.i .u64, .i .u64] 32 x6, .rows [.i .u64, .i .u64] 2 x7], .cells 45 [.one [.i .u64 x8, .i .u64 x9]], .sli 53 false (.rows [.i .i64, .i .i64, .i .i64, .b] x10 x11)]) qOI
theorem qhC (f : Nat) (x0 : Nat) (x1 x2 : Int) (x3 x4 : LI) (x5 : Int) (x6 x7 : LL) (x8 x9 : Int) (x10 : Nat) (x11 : LL) : qOJ (f + 1) x0 x1 x2 x3 x4 x5 x6 x7 x8 x9 x10 x11 = qHE (qOJ f) x0 x1 x2 x3 x4 x5 x6 x7 x8 x9 x10 x11 := by kernel_rfl
theorem qVB : ∀ f, qOJ f = qE8 f
 | 0 => rfl
 | f + 1 => by funext x0 x1 x2 x3 x4 x5 x6 x7 x8 x9 x10 x11; rw [qhC, qVB f]; rfl
theorem qhH : qe Tryz.prog qHD 1 (qG Tryz.f22 8) :=
 qk mixed qOH (qT.of (l' := []) (by kernel_rfl) trivial) (q := 8) (kin := [0, 3, 5, 6, 7, 31, 32, 33]) (kout := [0, 3, 5, 6, 7]) (by kernel_rfl) (by kernel_rfl) fun vs objs K r h => by
  replace h : qON vs objs K = some r := h
  unfold qON at h
  split at h
  ·skip
   obtain ⟨t, h1, h2⟩ := qE h
   rw [<- qVC] at h1
   refine ⟨_, qOK, t, qC, h1, fun e vs' objs' hd => ?_⟩
   unfold qOK at hd;split at hd;(cases hd;exact h2);cases hd
  ·cases h
theorem qhG : qe Tryz.prog qHD 1 (qG Tryz.f22 4) :=
 qk mixed qOH (qT.of (l' := [qG Tryz.f22 8]) (by kernel_rfl) ⟨qhH, trivial⟩) (q := 4) (kin := [0, 3, 5, 6, 7]) (kout := [5]) (by kernel_rfl) (by kernel_rfl) fun vs objs K r h => by
  replace h : qOM vs objs K = some r := h
  unfold qOM at h
  split at h
  ·skip
   obtain ⟨t, h1, h2⟩ := qE h
   rw [<- qVB] at h1
   refine ⟨_, qOI, t, qC, h1, fun e vs' objs' hd => ?_⟩
   unfold qOI at hd;split at hd;(cases hd;exact h2);cases hd
  ·cases h
def qVA : V -> List Obj -> Option (Nat × Nat × LL) := fun v objs => match v, objs with
 | .s (.sl 1 0 y0 true), [.sli 53 false (.rows [.i .i64, .i .i64, .i .i64, .b] y1 y2)] => some (y0, y1, y2)
 | _, _ => none
theorem qhB (x0 x1 : Int) (x2 x3 : LI) (x4 : Int) (x5 x6 : LL) : fnE qHD Tryz.f22 ([.s (.ptr 0 0 none 0), .agg [.one [.i .u64 x0, .i .u64 x1]]]) ([.rcells 49 [.arr .i8 81 x2, .arr .i8 16 x3, .one [.i .i8 x4], .rows [.i .u64, .i .u64] 32 x5, .rows [.i .u64, .i .u64] 2 x6]]) (qAZ 1 qVA) = qI0 x0 x1 x2 x3 x4 x5 x6 := by kernel_rfl
def qU9 : HA := fun o vs objs K => match vs, List.map Obj.toRO objs with
 | [.s (.ptr 0 0 none 0), .agg [.one [.i .u64 x0, .i .u64 x1]]], [.rcells 49 [.arr .i8 81 x2, .arr .i8 16 x3, .one [.i .i8 x4], .rows [.i .u64, .i .u64] 32 x5, .rows [.i .u64, .i .u64] 2 x6]] => ob (qI0 x0 x1 x2 x3 x4 x5 x6) fun z => K true (.s (.sl 1 0 (z.1) true)) ([.sli 53 false (.rows [.i .i64, .i .i64, .i .i64, .b] (z.2.1) (z.2.2))])
 | _, _ => o 22 vs objs K
def qVD (o : Orc) : Orc := qM 22 (qU9 o) o
theorem qhF : OQ Tryz.prog qVD := fun _ ho => qP ho fun vs objs K r h => by
 unfold qU9 at h
 split at h
 ·skip
  have hq : List.map Obj.toRO objs = _ := (by rename_i hq; first | exact hq | assumption)
  obtain ⟨t, h1, h2⟩ := qE h
  refine qAh mixed qOH (m := 1) (fn := Tryz.f22) (b := (Tryz.f22).body.getD .skip) (by kernel_rfl) (by kernel_rfl) (by kernel_rfl) hq (by kernel_rfl) (by kernel_rfl) (qT.of (l' := [qG Tryz.f22 4]) (by kernel_rfl) ⟨qhG, trivial⟩) ((qhB _ _ _ _ _ _ _).trans h1) fun v objs' hd => ?_
  unfold qVA at hd;split at hd;(cases hd;exact h2);cases hd
 ·exact ho _ _ _ _ _ h
def qSr : Ctx := mkC 7 (qL) [] qV
theorem qeW : CtxOK Tryz.prog qSr := mkC_ok (qN)
def qSs : V -> List Obj -> Option (LI × LI × Int × LL × LL) := fun v objs => match v, objs with
 | .s (.ptr 1 0 none 0), [.cells 49 [.arr .i8 81 y0, .arr .i8 16 y1, .one [.i .i8 y2], .rows [.i .u64, .i .u64] 32 y3, .rows [.i .u64, .i .u64] 2 y4]] => some (y0, y1, y2, y3, y4)
 | _, _ => none
theorem qeV (x0 x1 : LI) (x2 : Int) (x3 x4 : LL) : fnE qSr Tryz.f70 ([.s (.ptr 0 0 none 0)]) ([.rcells 49 [.arr .i8 81 x0, .arr .i8 16 x1, .one [.i .i8 x2], .rows [.i .u64, .i .u64] 32 x3, .rows [.i .u64, .i .u64] 2 x4]]) (qAZ 1 qSs) = qKE x0 x1 x2 x3 x4 := by kernel_rfl
def qSq : HA := fun o vs objs K => match vs, List.map Obj.toRO objs with
 | [.s (.ptr 0 0 none 0)], [.rcells 49 [.arr .i8 81 x0, .arr .i8 16 x1, .one [.i .i8 x2], .rows [.i .u64, .i .u64] 32 x3, .rows [.i .u64, .i .u64] 2 x4]] => ob (qKE x0 x1 x2 x3 x4) fun z => K true (.s (.ptr 1 0 none 0)) ([.cells 49 [.arr .i8 81 (z.1), .arr .i8 16 (z.2.1), .one [.i .i8 (z.2.2.1)], .rows [.i .u64, .i .u64] 32 (z.2.2.2.1), .rows [.i .u64, .i .u64] 2 (z.2.2.2.2)]])
 | _, _ => o 70 vs objs K
def qSt (o : Orc) : Orc := qM 70 (qSq o) o
theorem qeX : OQ Tryz.prog qSt := fun _ ho => qP ho fun vs objs K r h => by
 unfold qSq at h
 split at h
 ·skip
  have hq : List.map Obj.toRO objs = _ := (by rename_i hq; first | exact hq | assumption)
  obtain ⟨t, h1, h2⟩ := qE h
  refine qAh mixed qeW (m := 1) (fn := Tryz.f70) (b := (Tryz.f70).body.getD .skip) (by kernel_rfl) (by kernel_rfl) (by kernel_rfl) hq (by kernel_rfl) (by kernel_rfl) (qT.of (l' := []) (by kernel_rfl) trivial) ((qeV _ _ _ _ _).trans h1) fun v objs' hd => ?_
  unfold qSs at hd;split at hd;(cases hd;exact h2);cases hd
 ·exact ho _ _ _ _ _ h
def qOx : Ex -> List V -> List Obj -> Option ((Bool × LI × LI × Int × LL × LL) ⊕ (LI × LI × Int × LL × LL)) := fun e vs objs => match e, vs, objs with
 | .ret, [.s (.b y0)], [.rcells 49 [.arr .i8 81 y1, .arr .i8 16 y2, .one [.i .i8 y3], .rows [.i .u64, .i .u64] 32 y4, .rows [.i .u64, .i .u64] 2 y5]] => some (.inl (y0, y1, y2, y3, y4, y5))
 | .exit 0, [.s .bad], [.rcells 49 [.arr .i8 81 y0, .arr .i8 16 y1, .one [.i .i8 y2], .rows [.i .u64, .i .u64] 32 y3, .rows [.i .u64, .i .u64] 2 y4]] => some (.inr (y0, y1, y2, y3, y4))
 | _, _, _ => none
def qOz : HL := fun vs objs K => match vs, objs with
 | [.s (.ptr 1 0 none 0), .s (.sl 2 0 x0 true), .s (.i .i64 x1), .s (.i .i64 x2)], [.rcells 49 [.arr .i8 81 x3, .arr .i8 16 x4, .one [.i .i8 x5], .rows [.i .u64, .i .u64] 32 x6, .rows [.i .u64, .i .u64] 2 x7], .cells 66 [.one [.ptr 3 0 none 0, .i .i64 x8, .i .i64 x9, .i .u64 x10, .i .u64 x11, .mp 4, .b x12]], .sli 53 false (.rows [.i .i64, .i .i64, .i .i64, .b] x13 x14), .cells 49 [.arr .i8 81 x15, .arr .i8 16 x16, .one [.i .i8 x17], .rows [.i .u64, .i .u64] 32 x18, .rows [.i .u64, .i .u64] 2 x19], .map false true [.i .i64] [.i .u64, .i .u64] x20] => ob (qFJ qC x0 x1 x2 x3 x4 x5 x6 x7 x8 x9 x10 x11 x12 x13 x14 x15 x16 x17 x18 x19 x20) fun t0 => sw t0 (fun z => K (.ret) ([.s (.b (z.1))]) ([.rcells 49 [.arr .i8 81 (z.2.1), .arr .i8 16 (z.2.2.1), .one [.i .i8 (z.2.2.2.1)], .rows [.i .u64, .i .u64] 32 (z.2.2.2.2.1), .rows [.i .u64, .i .u64] 2 (z.2.2.2.2.2)]])) (fun z => K (.exit 0) ([.s .bad]) ([.rcells 49 [.arr .i8 81 (z.1), .arr .i8 16 (z.2.1), .one [.i .i8 (z.2.2.1)], .rows [.i .u64, .i .u64] 32 (z.2.2.2.1), .rows [.i .u64, .i .u64] 2 (z.2.2.2.2)]]))
 | _, _ => none
def qiR : {R : Type} -> Nat -> List V -> List Obj -> (Ex -> List V -> List Obj -> Option R) -> Option R := fun q vs objs K => bif Nat.beq q 11 then qOz vs objs K else none
def qK0 : Ctx := mkC 74 ((qO1 (qOE (qJd (qO0 (qGW (qJ7 (qKJ (qSt (qFz (qDb qL))))))))))) [(11, [7, 64, 65, 66], [4])] qiR
theorem qWE : CtxOK Tryz.prog qK0 := mkC_ok ((qWP _ (qU8 _ (qL5 _ (qWL _ (qIE _ (qMm _ (qNP _ (qeX _ (qGp _ (qEF _ qN)))))))))))
def qOy (f : Nat) (x0 : Nat) (x1 x2 : Int) (x3 x4 : LI) (x5 : Int) (x6 x7 : LL) (x8 x9 : Int) (x10 x11 : Int) (x12 : Bool) (x13 : Nat) (x14 : LL) (x15 x16 : LI) (x17 : Int) (x18 x19 : LL) (x20 : List (LI × LI)) : Option ((Bool × LI × LI × Int × LL × LL) ⊕ (LI × LI × Int × LL × LL)) := qg qK0 1 [7, 64, 65, 66] [4] (qG Tryz.f23 11) f ([.s (.ptr 1 0 none 0), .s (.sl 2 0 x0 true), .s (.i .i64 x1), .s (.i .i64 x2)]) ([.rcells 49 [.arr .i8 81 x3, .arr .i8 16 x4, .one [.i .i8 x5], .rows [.i .u64, .i .u64] 32 x6, .rows [.i .u64, .i .u64] 2 x7], .cells 66 [.one [.ptr 3 0 none 0, .i .i64 x8, .i .i64 x9, .i .u64 x10, .i .u64 x11, .mp 4, .b x12]], .sli 53 false (.rows [.i .i64, .i .i64, .i .i64, .b] x13 x14), .cells 49 [.arr .i8 81 x15, .arr .i8 16 x16, .one [.i .i8 x17], .rows [.i .u64, .i .u64] 32 x18, .rows [.i .u64, .i .u64] 2 x19], .map false true [.i .i64] [.i .u64, .i .u64] x20]) qOx
theorem qiQ (f : Nat) (x0 : Nat) (x1 x2 : Int) (x3 x4 : LI) (x5 : Int) (x6 x7 : LL) (x8 x9 : Int) (x10 x11 : Int) (x12 : Bool) (x13 : Nat) (x14 : LL) (x15 x16 : LI) (x17 : Int) (x18 x19 : LL) (x20 : List (LI × LI)) : qOy (f + 1) x0 x1 x2 x3 x4 x5 x6 x7 x8 x9 x10 x11 x12 x13 x14 x15 x16 x17 x18 x19 x20 = qHQ (qOy f) x0 x1 x2 x3 x4 x5 x6 x7 x8 x9 x10 x11 x12 x13 x14 x15 x16 x17 x18 x19 x20 := by kernel_rfl
theorem qWG : ∀ f, qOy f = qFJ f
 | 0 => rfl
 | f + 1 => by funext x0 x1 x2 x3 x4 x5 x6 x7 x8 x9 x10 x11 x12 x13 x14 x15 x16 x17 x18 x19 x20; rw [qiQ, qWG f]; rfl
theorem qiT : qe Tryz.prog qK0 1 (qG Tryz.f23 11) :=
 qk mixed qWE (qT.of (l' := []) (by kernel_rfl) trivial) (q := 11) (kin := [7, 64, 65, 66]) (kout := [4]) (by kernel_rfl) (by kernel_rfl) fun vs objs K r h => by
  replace h : qOz vs objs K = some r := h
  unfold qOz at h
  split at h
  ·skip
   obtain ⟨t, h1, h2⟩ := qE h
   rw [<- qWG] at h1
   refine ⟨_, qOx, t, qC, h1, fun e vs' objs' hd => ?_⟩
   unfold qOx at hd
   split at hd
   ·skip
    cases hd
    exact h2
   ·skip
    cases hd
    exact h2
   ·cases hd
  ·cases h
def qWF : V -> List Obj -> Option (Bool) := fun v objs => match v, objs with
 | .s (.b y0), [] => some (y0)
 | _, _ => none
theorem qiP (x0 : Int) (x1 x2 : LI) (x3 : Int) (x4 x5 : LL) : fnE qK0 Tryz.f23 ([.s (.ptr 0 0 none 0), .s (.i .i64 x0)]) ([.rcells 49 [.arr .i8 81 x1, .arr .i8 16 x2, .one [.i .i8 x3], .rows [.i .u64, .i .u64] 32 x4, .rows [.i .u64, .i .u64] 2 x5]]) (qAZ 1 qWF) = qI6 x0 x1 x2 x3 x4 x5 := by kernel_rfl
def qWD : HA := fun o vs objs K => match vs, List.map Obj.toRO objs with
 | [.s (.ptr 0 0 none 0), .s (.i .i64 x0)], [.rcells 49 [.arr .i8 81 x1, .arr .i8 16 x2, .one [.i .i8 x3], .rows [.i .u64, .i .u64] 32 x4, .rows [.i .u64, .i .u64] 2 x5]] => ob (qI6 x0 x1 x2 x3 x4 x5) fun y0 => K true (.s (.b y0)) ([])
 | _, _ => o 23 vs objs K
def qWH (o : Orc) : Orc := qM 23 (qWD o) o
theorem qiS : OQ Tryz.prog qWH := fun _ ho => qP ho fun vs objs K r h => by
 unfold qWD at h
 split at h
 ·skip
  have hq : List.map Obj.toRO objs = _ := (by rename_i hq; first | exact hq | assumption)
  obtain ⟨t, h1, h2⟩ := qE h
  refine qAh mixed qWE (m := 1) (fn := Tryz.f23) (b := (Tryz.f23).body.getD .skip) (by kernel_rfl) (by kernel_rfl) (by kernel_rfl) hq (by kernel_rfl) (by kernel_rfl) (qT.of (l' := [qG Tryz.f23 11]) (by kernel_rfl) ⟨qiT, trivial⟩) ((qiP _ _ _ _ _ _).trans h1) fun v objs' hd => ?_
  unfold qWF at hd;split at hd;(cases hd;exact h2);cases hd
 ·exact ho _ _ _ _ _ h
def qOs : Ex -> List V -> List Obj -> Option (Nat × LI × LI × Int × LL × LL × Int × Int × Int × Int × Bool × Nat × LL × List (LI × LI)) := fun e vs objs => match e, vs, objs with
 | .exit 0, [.s (.ptr 0 0 none 0), .s (.ptr 1 0 none 0), .s (.sl 2 0 y0 true)], [.cells 49 [.arr .i8 81 y1, .arr .i8 16 y2, .one [.i .i8 y3], .rows [.i .u64, .i .u64] 32 y4, .rows [.i .u64, .i .u64] 2 y5], .cells 66 [.one [.ptr 0 0 none 0, .i .i64 y6, .i .i64 y7, .i .u64 y8, .i .u64 y9, .mp 3, .b y10]], .sli 53 false (.rows [.i .i64, .i .i64, .i .i64, .b] y11 y12), .map false true [.i .i64] [.i .u64, .i .u64] y13] => some (y0, y1, y2, y3, y4, y5, y6, y7, y8, y9, y10, y11, y12, y13)
 | _, _, _ => none
def qOq : Ex -> List V -> List Obj -> Option (Nat × LI × LI × Int × LL × LL × Nat × LL) := fun e vs objs => match e, vs, objs with
 | .exit 2, [.s (.sl 1 0 y0 true)], [.cells 49 [.arr .i8 81 y1, .arr .i8 16 y2, .one [.i .i8 y3], .rows [.i .u64, .i .u64] 32 y4, .rows [.i .u64, .i .u64] 2 y5], .sli 53 false (.rows [.i .i64, .i .i64, .i .i64, .b] y6 y7)] => some (y0, y1, y2, y3, y4, y5, y6, y7)
 | _, _, _ => none
def qOw : HL := fun vs objs K => match vs, objs with
 | [.s (.ptr 0 0 none 0), .s (.ptr 1 0 none 0), .s (.sl 2 0 x0 true), .s (.sl 3 0 x1 true), .s (.i .i64 x2), .s (.i .i64 x3)], [.cells 49 [.arr .i8 81 x4, .arr .i8 16 x5, .one [.i .i8 x6], .rows [.i .u64, .i .u64] 32 x7, .rows [.i .u64, .i .u64] 2 x8], .cells 66 [.one [.ptr 0 0 none 0, .i .i64 x9, .i .i64 x10, .i .u64 x11, .i .u64 x12, .mp 4, .b x13]], .sli 53 false (.rows [.i .i64, .i .i64, .i .i64, .b] x14 x15), .sli 53 false (.rows [.i .i64, .i .i64, .i .i64, .b] x16 x17), .map false true [.i .i64] [.i .u64, .i .u64] x18] => ob (qFI qC x0 x1 x2 x3 x4 x5 x6 x7 x8 x9 x10 x11 x12 x13 x14 x15 x16 x17 x18) fun z => K (.exit 0) ([.s (.ptr 0 0 none 0), .s (.ptr 1 0 none 0), .s (.sl 2 0 (z.1) true)]) ([.cells 49 [.arr .i8 81 (z.2.1), .arr .i8 16 (z.2.2.1), .one [.i .i8 (z.2.2.2.1)], .rows [.i .u64, .i .u64] 32 (z.2.2.2.2.1), .rows [.i .u64, .i .u64] 2 (z.2.2.2.2.2.1)], .cells 66 [.one [.ptr 0 0 none 0, .i .i64 (z.2.2.2.2.2.2.1), .i .i64 (z.2.2.2.2.2.2.2.1), .i .u64 (z.2.2.2.2.2.2.2.2.1), .i .u64 (z.2.2.2.2.2.2.2.2.2.1), .mp 3, .b (z.2.2.2.2.2.2.2.2.2.2.1)]], .sli 53 false (.rows [.i .i64, .i .i64, .i .i64, .b] (z.2.2.2.2.2.2.2.2.2.2.2.1) (z.2.2.2.2.2.2.2.2.2.2.2.2.1)), .map false true [.i .i64] [.i .u64, .i .u64] (z.2.2.2.2.2.2.2.2.2.2.2.2.2)])
 | _, _ => none
def qOv : HL := fun vs objs K => match vs, objs with
 | [.s (.ptr 0 0 none 0), .s (.sl 1 0 x0 true), .s (.sl 2 0 x1 true), .s (.i .i64 x2), .s (.i .i64 x3)], [.cells 49 [.arr .i8 81 x4, .arr .i8 16 x5, .one [.i .i8 x6], .rows [.i .u64, .i .u64] 32 x7, .rows [.i .u64, .i .u64] 2 x8], .sli 53 false (.rows [.i .i64, .i .i64, .i .i64, .b] x9 x10), .sli 53 false (.rows [.i .i64, .i .i64, .i .i64, .b] x11 x12)] => ob (qD9 qC x0 x1 x2 x3 x4 x5 x6 x7 x8 x9 x10 x11 x12) fun z => K (.exit 2) ([.s (.sl 1 0 (z.1) true)]) ([.cells 49 [.arr .i8 81 (z.2.1), .arr .i8 16 (z.2.2.1), .one [.i .i8 (z.2.2.2.1)], .rows [.i .u64, .i .u64] 32 (z.2.2.2.2.1), .rows [.i .u64, .i .u64] 2 (z.2.2.2.2.2.1)], .sli 53 false (.rows [.i .i64, .i .i64, .i .i64, .b] (z.2.2.2.2.2.2.1) (z.2.2.2.2.2.2.2))])
 | _, _ => none
def qiM : {R : Type} -> Nat -> List V -> List Obj -> (Ex -> List V -> List Obj -> Option R) -> Option R := fun q vs objs K => bif Nat.beq q 4 then qOw vs objs K else bif Nat.beq q 10 then qOv vs objs K else none
def qHN : Ctx := mkC 51 ((qWH (qVD (qO1 (qOE (qJd (qO0 qL))))))) [(4, [0, 3, 4, 13, 14, 15], [0, 3, 4]), (10, [0, 4, 30, 31, 32], [4])] qiM
theorem qOp : CtxOK Tryz.prog qHN := mkC_ok ((qiS _ (qhF _ (qWP _ (qU8 _ (qL5 _ (qWL _ qN)))))))
def qOt (f : Nat) (x0 x1 : Nat) (x2 x3 : Int) (x4 x5 : LI) (x6 : Int) (x7 x8 : LL) (x9 x10 : Int) (x11 x12 : Int) (x13 : Bool) (x14 : Nat) (x15 : LL) (x16 : Nat) (x17 : LL) (x18 : List (LI × LI)) : Option (Nat × LI × LI × Int × LL × LL × Int × Int × Int × Int × Bool × Nat × LL × List (LI × LI)) := qg qHN 1 [0, 3, 4, 13, 14, 15] [0, 3, 4] (qG Tryz.f4 4) f ([.s (.ptr 0 0 none 0), .s (.ptr 1 0 none 0), .s (.sl 2 0 x0 true), .s (.sl 3 0 x1 true), .s (.i .i64 x2), .s (.i .i64 x3)]) ([.cells 49 [.arr .i8 81 x4, .arr .i8 16 x5, .one [.i .i8 x6], .rows [.i .u64, .i .u64] 32 x7, .rows [.i .u64, .i .u64] 2 x8], .cells 66 [.one [.ptr 0 0 none 0, .i .i64 x9, .i .i64 x10, .i .u64 x11, .i .u64 x12, .mp 4, .b x13]], .sli 53 false (.rows [.i .i64, .i .i64, .i .i64, .b] x14 x15), .sli 53 false (.rows [.i .i64, .i .i64, .i .i64, .b] x16 x17), .map false true [.i .i64] [.i .u64, .i .u64] x18]) qOs
theorem qiL (f : Nat) (x0 x1 : Nat) (x2 x3 : Int) (x4 x5 : LI) (x6 : Int) (x7 x8 : LL) (x9 x10 : Int) (x11 x12 : Int) (x13 : Bool) (x14 : Nat) (x15 : LL) (x16 : Nat) (x17 : LL) (x18 : List (LI × LI)) : qOt (f + 1) x0 x1 x2 x3 x4 x5 x6 x7 x8 x9 x10 x11 x12 x13 x14 x15 x16 x17 x18 = qHP (qOt f) x0 x1 x2 x3 x4 x5 x6 x7 x8 x9 x10 x11 x12 x13 x14 x15 x16 x17 x18 := by kernel_rfl
theorem qWB : ∀ f, qOt f = qFI f
 | 0 => rfl
 | f + 1 => by funext x0 x1 x2 x3 x4 x5 x6 x7 x8 x9 x10 x11 x12 x13 x14 x15 x16 x17 x18; rw [qiL, qWB f]; rfl
def qOr (f : Nat) (x0 x1 : Nat) (x2 x3 : Int) (x4 x5 : LI) (x6 : Int) (x7 x8 : LL) (x9 : Nat) (x10 : LL) (x11 : Nat) (x12 : LL) : Option (Nat × LI × LI × Int × LL × LL × Nat × LL) := qg qHN 1 [0, 4, 30, 31, 32] [4] (qG Tryz.f4 10) f ([.s (.ptr 0 0 none 0), .s (.sl 1 0 x0 true), .s (.sl 2 0 x1 true), .s (.i .i64 x2), .s (.i .i64 x3)]) ([.cells 49 [.arr .i8 81 x4, .arr .i8 16 x5, .one [.i .i8 x6], .rows [.i .u64, .i .u64] 32 x7, .rows [.i .u64, .i .u64] 2 x8], .sli 53 false (.rows [.i .i64, .i .i64, .i .i64, .b] x9 x10), .sli 53 false (.rows [.i .i64, .i .i64, .i .i64, .b] x11 x12)]) qOq
theorem qiK (f : Nat) (x0 x1 : Nat) (x2 x3 : Int) (x4 x5 : LI) (x6 : Int) (x7 x8 : LL) (x9 : Nat) (x10 : LL) (x11 : Nat) (x12 : LL) : qOr (f + 1) x0 x1 x2 x3 x4 x5 x6 x7 x8 x9 x10 x11 x12 = qHO (qOr f) x0 x1 x2 x3 x4 x5 x6 x7 x8 x9 x10 x11 x12 := by kernel_rfl
theorem qWA : ∀ f, qOr f = qD9 f
 | 0 => rfl
 | f + 1 => by funext x0 x1 x2 x3 x4 x5 x6 x7 x8 x9 x10 x11 x12; rw [qiK, qWA f]; rfl
theorem qiO : qe Tryz.prog qHN 1 (qG Tryz.f4 4) :=
 qk mixed qOp (qT.of (l' := []) (by kernel_rfl) trivial) (q := 4) (kin := [0, 3, 4, 13, 14, 15]) (kout := [0, 3, 4]) (by kernel_rfl) (by kernel_rfl) fun vs objs K r h => by
  replace h : qOw vs objs K = some r := h
  unfold qOw at h
  split at h
  ·skip
   obtain ⟨t, h1, h2⟩ := qE h
   rw [<- qWB] at h1
   refine ⟨_, qOs, t, qC, h1, fun e vs' objs' hd => ?_⟩
   unfold qOs at hd;split at hd;(cases hd;exact h2);cases hd
  ·cases h
theorem qiN : qe Tryz.prog qHN 1 (qG Tryz.f4 10) :=
 qk mixed qOp (qT.of (l' := []) (by kernel_rfl) trivial) (q := 10) (kin := [0, 4, 30, 31, 32]) (kout := [4]) (by kernel_rfl) (by kernel_rfl) fun vs objs K r h => by
  replace h : qOv vs objs K = some r := h
  unfold qOv at h
  split at h
  ·skip
   obtain ⟨t, h1, h2⟩ := qE h
   rw [<- qWA] at h1
   refine ⟨_, qOq, t, qC, h1, fun e vs' objs' hd => ?_⟩
   unfold qOq at hd;split at hd;(cases hd;exact h2);cases hd
  ·cases h
def qV9 : V -> List Obj -> Option (Nat × LI × LI × Int × LL × LL × Nat × LL) := fun v objs => match v, objs with
 | .s (.sl 1 0 y0 true), [.cells 49 [.arr .i8 81 y1, .arr .i8 16 y2, .one [.i .i8 y3], .rows [.i .u64, .i .u64] 32 y4, .rows [.i .u64, .i .u64] 2 y5], .sli 53 false (.rows [.i .i64, .i .i64, .i .i64, .b] y6 y7)] => some (y0, y1, y2, y3, y4, y5, y6, y7)
 | _, _ => none
theorem qiJ (x0 x1 : LI) (x2 : Int) (x3 x4 : LL) : fnE qHN Tryz.f4 ([.s (.ptr 0 0 none 0)]) ([.cells 49 [.arr .i8 81 x0, .arr .i8 16 x1, .one [.i .i8 x2], .rows [.i .u64, .i .u64] 32 x3, .rows [.i .u64, .i .u64] 2 x4]]) qV9 = qD8 x0 x1 x2 x3 x4 := by kernel_rfl
def qV8 : HA := fun o vs objs K => match vs, objs with
 | [.s (.ptr 0 0 none 0)], [.cells 49 [.arr .i8 81 x0, .arr .i8 16 x1, .one [.i .i8 x2], .rows [.i .u64, .i .u64] 32 x3, .rows [.i .u64, .i .u64] 2 x4]] => ob (qD8 x0 x1 x2 x3 x4) fun z => K false (.s (.sl 1 0 (z.1) true)) ([.cells 49 [.arr .i8 81 (z.2.1), .arr .i8 16 (z.2.2.1), .one [.i .i8 (z.2.2.2.1)], .rows [.i .u64, .i .u64] 32 (z.2.2.2.2.1), .rows [.i .u64, .i .u64] 2 (z.2.2.2.2.2.1)], .sli 53 false (.rows [.i .i64, .i .i64, .i .i64, .b] (z.2.2.2.2.2.2.1) (z.2.2.2.2.2.2.2))])
 | _, _ => o 4 vs objs K
def qOu (o : Orc) : Orc := qM 4 (qV8 o) o
theorem qWC : OQ Tryz.prog qOu := fun _ ho => qP ho fun vs objs K r h => by
 unfold qV8 at h
 split at h
 ·skip
  obtain ⟨t, h1, h2⟩ := qE h
  refine qAX mixed qOp (fn := Tryz.f4) (b := (Tryz.f4).body.getD .skip) (by kernel_rfl) (by kernel_rfl) (by kernel_rfl) ((qiJ _ _ _ _ _).trans h1) (m := 1) rfl (qT.of (l' := [qG Tryz.f4 4, qG Tryz.f4 10]) (by kernel_rfl) ⟨qiO, qiN, trivial⟩) fun v objs' hd => ?_
  unfold qV9 at hd;split at hd;(cases hd;exact h2);cases hd
 ·exact ho _ _ _ _ _ h
def qXx : Ctx := mkC 13 ((qDb qL)) [] qV
theorem qkx : CtxOK Tryz.prog qXx := mkC_ok ((qEF _ qN))
def qXy : V -> List Obj -> Option (Int) := fun v objs => match v, objs with
 | .s (.i .i64 y0), [] => some (y0)
 | _, _ => none
theorem qkw (x0 : Int) : fnE qXx Tryz.f44 ([.s (.i .i64 x0)]) ([]) qXy = qCi x0 := by kernel_rfl
def qXw : HA := fun o vs objs K => match vs, objs with
 | [.s (.i .i64 x0)], [] => ob (qCi x0) fun y0 => K false (.s (.i .i64 y0)) ([])
 | _, _ => o 44 vs objs K
def qJI (o : Orc) : Orc := qM 44 (qXw o) o
theorem qLV : OQ Tryz.prog qJI := fun _ ho => qP ho fun vs objs K r h => by
 unfold qXw at h
 split at h
 ·skip
  obtain ⟨t, h1, h2⟩ := qE h
  refine any0K mixed qkx ((qkw _).trans h1) (by kernel_rfl) fun v objs' hd => ?_
  unfold qXy at hd;split at hd;(cases hd;exact h2);cases hd
 ·exact ho _ _ _ _ _ h
def qX3 : Ctx := mkC 15 (qL) [] qV
theorem qk1 : CtxOK Tryz.prog qX3 := mkC_ok (qN)
def qX4 : V -> List Obj -> Option (Int) := fun v objs => match v, objs with
 | .s (.i .i64 y0), [] => some (y0)
 | _, _ => none
theorem qk0 (x0 : Int) : fnE qX3 Tryz.f72 ([.s (.i .i64 x0)]) ([]) qX4 = qLW x0 := by kernel_rfl
def qX2 : HA := fun o vs objs K => match vs, objs with
 | [.s (.i .i64 x0)], [] => ob (qLW x0) fun y0 => K false (.s (.i .i64 y0)) ([])
 | _, _ => o 72 vs objs K
def qX5 (o : Orc) : Orc := qM 72 (qX2 o) o
theorem qk2 : OQ Tryz.prog qX5 := fun _ ho => qP ho fun vs objs K r h => by
 unfold qX2 at h
 split at h
 ·skip
  obtain ⟨t, h1, h2⟩ := qE h
  refine any0K mixed qk1 ((qk0 _).trans h1) (by kernel_rfl) fun v objs' hd => ?_
  unfold qX4 at hd;split at hd;(cases hd;exact h2);cases hd
 ·exact ho _ _ _ _ _ h
end
end Go.Kk.KkST
