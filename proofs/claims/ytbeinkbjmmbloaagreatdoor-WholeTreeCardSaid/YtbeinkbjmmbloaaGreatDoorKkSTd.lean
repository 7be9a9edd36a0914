/- Printed by a tool of this project (KkGen): the program's functions come to the plain ones. -/
import Derived.Test.YtbeinkbjmmbloaaGreatDoorKkSTc
namespace Go.Kk.KkST
noncomputable section
open Go.Proofs Go.Kk.Pl
set_option maxRecDepth 100000
set_option maxHeartbeats 4000000
def qQJ : Ex -> List V -> List Obj -> Option ((Int) ⊕ (Unit)) := fun e vs objs => match e, vs, objs with
 | .ret, [.s (.i .i64 y0)], [] => some (.inl (y0))
 | .exit 0, [.s .bad], [] => some (.inr ())
 | _, _, _ => none
def qQL : HL := fun vs objs K => match vs, objs with
 | [.s (.i .i64 x0), .s (.ptr 0 0 none 0), .s (.i .i64 x1)], [.cells 28 [.arr .i8 81 x2, .arr .i8 16 x3, .one [.i .i8 x4]]] => ob (qFZ qC x0 x1 x2 x3 x4) fun t0 => sw t0 (fun y0 => K (.ret) ([.s (.i .i64 y0)]) ([])) (fun _ => K (.exit 0) ([.s .bad]) ([]))
 | _, _ => none
def qmf : {R : Type} -> Nat -> List V -> List Obj -> (Ex -> List V -> List Obj -> Option R) -> Option R := fun q vs objs K => bif Nat.beq q 2 then qQL vs objs K else none
def qLt : Ctx := mkC 20 (qL) [(2, [1, 2, 5], [4])] qmf
theorem qZo : CtxOK Tryz.prog qLt := mkC_ok (qN)
def qQK (f : Nat) (x0 x1 : Int) (x2 x3 : LI) (x4 : Int) : Option ((Int) ⊕ (Unit)) := qg qLt 0 [1, 2, 5] [4] (qG Tryz.f107 2) f ([.s (.i .i64 x0), .s (.ptr 0 0 none 0), .s (.i .i64 x1)]) ([.cells 28 [.arr .i8 81 x2, .arr .i8 16 x3, .one [.i .i8 x4]]]) qQJ
theorem qme (f : Nat) (x0 x1 : Int) (x2 x3 : LI) (x4 : Int) : qQK (f + 1) x0 x1 x2 x3 x4 = qHv (qQK f) x0 x1 x2 x3 x4 := by kernel_rfl
theorem qZq : ∀ f, qQK f = qFZ f
 | 0 => rfl
 | f + 1 => by funext x0 x1 x2 x3 x4; rw [qme, qZq f]; rfl
theorem qmh : qe Tryz.prog qLt 0 (qG Tryz.f107 2) :=
 qk mixed qZo (qT.of (l' := []) (by kernel_rfl) trivial) (q := 2) (kin := [1, 2, 5]) (kout := [4]) (by kernel_rfl) (by kernel_rfl) fun vs objs K r h => by
  replace h : qQL vs objs K = some r := h
  unfold qQL at h
  split at h
  ·skip
   obtain ⟨t, h1, h2⟩ := qE h
   rw [<- qZq] at h1
   refine ⟨_, qQJ, t, qC, h1, fun e vs' objs' hd => ?_⟩
   unfold qQJ at hd
   split at hd
   ·skip
    cases hd
    exact h2
   ·skip
    cases hd
    exact h2
   ·cases hd
  ·cases h
def qZp : V -> List Obj -> Option (Int) := fun v objs => match v, objs with
 | .s (.i .i64 y0), [] => some (y0)
 | _, _ => none
theorem qmd (x0 x1 : LI) (x2 x3 : Int) : fnE qLt Tryz.f107 ([.agg [.arr .i8 81 x0, .arr .i8 16 x1, .one [.i .i8 x2]], .s (.i .i64 x3)]) ([]) qZp = qJR x0 x1 x2 x3 := by kernel_rfl
def qZn : HA := fun o vs objs K => match vs, objs with
 | [.agg [.arr .i8 81 x0, .arr .i8 16 x1, .one [.i .i8 x2]], .s (.i .i64 x3)], [] => ob (qJR x0 x1 x2 x3) fun y0 => K false (.s (.i .i64 y0)) ([])
 | _, _ => o 107 vs objs K
def qZr (o : Orc) : Orc := qM 107 (qZn o) o
theorem qmg : OQ Tryz.prog qZr := fun _ ho => qP ho fun vs objs K r h => by
 unfold qZn at h
 split at h
 ·skip
  obtain ⟨t, h1, h2⟩ := qE h
  refine qAX mixed qZo (fn := Tryz.f107) (b := (Tryz.f107).body.getD .skip) (by kernel_rfl) (by kernel_rfl) (by kernel_rfl) ((qmd _ _ _ _).trans h1) (m := 0) rfl (qT.of (l' := [qG Tryz.f107 2]) (by kernel_rfl) ⟨qmh, trivial⟩) fun v objs' hd => ?_
  unfold qZp at hd;split at hd;(cases hd;exact h2);cases hd
 ·exact ho _ _ _ _ _ h
def qQF : Ex -> List V -> List Obj -> Option ((Bool) ⊕ (Unit)) := fun e vs objs => match e, vs, objs with
 | .ret, [.s (.b y0)], [] => some (.inl (y0))
 | .exit 0, [.s .bad], [] => some (.inr ())
 | _, _, _ => none
def qQI : HL := fun vs objs K => match vs, objs with
 | [.s (.i .i64 x0), .s (.ptr 0 0 none 0), .s (.ptr 1 0 none 0), .s (.i .i64 x1), .s (.i .i64 x2)], [.cells 28 [.arr .i8 81 x3, .arr .i8 16 x4, .one [.i .i8 x5]], .cells 106 [Seg.barr 81 x6]] => ob (qFY qC x0 x1 x2 x3 x4 x5 x6) fun t0 => sw t0 (fun y0 => K (.ret) ([.s (.b y0)]) ([])) (fun _ => K (.exit 0) ([.s .bad]) ([]))
 | _, _ => none
def qmb : {R : Type} -> Nat -> List V -> List Obj -> (Ex -> List V -> List Obj -> Option R) -> Option R := fun q vs objs K => bif Nat.beq q 6 then qQI vs objs K else none
def qLs : Ctx := mkC 39 ((qLo (qFT (qZr (qLr qL))))) [(6, [1, 2, 5, 6, 7], [4])] qmb
theorem qZj : CtxOK Tryz.prog qLs := mkC_ok ((qP6 _ (qGO _ (qmg _ (qQD _ qN)))))
def qQG (f : Nat) (x0 x1 x2 : Int) (x3 x4 : LI) (x5 : Int) (x6 : List Bool) : Option ((Bool) ⊕ (Unit)) := qg qLs 0 [1, 2, 5, 6, 7] [4] (qG Tryz.f80 6) f ([.s (.i .i64 x0), .s (.ptr 0 0 none 0), .s (.ptr 1 0 none 0), .s (.i .i64 x1), .s (.i .i64 x2)]) ([.cells 28 [.arr .i8 81 x3, .arr .i8 16 x4, .one [.i .i8 x5]], .cells 106 [Seg.barr 81 x6]]) qQF
theorem qma (f : Nat) (x0 x1 x2 : Int) (x3 x4 : LI) (x5 : Int) (x6 : List Bool) : qQG (f + 1) x0 x1 x2 x3 x4 x5 x6 = qHu (qQG f) x0 x1 x2 x3 x4 x5 x6 := by kernel_rfl
theorem qZl : ∀ f, qQG f = qFY f
 | 0 => rfl
 | f + 1 => by funext x0 x1 x2 x3 x4 x5 x6; rw [qma, qZl f]; rfl
theorem qmc : qe Tryz.prog qLs 0 (qG Tryz.f80 6) :=
 qk mixed qZj (qT.of (l' := []) (by kernel_rfl) trivial) (q := 6) (kin := [1, 2, 5, 6, 7]) (kout := [4]) (by kernel_rfl) (by kernel_rfl) fun vs objs K r h => by
  replace h : qQI vs objs K = some r := h
  unfold qQI at h
  split at h
  ·skip
   obtain ⟨t, h1, h2⟩ := qE h
   rw [<- qZl] at h1
   refine ⟨_, qQF, t, qC, h1, fun e vs' objs' hd => ?_⟩
   unfold qQF at hd
   split at hd
   ·skip
    cases hd
    exact h2
   ·skip
    cases hd
    exact h2
   ·cases hd
  ·cases h
def qZk : V -> List Obj -> Option (Bool) := fun v objs => match v, objs with
 | .s (.b y0), [] => some (y0)
 | _, _ => none
theorem qmZ (x0 x1 : LI) (x2 x3 : Int) : fnE qLs Tryz.f80 ([.agg [.arr .i8 81 x0, .arr .i8 16 x1, .one [.i .i8 x2]], .s (.i .i64 x3)]) ([]) qZk = qHt x0 x1 x2 x3 := by kernel_rfl
def qZi : HA := fun o vs objs K => match vs, objs with
 | [.agg [.arr .i8 81 x0, .arr .i8 16 x1, .one [.i .i8 x2]], .s (.i .i64 x3)], [] => ob (qHt x0 x1 x2 x3) fun y0 => K false (.s (.b y0)) ([])
 | _, _ => o 80 vs objs K
def qQH (o : Orc) : Orc := qM 80 (qZi o) o
theorem qZm : OQ Tryz.prog qQH := fun _ ho => qP ho fun vs objs K r h => by
 unfold qZi at h
 split at h
 ·skip
  obtain ⟨t, h1, h2⟩ := qE h
  refine qAX mixed qZj (fn := Tryz.f80) (b := (Tryz.f80).body.getD .skip) (by kernel_rfl) (by kernel_rfl) (by kernel_rfl) ((qmZ _ _ _ _).trans h1) (m := 0) rfl (qT.of (l' := [qG Tryz.f80 6]) (by kernel_rfl) ⟨qmc, trivial⟩) fun v objs' hd => ?_
  unfold qZk at hd;split at hd;(cases hd;exact h2);cases hd
 ·exact ho _ _ _ _ _ h
def qaT : Ctx := mkC 13 ((qQH (qQM qL))) [] qV
theorem qnF : CtxOK Tryz.prog qaT := mkC_ok ((qZm _ (qZv _ qN)))
def qaU : V -> List Obj -> Option (Bool) := fun v objs => match v, objs with
 | .s (.b y0), [] => some (y0)
 | _, _ => none
theorem qnE (x0 x1 : LI) (x2 x3 : Int) (x4 x5 : Int) (x6 : Bool) : fnE qaT Tryz.f78 ([.agg [.arr .i8 81 x0, .arr .i8 16 x1, .one [.i .i8 x2]], .agg [.one [.i .i64 x3, .i .i64 x4, .i .i64 x5, .b x6]]]) ([]) qaU = qH3 x0 x1 x2 x3 x4 x5 x6 := by kernel_rfl
def qaS : HA := fun o vs objs K => match vs, objs with
 | [.agg [.arr .i8 81 x0, .arr .i8 16 x1, .one [.i .i8 x2]], .agg [.one [.i .i64 x3, .i .i64 x4, .i .i64 x5, .b x6]]], [] => ob (qH3 x0 x1 x2 x3 x4 x5 x6) fun y0 => K false (.s (.b y0)) ([])
 | _, _ => o 78 vs objs K
def qQd (o : Orc) : Orc := qM 78 (qaS o) o
theorem qaV : OQ Tryz.prog qQd := fun _ ho => qP ho fun vs objs K r h => by
 unfold qaS at h
 split at h
 ·skip
  obtain ⟨t, h1, h2⟩ := qE h
  refine any0K mixed qnF ((qnE _ _ _ _ _ _ _).trans h1) (by kernel_rfl) fun v objs' hd => ?_
  unfold qaU at hd;split at hd;(cases hd;exact h2);cases hd
 ·exact ho _ _ _ _ _ h
def qQe : Ex -> List V -> List Obj -> Option ((Bool) ⊕ (Unit)) := fun e vs objs => match e, vs, objs with
 | .ret, [.s (.b y0)], [] => some (.inl (y0))
 | .exit 0, [.s .bad], [] => some (.inr ())
 | _, _, _ => none
def qQg : HL := fun vs objs K => match vs, objs with
 | [.s (.ptr 0 0 none 0), .s (.sl 1 0 x0 true), .s (.i .i64 x1)], [.cells 28 [.arr .i8 81 x2, .arr .i8 16 x3, .one [.i .i8 x4]], .sli 53 false (.rows [.i .i64, .i .i64, .i .i64, .b] x5 x6)] => ob (qFe qC x0 x1 x2 x3 x4 x5 x6) fun t0 => sw t0 (fun y0 => K (.ret) ([.s (.b y0)]) ([])) (fun _ => K (.exit 0) ([.s .bad]) ([]))
 | _, _ => none
def qnI : {R : Type} -> Nat -> List V -> List Obj -> (Ex -> List V -> List Obj -> Option R) -> Option R := fun q vs objs K => bif Nat.beq q 3 then qQg vs objs K else none
def qLv : Ctx := mkC 19 ((qQd (qQV qL))) [(3, [1, 3, 4], [2])] qnI
theorem qaX : CtxOK Tryz.prog qLv := mkC_ok ((qaV _ (qZ6 _ qN)))
def qQf (f : Nat) (x0 : Nat) (x1 : Int) (x2 x3 : LI) (x4 : Int) (x5 : Nat) (x6 : LL) : Option ((Bool) ⊕ (Unit)) := qg qLv 0 [1, 3, 4] [2] (qG Tryz.f81 3) f ([.s (.ptr 0 0 none 0), .s (.sl 1 0 x0 true), .s (.i .i64 x1)]) ([.cells 28 [.arr .i8 81 x2, .arr .i8 16 x3, .one [.i .i8 x4]], .sli 53 false (.rows [.i .i64, .i .i64, .i .i64, .b] x5 x6)]) qQe
theorem qnH (f : Nat) (x0 : Nat) (x1 : Int) (x2 x3 : LI) (x4 : Int) (x5 : Nat) (x6 : LL) : qQf (f + 1) x0 x1 x2 x3 x4 x5 x6 = qH4 (qQf f) x0 x1 x2 x3 x4 x5 x6 := by kernel_rfl
theorem qaZ : ∀ f, qQf f = qFe f
 | 0 => rfl
 | f + 1 => by funext x0 x1 x2 x3 x4 x5 x6; rw [qnH, qaZ f]; rfl
theorem qnK : qe Tryz.prog qLv 0 (qG Tryz.f81 3) :=
 qk mixed qaX (qT.of (l' := []) (by kernel_rfl) trivial) (q := 3) (kin := [1, 3, 4]) (kout := [2]) (by kernel_rfl) (by kernel_rfl) fun vs objs K r h => by
  replace h : qQg vs objs K = some r := h
  unfold qQg at h
  split at h
  ·skip
   obtain ⟨t, h1, h2⟩ := qE h
   rw [<- qaZ] at h1
   refine ⟨_, qQe, t, qC, h1, fun e vs' objs' hd => ?_⟩
   unfold qQe at hd
   split at hd
   ·skip
    cases hd
    exact h2
   ·skip
    cases hd
    exact h2
   ·cases hd
  ·cases h
def qaY : V -> List Obj -> Option (Bool) := fun v objs => match v, objs with
 | .s (.b y0), [] => some (y0)
 | _, _ => none
theorem qnG (x0 x1 : LI) (x2 : Int) : fnE qLv Tryz.f81 ([.agg [.arr .i8 81 x0, .arr .i8 16 x1, .one [.i .i8 x2]]]) ([]) qaY = qJY x0 x1 x2 := by kernel_rfl
def qaW : HA := fun o vs objs K => match vs, objs with
 | [.agg [.arr .i8 81 x0, .arr .i8 16 x1, .one [.i .i8 x2]]], [] => ob (qJY x0 x1 x2) fun y0 => K false (.s (.b y0)) ([])
 | _, _ => o 81 vs objs K
def qaa (o : Orc) : Orc := qM 81 (qaW o) o
theorem qnJ : OQ Tryz.prog qaa := fun _ ho => qP ho fun vs objs K r h => by
 unfold qaW at h
 split at h
 ·skip
  obtain ⟨t, h1, h2⟩ := qE h
  refine qAX mixed qaX (fn := Tryz.f81) (b := (Tryz.f81).body.getD .skip) (by kernel_rfl) (by kernel_rfl) (by kernel_rfl) ((qnG _ _ _).trans h1) (m := 0) rfl (qT.of (l' := [qG Tryz.f81 3]) (by kernel_rfl) ⟨qnK, trivial⟩) fun v objs' hd => ?_
  unfold qaY at hd;split at hd;(cases hd;exact h2);cases hd
 ·exact ho _ _ _ _ _ h
def qaP : Ctx := mkC 27 ((qaa (qQH (qQM (qQd qL))))) [] qV
theorem qnC : CtxOK Tryz.prog qaP := mkC_ok ((qnJ _ (qZm _ (qZv _ (qaV _ qN)))))
def qaQ : V -> List Obj -> Option (Bool) := fun v objs => match v, objs with
 | .s (.b y0), [] => some (y0)
 | _, _ => none
theorem qnB (x0 x1 : LI) (x2 x3 : Int) (x4 x5 : Int) (x6 : Bool) : fnE qaP Tryz.f31 ([.agg [.arr .i8 81 x0, .arr .i8 16 x1, .one [.i .i8 x2]], .agg [.one [.i .i64 x3, .i .i64 x4, .i .i64 x5, .b x6]]]) ([]) qaQ = qJX x0 x1 x2 x3 x4 x5 x6 := by kernel_rfl
def qaO : HA := fun o vs objs K => match vs, objs with
 | [.agg [.arr .i8 81 x0, .arr .i8 16 x1, .one [.i .i8 x2]], .agg [.one [.i .i64 x3, .i .i64 x4, .i .i64 x5, .b x6]]], [] => ob (qJX x0 x1 x2 x3 x4 x5 x6) fun y0 => K false (.s (.b y0)) ([])
 | _, _ => o 31 vs objs K
def qaR (o : Orc) : Orc := qM 31 (qaO o) o
theorem qnD : OQ Tryz.prog qaR := fun _ ho => qP ho fun vs objs K r h => by
 unfold qaO at h
 split at h
 ·skip
  obtain ⟨t, h1, h2⟩ := qE h
  refine any0K mixed qnC ((qnB _ _ _ _ _ _ _).trans h1) (by kernel_rfl) fun v objs' hd => ?_
  unfold qaQ at hd;split at hd;(cases hd;exact h2);cases hd
 ·exact ho _ _ _ _ _ h
def qQa : Ex -> List V -> List Obj -> Option (Nat × Nat × LL) := fun e vs objs => match e, vs, objs with
 | .exit 0, [.s (.sl 0 0 y0 true)], [.sli 53 false (.rows [.i .i64, .i .i64, .i .i64, .b] y1 y2)] => some (y0, y1, y2)
 | _, _, _ => none
def qQc : HL := fun vs objs K => match vs, objs with
 | [.s (.ptr 0 0 none 0), .s (.sl 1 0 x0 true), .s (.sl 2 0 x1 true), .s (.i .i64 x2)], [.cells 28 [.arr .i8 81 x3, .arr .i8 16 x4, .one [.i .i8 x5]], .sli 53 false (.rows [.i .i64, .i .i64, .i .i64, .b] x6 x7), .sli 53 false (.rows [.i .i64, .i .i64, .i .i64, .b] x8 x9)] => ob (qFd qC x0 x1 x2 x3 x4 x5 x6 x7 x8 x9) fun z => K (.exit 0) ([.s (.sl 0 0 (z.1) true)]) ([.sli 53 false (.rows [.i .i64, .i .i64, .i .i64, .b] (z.2.1) (z.2.2))])
 | _, _ => none
def qm8 : {R : Type} -> Nat -> List V -> List Obj -> (Ex -> List V -> List Obj -> Option R) -> Option R := fun q vs objs K => bif Nat.beq q 4 then qQc vs objs K else none
def qLu : Ctx := mkC 28 ((qaR (qQV qL))) [(4, [1, 3, 4, 5], [3])] qm8
theorem qaK : CtxOK Tryz.prog qLu := mkC_ok ((qnD _ (qZ6 _ qN)))
def qQb (f : Nat) (x0 x1 : Nat) (x2 : Int) (x3 x4 : LI) (x5 : Int) (x6 : Nat) (x7 : LL) (x8 : Nat) (x9 : LL) : Option (Nat × Nat × LL) := qg qLu 0 [1, 3, 4, 5] [3] (qG Tryz.f9 4) f ([.s (.ptr 0 0 none 0), .s (.sl 1 0 x0 true), .s (.sl 2 0 x1 true), .s (.i .i64 x2)]) ([.cells 28 [.arr .i8 81 x3, .arr .i8 16 x4, .one [.i .i8 x5]], .sli 53 false (.rows [.i .i64, .i .i64, .i .i64, .b] x6 x7), .sli 53 false (.rows [.i .i64, .i .i64, .i .i64, .b] x8 x9)]) qQa
theorem qm7 (f : Nat) (x0 x1 : Nat) (x2 : Int) (x3 x4 : LI) (x5 : Int) (x6 : Nat) (x7 : LL) (x8 : Nat) (x9 : LL) : qQb (f + 1) x0 x1 x2 x3 x4 x5 x6 x7 x8 x9 = qH2 (qQb f) x0 x1 x2 x3 x4 x5 x6 x7 x8 x9 := by kernel_rfl
theorem qaM : ∀ f, qQb f = qFd f
 | 0 => rfl
 | f + 1 => by funext x0 x1 x2 x3 x4 x5 x6 x7 x8 x9; rw [qm7, qaM f]; rfl
theorem qnA : qe Tryz.prog qLu 0 (qG Tryz.f9 4) :=
 qk mixed qaK (qT.of (l' := []) (by kernel_rfl) trivial) (q := 4) (kin := [1, 3, 4, 5]) (kout := [3]) (by kernel_rfl) (by kernel_rfl) fun vs objs K r h => by
  replace h : qQc vs objs K = some r := h
  unfold qQc at h
  split at h
  ·skip
   obtain ⟨t, h1, h2⟩ := qE h
   rw [<- qaM] at h1
   refine ⟨_, qQa, t, qC, h1, fun e vs' objs' hd => ?_⟩
   unfold qQa at hd;split at hd;(cases hd;exact h2);cases hd
  ·cases h
def qaL : V -> List Obj -> Option (Nat × Nat × LL) := fun v objs => match v, objs with
 | .s (.sl 0 0 y0 true), [.sli 53 false (.rows [.i .i64, .i .i64, .i .i64, .b] y1 y2)] => some (y0, y1, y2)
 | _, _ => none
theorem qm6 (x0 x1 : LI) (x2 : Int) : fnE qLu Tryz.f9 ([.agg [.arr .i8 81 x0, .arr .i8 16 x1, .one [.i .i8 x2]]]) ([]) qaL = qJW x0 x1 x2 := by kernel_rfl
def qaJ : HA := fun o vs objs K => match vs, objs with
 | [.agg [.arr .i8 81 x0, .arr .i8 16 x1, .one [.i .i8 x2]]], [] => ob (qJW x0 x1 x2) fun z => K false (.s (.sl 0 0 (z.1) true)) ([.sli 53 false (.rows [.i .i64, .i .i64, .i .i64, .b] (z.2.1) (z.2.2))])
 | _, _ => o 9 vs objs K
def qaN (o : Orc) : Orc := qM 9 (qaJ o) o
theorem qm9 : OQ Tryz.prog qaN := fun _ ho => qP ho fun vs objs K r h => by
 unfold qaJ at h
 split at h
 ·skip
  obtain ⟨t, h1, h2⟩ := qE h
  refine qAX mixed qaK (fn := Tryz.f9) (b := (Tryz.f9).body.getD .skip) (by kernel_rfl) (by kernel_rfl) (by kernel_rfl) ((qm6 _ _ _).trans h1) (m := 0) rfl (qT.of (l' := [qG Tryz.f9 4]) (by kernel_rfl) ⟨qnA, trivial⟩) fun v objs' hd => ?_
  unfold qaL at hd;split at hd;(cases hd;exact h2);cases hd
 ·exact ho _ _ _ _ _ h
def qWv : Ctx := mkC 48 (qL) [] qV
theorem qi8 : CtxOK Tryz.prog qWv := mkC_ok (qN)
def qWw : V -> List Obj -> Option (Int) := fun v objs => match v, objs with
 | .s (.i .i64 y0), [] => some (y0)
 | _, _ => none
theorem qi7 (x0 x1 x2 : Int) (x3 : Bool) : fnE qWv Tryz.f32 ([.agg [.one [.i .i64 x0, .i .i64 x1, .i .i64 x2, .b x3]]]) ([]) qWw = qDa x0 x1 x2 x3 := by kernel_rfl
def qWu : HA := fun o vs objs K => match vs, objs with
 | [.agg [.one [.i .i64 x0, .i .i64 x1, .i .i64 x2, .b x3]]], [] => ob (qDa x0 x1 x2 x3) fun y0 => K false (.s (.i .i64 y0)) ([])
 | _, _ => o 32 vs objs K
def qPC (o : Orc) : Orc := qM 32 (qWu o) o
theorem qWx : OQ Tryz.prog qPC := fun _ ho => qP ho fun vs objs K r h => by
 unfold qWu at h
 split at h
 ·skip
  obtain ⟨t, h1, h2⟩ := qE h
  refine any0K mixed qi8 ((qi7 _ _ _ _).trans h1) (by kernel_rfl) fun v objs' hd => ?_
  unfold qWw at hd;split at hd;(cases hd;exact h2);cases hd
 ·exact ho _ _ _ _ _ h
def qXk : Ctx := mkC 25 ((qDc (qJI (qCO qL)))) [] qV
theorem qkn : CtxOK Tryz.prog qXk := mkC_ok ((qEG _ (qLV _ (qCh _ qN))))
def qXl : V -> List Obj -> Option (ByteArray) := fun v objs => match v, objs with
 | .s (.str y0), [] => some (y0)
 | _, _ => none
theorem qkm (x0 : Int) : fnE qXk Tryz.f33 ([.s (.i .i8 x0)]) ([]) qXl = qLT x0 := by kernel_rfl
def qXj : HA := fun o vs objs K => match vs, objs with
 | [.s (.i .i8 x0)], [] => ob (qLT x0) fun y0 => K false (.s (.str y0)) ([])
 | _, _ => o 33 vs objs K
def qXm (o : Orc) : Orc := qM 33 (qXj o) o
theorem qko : OQ Tryz.prog qXm := fun _ ho => qP ho fun vs objs K r h => by
 unfold qXj at h
 split at h
 ·skip
  obtain ⟨t, h1, h2⟩ := qE h
  refine any0K mixed qkn ((qkm _).trans h1) (by kernel_rfl) fun v objs' hd => ?_
  unfold qXl at hd;split at hd;(cases hd;exact h2);cases hd
 ·exact ho _ _ _ _ _ h
def qW4 : Ctx := mkC 19 ((qMD (qL7 qL))) [] qV
theorem qjF : CtxOK Tryz.prog qW4 := mkC_ok ((qQ8 _ (qQy _ qN)))
def qW5 : V -> List Obj -> Option (ByteArray) := fun v objs => match v, objs with
 | .s (.str y0), [] => some (y0)
 | _, _ => none
theorem qjE (x0 : Int) : fnE qW4 Tryz.f34 ([.s (.i .i64 x0)]) ([]) qW5 = qFM x0 := by kernel_rfl
def qW3 : HA := fun o vs objs K => match vs, objs with
 | [.s (.i .i64 x0)], [] => ob (qFM x0) fun y0 => K false (.s (.str y0)) ([])
 | _, _ => o 34 vs objs K
def qW6 (o : Orc) : Orc := qM 34 (qW3 o) o
theorem qjG : OQ Tryz.prog qW6 := fun _ ho => qP ho fun vs objs K r h => by
 unfold qW3 at h
 split at h
 ·skip
  obtain ⟨t, h1, h2⟩ := qE h
  refine any0K mixed qjF ((qjE _).trans h1) (by kernel_rfl) fun v objs' hd => ?_
  unfold qW5 at hd;split at hd;(cases hd;exact h2);cases hd
 ·exact ho _ _ _ _ _ h
def qW8 : Ctx := mkC 38 ((qW6 (qXm (qDb (qPC qL))))) [] qV
theorem qjI : CtxOK Tryz.prog qW8 := mkC_ok ((qjG _ (qko _ (qEF _ (qWx _ qN)))))
def qW9 : V -> List Obj -> Option (ByteArray) := fun v objs => match v, objs with
 | .s (.str y0), [] => some (y0)
 | _, _ => none
theorem qjH (x0 x1 x2 : Int) (x3 : Bool) : fnE qW8 Tryz.f10 ([.agg [.one [.i .i64 x0, .i .i64 x1, .i .i64 x2, .b x3]]]) ([]) qW9 = qHZ x0 x1 x2 x3 := by kernel_rfl
def qW7 : HA := fun o vs objs K => match vs, objs with
 | [.agg [.one [.i .i64 x0, .i .i64 x1, .i .i64 x2, .b x3]]], [] => ob (qHZ x0 x1 x2 x3) fun y0 => K false (.s (.str y0)) ([])
 | _, _ => o 10 vs objs K
def qXA (o : Orc) : Orc := qM 10 (qW7 o) o
theorem qjJ : OQ Tryz.prog qXA := fun _ ho => qP ho fun vs objs K r h => by
 unfold qW7 at h
 split at h
 ·skip
  obtain ⟨t, h1, h2⟩ := qE h
  refine any0K mixed qjI ((qjH _ _ _ _).trans h1) (by kernel_rfl) fun v objs' hd => ?_
  unfold qW9 at hd;split at hd;(cases hd;exact h2);cases hd
 ·exact ho _ _ _ _ _ h
def qPZ : Ex -> List V -> List Obj -> Option ((Int) ⊕ (Unit)) := fun e vs objs => match e, vs, objs with
 | .ret, [.s (.i .i8 y0)], [] => some (.inl (y0))
 | .exit 0, [.s .bad], [] => some (.inr ())
 | _, _, _ => none
def qPb : HL := fun vs objs K => match vs, objs with
 | [.s (.i .i32 x0), .s (.b x1), .s (.i .i64 x2), .s (S.it 0)], [Obj.iter x3 x4] => ob (qHd qC x0 x1 x2 x3 x4) fun t0 => sw t0 (fun y0 => K (.ret) ([.s (.i .i8 y0)]) ([])) (fun _ => K (.exit 0) ([.s .bad]) ([]))
 | _, _ => none
def qkt : {R : Type} -> Nat -> List V -> List Obj -> (Ex -> List V -> List Obj -> Option R) -> Option R := fun q vs objs K => bif Nat.beq q 6 then qPb vs objs K else none
def qLU : Ctx := mkC 34 ((qDb (qJJ qL))) [(6, [0, 1, 5, 16], [4])] qkt
theorem qXr : CtxOK Tryz.prog qLU := mkC_ok ((qEF _ (qLX _ qN)))
def qPa (f : Nat) (x0 : Int) (x1 : Bool) (x2 : Int) (x3 : ByteArray) (x4 : Nat) : Option ((Int) ⊕ (Unit)) := qg qLU 0 [0, 1, 5, 16] [4] (qG Tryz.f35 6) f ([.s (.i .i32 x0), .s (.b x1), .s (.i .i64 x2), .s (S.it 0)]) ([Obj.iter x3 x4]) qPZ
theorem qks (f : Nat) (x0 : Int) (x1 : Bool) (x2 : Int) (x3 : ByteArray) (x4 : Nat) : qPa (f + 1) x0 x1 x2 x3 x4 = qXu (qPa f) x0 x1 x2 x3 x4 := by kernel_rfl
theorem qXt : ∀ f, qPa f = qHd f
 | 0 => rfl
 | f + 1 => by funext x0 x1 x2 x3 x4; rw [qks, qXt f]; rfl
theorem qkv : qe Tryz.prog qLU 0 (qG Tryz.f35 6) :=
 qk mixed qXr (qT.of (l' := []) (by kernel_rfl) trivial) (q := 6) (kin := [0, 1, 5, 16]) (kout := [4]) (by kernel_rfl) (by kernel_rfl) fun vs objs K r h => by
  replace h : qPb vs objs K = some r := h
  unfold qPb at h
  split at h
  ·skip
   obtain ⟨t, h1, h2⟩ := qE h
   rw [<- qXt] at h1
   refine ⟨_, qPZ, t, qC, h1, fun e vs' objs' hd => ?_⟩
   unfold qPZ at hd
   split at hd
   ·skip
    cases hd
    exact h2
   ·skip
    cases hd
    exact h2
   ·cases hd
  ·cases h
def qXs : V -> List Obj -> Option (Int) := fun v objs => match v, objs with
 | .s (.i .i8 y0), [] => some (y0)
 | _, _ => none
theorem qkr (x0 : Int) (x1 : Bool) : fnE qLU Tryz.f35 ([.s (.i .i32 x0), .s (.b x1)]) ([]) qXs = qJH x0 x1 := by kernel_rfl
def qXq : HA := fun o vs objs K => match vs, objs with
 | [.s (.i .i32 x0), .s (.b x1)], [] => ob (qJH x0 x1) fun y0 => K false (.s (.i .i8 y0)) ([])
 | _, _ => o 35 vs objs K
def qXv (o : Orc) : Orc := qM 35 (qXq o) o
theorem qku : OQ Tryz.prog qXv := fun _ ho => qP ho fun vs objs K r h => by
 unfold qXq at h
 split at h
 ·skip
  obtain ⟨t, h1, h2⟩ := qE h
  refine qAX mixed qXr (fn := Tryz.f35) (b := (Tryz.f35).body.getD .skip) (by kernel_rfl) (by kernel_rfl) (by kernel_rfl) ((qkr _ _).trans h1) (m := 0) rfl (qT.of (l' := [qG Tryz.f35 6]) (by kernel_rfl) ⟨qkv, trivial⟩) fun v objs' hd => ?_
  unfold qXs at hd;split at hd;(cases hd;exact h2);cases hd
 ·exact ho _ _ _ _ _ h
def qXC : Ctx := mkC 17 ((set_Squareo qL)) [] qV
theorem qjL : CtxOK Tryz.prog qXC := mkC_ok ((set_Squareo_ok _ qN))
def qXD : V -> List Obj -> Option (Int × Bool) := fun v objs => match v, objs with
 | .tup [W.s (.i .i64 y0), W.s (.b y1)], [] => some (y0, y1)
 | _, _ => none
theorem qjK (x0 x1 : Int) : fnE qXC Tryz.f36 ([.s (.i .i32 x0), .s (.i .i32 x1)]) ([]) qXD = qEE x0 x1 := by kernel_rfl
def qXB : HA := fun o vs objs K => match vs, objs with
 | [.s (.i .i32 x0), .s (.i .i32 x1)], [] => ob (qEE x0 x1) fun z => K false (.tup [W.s (.i .i64 (z.1)), W.s (.b (z.2))]) ([])
 | _, _ => o 36 vs objs K
def qXE (o : Orc) : Orc := qM 36 (qXB o) o
theorem qjM : OQ Tryz.prog qXE := fun _ ho => qP ho fun vs objs K r h => by
 unfold qXB at h
 split at h
 ·skip
  obtain ⟨t, h1, h2⟩ := qE h
  refine any0K mixed qjL ((qjK _ _).trans h1) (by kernel_rfl) fun v objs' hd => ?_
  unfold qXD at hd;split at hd;(cases hd;exact h2);cases hd
 ·exact ho _ _ _ _ _ h
def qPD : Ex -> List V -> List Obj -> Option (Nat × Int × Int × Int × Bool × Nat × LI) := fun e vs objs => match e, vs, objs with
 | .exit 0, [.s (.ptr 0 0 none 0), .s (.sl 1 0 y0 true)], [.cells 53 [.one [.i .i64 y1, .i .i64 y2, .i .i64 y3, .b y4]], .sli 21 false (.arr .i32 y5 y6)] => some (y0, y1, y2, y3, y4, y5, y6)
 | _, _, _ => none
def qPF : HL := fun vs objs K => match vs, objs with
 | [.s (.ptr 0 0 none 0), .s (.sl 1 0 x0 true), .s (S.it 2)], [.cells 53 [.one [.i .i64 x1, .i .i64 x2, .i .i64 x3, .b x4]], .sli 21 false (.arr .i32 x5 x6), Obj.iter x7 x8] => ob (qED qC x0 x1 x2 x3 x4 x5 x6 x7 x8) fun z => K (.exit 0) ([.s (.ptr 0 0 none 0), .s (.sl 1 0 (z.1) true)]) ([.cells 53 [.one [.i .i64 (z.2.1), .i .i64 (z.2.2.1), .i .i64 (z.2.2.2.1), .b (z.2.2.2.2.1)]], .sli 21 false (.arr .i32 (z.2.2.2.2.2.1) (z.2.2.2.2.2.2))])
 | _, _ => none
def qjB : {R : Type} -> Nat -> List V -> List Obj -> (Ex -> List V -> List Obj -> Option R) -> Option R := fun q vs objs K => bif Nat.beq q 3 then qPF vs objs K else none
def qLD : Ctx := mkC 127 ((qDc (qXE (qXv qL)))) [(3, [2, 4, 16], [2, 4])] qjB
theorem qWz : CtxOK Tryz.prog qLD := mkC_ok ((qEG _ (qjM _ (qku _ qN))))
def qPE (f : Nat) (x0 : Nat) (x1 x2 x3 : Int) (x4 : Bool) (x5 : Nat) (x6 : LI) (x7 : ByteArray) (x8 : Nat) : Option (Nat × Int × Int × Int × Bool × Nat × LI) := qg qLD 0 [2, 4, 16] [2, 4] (qG Tryz.f11 3) f ([.s (.ptr 0 0 none 0), .s (.sl 1 0 x0 true), .s (S.it 2)]) ([.cells 53 [.one [.i .i64 x1, .i .i64 x2, .i .i64 x3, .b x4]], .sli 21 false (.arr .i32 x5 x6), Obj.iter x7 x8]) qPD
theorem qjA (f : Nat) (x0 : Nat) (x1 x2 x3 : Int) (x4 : Bool) (x5 : Nat) (x6 : LI) (x7 : ByteArray) (x8 : Nat) : qPE (f + 1) x0 x1 x2 x3 x4 x5 x6 x7 x8 = qHY (qPE f) x0 x1 x2 x3 x4 x5 x6 x7 x8 := by kernel_rfl
theorem qW1 : ∀ f, qPE f = qED f
 | 0 => rfl
 | f + 1 => by funext x0 x1 x2 x3 x4 x5 x6 x7 x8; rw [qjA, qW1 f]; rfl
theorem qjD : qe Tryz.prog qLD 0 (qG Tryz.f11 3) :=
 qk mixed qWz (qT.of (l' := []) (by kernel_rfl) trivial) (q := 3) (kin := [2, 4, 16]) (kout := [2, 4]) (by kernel_rfl) (by kernel_rfl) fun vs objs K r h => by
  replace h : qPF vs objs K = some r := h
  unfold qPF at h
  split at h
  ·skip
   obtain ⟨t, h1, h2⟩ := qE h
   rw [<- qW1] at h1
   refine ⟨_, qPD, t, qC, h1, fun e vs' objs' hd => ?_⟩
   unfold qPD at hd;split at hd;(cases hd;exact h2);cases hd
  ·cases h
def qW0 : V -> List Obj -> Option (Int × Int × Int × Bool × Int) := fun v objs => match v, objs with
 | .tup [W.agg [.one [.i .i64 y0, .i .i64 y1, .i .i64 y2, .b y3]], W.s (.i .i64 y4)], [] => some (y0, y1, y2, y3, y4)
 | _, _ => none
theorem qi9 (x0 : ByteArray) : fnE qLD Tryz.f11 ([.s (.str x0)]) ([]) qW0 = qFL x0 := by kernel_rfl
def qWy : HA := fun o vs objs K => match vs, objs with
 | [.s (.str x0)], [] => ob (qFL x0) fun z => K false (.tup [W.agg [.one [.i .i64 (z.1), .i .i64 (z.2.1), .i .i64 (z.2.2.1), .b (z.2.2.2.1)]], W.s (.i .i64 (z.2.2.2.2))]) ([])
 | _, _ => o 11 vs objs K
def qW2 (o : Orc) : Orc := qM 11 (qWy o) o
theorem qjC : OQ Tryz.prog qW2 := fun _ ho => qP ho fun vs objs K r h => by
 unfold qWy at h
 split at h
 ·skip
  obtain ⟨t, h1, h2⟩ := qE h
  refine qAX mixed qWz (fn := Tryz.f11) (b := (Tryz.f11).body.getD .skip) (by kernel_rfl) (by kernel_rfl) (by kernel_rfl) ((qi9 _).trans h1) (m := 0) rfl (qT.of (l' := [qG Tryz.f11 3]) (by kernel_rfl) ⟨qjD, trivial⟩) fun v objs' hd => ?_
  unfold qW0 at hd;split at hd;(cases hd;exact h2);cases hd
 ·exact ho _ _ _ _ _ h
def qT4 : Ctx := mkC 104 ((qJJ (qCO (qDc (qFz (qKF (qPC qL))))))) [] qV
theorem qf3 : CtxOK Tryz.prog qT4 := mkC_ok ((qLX _ (qCh _ (qEG _ (qGp _ (qNJ _ (qWx _ qN)))))))
def qT5 : V -> List Obj -> Option (Bool) := fun v objs => match v, objs with
 | .s (.b y0), [] => some (y0)
 | _, _ => none
theorem qf2 (x0 x1 x2 : Int) (x3 : Bool) (x4 : Int) (x5 : Nat) (x6 x7 : LI) (x8 : Int) (x9 x10 : LL) (x11 : Nat) (x12 : LL) : fnE qT4 Tryz.f38 ([.s (.ptr 0 0 none 0), .agg [.one [.i .i64 x0, .i .i64 x1, .i .i64 x2, .b x3]]]) ([.rcells 43 [.one [.ptr 1 0 none 0, .i .u64 x4, .sl 2 0 x5 true]], .rcells 49 [.arr .i8 81 x6, .arr .i8 16 x7, .one [.i .i8 x8], .rows [.i .u64, .i .u64] 32 x9, .rows [.i .u64, .i .u64] 2 x10], .sli 87 true (.rows [.i .i64, .i .i64, .i .i64, .b, .i .i8, .i .i8] x11 x12)]) (qAZ 3 qT5) = qD3 x0 x1 x2 x3 x4 x5 x6 x7 x8 x9 x10 x11 x12 := by kernel_rfl
def qT3 : HA := fun o vs objs K => match vs, List.map Obj.toRO objs with
 | [.s (.ptr 0 0 none 0), .agg [.one [.i .i64 x0, .i .i64 x1, .i .i64 x2, .b x3]]], [.rcells 43 [.one [.ptr 1 0 none 0, .i .u64 x4, .sl 2 0 x5 true]], .rcells 49 [.arr .i8 81 x6, .arr .i8 16 x7, .one [.i .i8 x8], .rows [.i .u64, .i .u64] 32 x9, .rows [.i .u64, .i .u64] 2 x10], .sli 87 true (.rows [.i .i64, .i .i64, .i .i64, .b, .i .i8, .i .i8] x11 x12)] => ob (qD3 x0 x1 x2 x3 x4 x5 x6 x7 x8 x9 x10 x11 x12) fun y0 => K true (.s (.b y0)) ([])
 | _, _ => o 38 vs objs K
def qT6 (o : Orc) : Orc := qM 38 (qT3 o) o
theorem qf4 : OQ Tryz.prog qT6 := fun _ ho => qP ho fun vs objs K r h => by
 unfold qT3 at h
 split at h
 ·skip
  have hq : List.map Obj.toRO objs = _ := (by rename_i hq; first | exact hq | assumption)
  obtain ⟨t, h1, h2⟩ := qE h
  refine qAh mixed qf3 (m := 3) (fn := Tryz.f38) (b := (Tryz.f38).body.getD .skip) (by kernel_rfl) (by kernel_rfl) (by kernel_rfl) hq (by kernel_rfl) (by kernel_rfl) (qT.of (l' := []) (by kernel_rfl) trivial) ((qf2 _ _ _ _ _ _ _ _ _ _ _ _ _).trans h1) fun v objs' hd => ?_
  unfold qT5 at hd;split at hd;(cases hd;exact h2);cases hd
 ·exact ho _ _ _ _ _ h
def qUK : Ctx := mkC 54 ((qOW (qKF qL))) [] qV
theorem qgF : CtxOK Tryz.prog qUK := mkC_ok ((qVi _ (qNJ _ qN)))
def qUL : V -> List Obj -> Option (Int × Nat × LI × LI × Int × LL × LL × Nat × LL) := fun v objs => match v, objs with
 | .tup [], [.cells 43 [.one [.ptr 1 0 none 0, .i .u64 y0, .sl 2 0 y1 true]], .cells 49 [.arr .i8 81 y2, .arr .i8 16 y3, .one [.i .i8 y4], .rows [.i .u64, .i .u64] 32 y5, .rows [.i .u64, .i .u64] 2 y6], .sli 87 false (.rows [.i .i64, .i .i64, .i .i64, .b, .i .i8, .i .i8] y7 y8)] => some (y0, y1, y2, y3, y4, y5, y6, y7, y8)
 | _, _ => none
theorem qgE (x0 x1 : Int) (x2 x3 : Int) (x4 : Nat) (x5 x6 : LI) (x7 : Int) (x8 x9 : LL) (x10 : Nat) (x11 : LL) : fnE qUK Tryz.f40 ([.s (.ptr 0 0 none 0), .s (.i .i64 x0), .s (.i .i64 x1), .s (.i .i64 x2)]) ([.cells 43 [.one [.ptr 1 0 none 0, .i .u64 x3, .sl 2 0 x4 true]], .cells 49 [.arr .i8 81 x5, .arr .i8 16 x6, .one [.i .i8 x7], .rows [.i .u64, .i .u64] 32 x8, .rows [.i .u64, .i .u64] 2 x9], .sli 87 false (.rows [.i .i64, .i .i64, .i .i64, .b, .i .i8, .i .i8] x10 x11)]) qUL = qDR x0 x1 x2 x3 x4 x5 x6 x7 x8 x9 x10 x11 := by kernel_rfl
def qUJ : HA := fun o vs objs K => match vs, objs with
 | [.s (.ptr 0 0 none 0), .s (.i .i64 x0), .s (.i .i64 x1), .s (.i .i64 x2)], [.cells 43 [.one [.ptr 1 0 none 0, .i .u64 x3, .sl 2 0 x4 true]], .cells 49 [.arr .i8 81 x5, .arr .i8 16 x6, .one [.i .i8 x7], .rows [.i .u64, .i .u64] 32 x8, .rows [.i .u64, .i .u64] 2 x9], .sli 87 false (.rows [.i .i64, .i .i64, .i .i64, .b, .i .i8, .i .i8] x10 x11)] => ob (qDR x0 x1 x2 x3 x4 x5 x6 x7 x8 x9 x10 x11) fun z => K false (.tup []) ([.cells 43 [.one [.ptr 1 0 none 0, .i .u64 (z.1), .sl 2 0 (z.2.1) true]], .cells 49 [.arr .i8 81 (z.2.2.1), .arr .i8 16 (z.2.2.2.1), .one [.i .i8 (z.2.2.2.2.1)], .rows [.i .u64, .i .u64] 32 (z.2.2.2.2.2.1), .rows [.i .u64, .i .u64] 2 (z.2.2.2.2.2.2.1)], .sli 87 false (.rows [.i .i64, .i .i64, .i .i64, .b, .i .i8, .i .i8] (z.2.2.2.2.2.2.2.1) (z.2.2.2.2.2.2.2.2))])
 | _, _ => o 40 vs objs K
def qNv (o : Orc) : Orc := qM 40 (qUJ o) o
theorem qUM : OQ Tryz.prog qNv := fun _ ho => qP ho fun vs objs K r h => by
 unfold qUJ at h
 split at h
 ·skip
  obtain ⟨t, h1, h2⟩ := qE h
  refine any0K mixed qgF ((qgE _ _ _ _ _ _ _ _ _ _ _ _).trans h1) (by kernel_rfl) fun v objs' hd => ?_
  unfold qUL at hd;split at hd;(cases hd;exact h2);cases hd
 ·exact ho _ _ _ _ _ h
def qUO : Ctx := mkC 32 ((qKJ (qOh (qFz qL)))) [] qV
theorem qgH : CtxOK Tryz.prog qUO := mkC_ok ((qNP _ (qVs _ (qGp _ qN))))
def qUP : V -> List Obj -> Option (Int × Nat × LI × LI × Int × LL × LL × Nat × LL) := fun v objs => match v, objs with
 | .tup [], [.cells 43 [.one [.ptr 1 0 none 0, .i .u64 y0, .sl 2 0 y1 true]], .cells 49 [.arr .i8 81 y2, .arr .i8 16 y3, .one [.i .i8 y4], .rows [.i .u64, .i .u64] 32 y5, .rows [.i .u64, .i .u64] 2 y6], .sli 87 false (.rows [.i .i64, .i .i64, .i .i64, .b, .i .i8, .i .i8] y7 y8)] => some (y0, y1, y2, y3, y4, y5, y6, y7, y8)
 | _, _ => none
theorem qgG (x0 x1 x2 : Int) (x3 : Nat) (x4 x5 : LI) (x6 : Int) (x7 x8 : LL) (x9 : Nat) (x10 : LL) : fnE qUO Tryz.f41 ([.s (.ptr 0 0 none 0), .s (.i .i64 x0), .s (.i .i8 x1)]) ([.cells 43 [.one [.ptr 1 0 none 0, .i .u64 x2, .sl 2 0 x3 true]], .cells 49 [.arr .i8 81 x4, .arr .i8 16 x5, .one [.i .i8 x6], .rows [.i .u64, .i .u64] 32 x7, .rows [.i .u64, .i .u64] 2 x8], .sli 87 false (.rows [.i .i64, .i .i64, .i .i64, .b, .i .i8, .i .i8] x9 x10)]) qUP = qB3 x0 x1 x2 x3 x4 x5 x6 x7 x8 x9 x10 := by kernel_rfl
def qUN : HA := fun o vs objs K => match vs, objs with
 | [.s (.ptr 0 0 none 0), .s (.i .i64 x0), .s (.i .i8 x1)], [.cells 43 [.one [.ptr 1 0 none 0, .i .u64 x2, .sl 2 0 x3 true]], .cells 49 [.arr .i8 81 x4, .arr .i8 16 x5, .one [.i .i8 x6], .rows [.i .u64, .i .u64] 32 x7, .rows [.i .u64, .i .u64] 2 x8], .sli 87 false (.rows [.i .i64, .i .i64, .i .i64, .b, .i .i8, .i .i8] x9 x10)] => ob (qB3 x0 x1 x2 x3 x4 x5 x6 x7 x8 x9 x10) fun z => K false (.tup []) ([.cells 43 [.one [.ptr 1 0 none 0, .i .u64 (z.1), .sl 2 0 (z.2.1) true]], .cells 49 [.arr .i8 81 (z.2.2.1), .arr .i8 16 (z.2.2.2.1), .one [.i .i8 (z.2.2.2.2.1)], .rows [.i .u64, .i .u64] 32 (z.2.2.2.2.2.1), .rows [.i .u64, .i .u64] 2 (z.2.2.2.2.2.2.1)], .sli 87 false (.rows [.i .i64, .i .i64, .i .i64, .b, .i .i8, .i .i8] (z.2.2.2.2.2.2.2.1) (z.2.2.2.2.2.2.2.2))])
 | _, _ => o 41 vs objs K
def qNw (o : Orc) : Orc := qM 41 (qUN o) o
theorem qUQ : OQ Tryz.prog qNw := fun _ ho => qP ho fun vs objs K r h => by
 unfold qUN at h
 split at h
 ·skip
  obtain ⟨t, h1, h2⟩ := qE h
  refine any0K mixed qgH ((qgG _ _ _ _ _ _ _ _ _ _ _).trans h1) (by kernel_rfl) fun v objs' hd => ?_
  unfold qUP at hd;split at hd;(cases hd;exact h2);cases hd
 ·exact ho _ _ _ _ _ h
def qUS : Ctx := mkC 26 ((qOi qL)) [] qV
theorem qgJ : CtxOK Tryz.prog qUS := mkC_ok ((qVw _ qN))
def qUT : V -> List Obj -> Option (Int × Nat × LI × LI × Int × LL × LL × Nat × LL) := fun v objs => match v, objs with
 | .tup [], [.cells 43 [.one [.ptr 1 0 none 0, .i .u64 y0, .sl 2 0 y1 true]], .cells 49 [.arr .i8 81 y2, .arr .i8 16 y3, .one [.i .i8 y4], .rows [.i .u64, .i .u64] 32 y5, .rows [.i .u64, .i .u64] 2 y6], .sli 87 false (.rows [.i .i64, .i .i64, .i .i64, .b, .i .i8, .i .i8] y7 y8)] => some (y0, y1, y2, y3, y4, y5, y6, y7, y8)
 | _, _ => none
theorem qgI (x0 : Int) (x1 : Nat) (x2 x3 : LI) (x4 : Int) (x5 x6 : LL) (x7 : Nat) (x8 : LL) : fnE qUS Tryz.f45 ([.s (.ptr 0 0 none 0)]) ([.cells 43 [.one [.ptr 1 0 none 0, .i .u64 x0, .sl 2 0 x1 true]], .cells 49 [.arr .i8 81 x2, .arr .i8 16 x3, .one [.i .i8 x4], .rows [.i .u64, .i .u64] 32 x5, .rows [.i .u64, .i .u64] 2 x6], .sli 87 false (.rows [.i .i64, .i .i64, .i .i64, .b, .i .i8, .i .i8] x7 x8)]) qUT = qCZ x0 x1 x2 x3 x4 x5 x6 x7 x8 := by kernel_rfl
def qUR : HA := fun o vs objs K => match vs, objs with
 | [.s (.ptr 0 0 none 0)], [.cells 43 [.one [.ptr 1 0 none 0, .i .u64 x0, .sl 2 0 x1 true]], .cells 49 [.arr .i8 81 x2, .arr .i8 16 x3, .one [.i .i8 x4], .rows [.i .u64, .i .u64] 32 x5, .rows [.i .u64, .i .u64] 2 x6], .sli 87 false (.rows [.i .i64, .i .i64, .i .i64, .b, .i .i8, .i .i8] x7 x8)] => ob (qCZ x0 x1 x2 x3 x4 x5 x6 x7 x8) fun z => K false (.tup []) ([.cells 43 [.one [.ptr 1 0 none 0, .i .u64 (z.1), .sl 2 0 (z.2.1) true]], .cells 49 [.arr .i8 81 (z.2.2.1), .arr .i8 16 (z.2.2.2.1), .one [.i .i8 (z.2.2.2.2.1)], .rows [.i .u64, .i .u64] 32 (z.2.2.2.2.2.1), .rows [.i .u64, .i .u64] 2 (z.2.2.2.2.2.2.1)], .sli 87 false (.rows [.i .i64, .i .i64, .i .i64, .b, .i .i8, .i .i8] (z.2.2.2.2.2.2.2.1) (z.2.2.2.2.2.2.2.2))])
 | _, _ => o 45 vs objs K
def qNx (o : Orc) : Orc := qM 45 (qUR o) o
theorem qUU : OQ Tryz.prog qNx := fun _ ho => qP ho fun vs objs K r h => by
 unfold qUR at h
 split at h
 ·skip
  obtain ⟨t, h1, h2⟩ := qE h
  refine any0K mixed qgJ ((qgI _ _ _ _ _ _ _ _ _).trans h1) (by kernel_rfl) fun v objs' hd => ?_
  unfold qUT at hd;split at hd;(cases hd;exact h2);cases hd
 ·exact ho _ _ _ _ _ h
def qUG : Ctx := mkC 97 ((qJI (qJJ (qCO (qNx (qNw (qNv (qDb (qFz (qT6 qL)))))))))) [] qV
theorem qgC : CtxOK Tryz.prog qUG := mkC_ok ((qLV _ (qLX _ (qCh _ (qUU _ (qUQ _ (qUM _ (qEF _ (qGp _ (qf4 _ qN))))))))))
def qUH : V -> List Obj -> Option ((Bool × Int × Nat × LI × LI × Int × LL × LL × Nat × LL) ⊕ (Bool × Int × Nat × LI × LI × Int × LL × LL × Nat × LL)) := fun v objs => match v, objs with
 | .s (.b y0), [.cells 43 [.one [.ptr 1 0 none 0, .i .u64 y1, .sl 2 0 y2 true]], .cells 49 [.arr .i8 81 y3, .arr .i8 16 y4, .one [.i .i8 y5], .rows [.i .u64, .i .u64] 32 y6, .rows [.i .u64, .i .u64] 2 y7], .sli 87 false (.rows [.i .i64, .i .i64, .i .i64, .b, .i .i8, .i .i8] y8 y9)] => some (.inl (y0, y1, y2, y3, y4, y5, y6, y7, y8, y9))
 | .s (.b y0), [.cells 43 [.one [.ptr 1 0 none 0, .i .u64 y1, .sl 3 0 y2 true]], .cells 49 [.arr .i8 81 y3, .arr .i8 16 y4, .one [.i .i8 y5], .rows [.i .u64, .i .u64] 32 y6, .rows [.i .u64, .i .u64] 2 y7], Obj.dead, .sli 87 false (.rows [.i .i64, .i .i64, .i .i64, .b, .i .i8, .i .i8] y8 y9)] => some (.inr (y0, y1, y2, y3, y4, y5, y6, y7, y8, y9))
 | _, _ => none
theorem qgB (x0 x1 x2 : Int) (x3 : Bool) (x4 : Int) (x5 : Nat) (x6 x7 : LI) (x8 : Int) (x9 x10 : LL) (x11 : Nat) (x12 : LL) : fnE qUG Tryz.f12 ([.s (.ptr 0 0 none 0), .agg [.one [.i .i64 x0, .i .i64 x1, .i .i64 x2, .b x3]]]) ([.cells 43 [.one [.ptr 1 0 none 0, .i .u64 x4, .sl 2 0 x5 true]], .cells 49 [.arr .i8 81 x6, .arr .i8 16 x7, .one [.i .i8 x8], .rows [.i .u64, .i .u64] 32 x9, .rows [.i .u64, .i .u64] 2 x10], .sli 87 false (.rows [.i .i64, .i .i64, .i .i64, .b, .i .i8, .i .i8] x11 x12)]) qUH = qDQ x0 x1 x2 x3 x4 x5 x6 x7 x8 x9 x10 x11 x12 := by kernel_rfl
def qUF : HA := fun o vs objs K => match vs, objs with
 | [.s (.ptr 0 0 none 0), .agg [.one [.i .i64 x0, .i .i64 x1, .i .i64 x2, .b x3]]], [.cells 43 [.one [.ptr 1 0 none 0, .i .u64 x4, .sl 2 0 x5 true]], .cells 49 [.arr .i8 81 x6, .arr .i8 16 x7, .one [.i .i8 x8], .rows [.i .u64, .i .u64] 32 x9, .rows [.i .u64, .i .u64] 2 x10], .sli 87 false (.rows [.i .i64, .i .i64, .i .i64, .b, .i .i8, .i .i8] x11 x12)] => ob (qDQ x0 x1 x2 x3 x4 x5 x6 x7 x8 x9 x10 x11 x12) fun t0 => sw t0 (fun z => K false (.s (.b (z.1))) ([.cells 43 [.one [.ptr 1 0 none 0, .i .u64 (z.2.1), .sl 2 0 (z.2.2.1) true]], .cells 49 [.arr .i8 81 (z.2.2.2.1), .arr .i8 16 (z.2.2.2.2.1), .one [.i .i8 (z.2.2.2.2.2.1)], .rows [.i .u64, .i .u64] 32 (z.2.2.2.2.2.2.1), .rows [.i .u64, .i .u64] 2 (z.2.2.2.2.2.2.2.1)], .sli 87 false (.rows [.i .i64, .i .i64, .i .i64, .b, .i .i8, .i .i8] (z.2.2.2.2.2.2.2.2.1) (z.2.2.2.2.2.2.2.2.2))])) (fun z => K false (.s (.b (z.1))) ([.cells 43 [.one [.ptr 1 0 none 0, .i .u64 (z.2.1), .sl 3 0 (z.2.2.1) true]], .cells 49 [.arr .i8 81 (z.2.2.2.1), .arr .i8 16 (z.2.2.2.2.1), .one [.i .i8 (z.2.2.2.2.2.1)], .rows [.i .u64, .i .u64] 32 (z.2.2.2.2.2.2.1), .rows [.i .u64, .i .u64] 2 (z.2.2.2.2.2.2.2.1)], Obj.dead, .sli 87 false (.rows [.i .i64, .i .i64, .i .i64, .b, .i .i8, .i .i8] (z.2.2.2.2.2.2.2.2.1) (z.2.2.2.2.2.2.2.2.2))]))
 | _, _ => o 12 vs objs K
def qUI (o : Orc) : Orc := qM 12 (qUF o) o
theorem qgD : OQ Tryz.prog qUI := fun _ ho => qP ho fun vs objs K r h => by
 unfold qUF at h
 split at h
 ·skip
  obtain ⟨t, h1, h2⟩ := qE h
  refine any0K mixed qgC ((qgB _ _ _ _ _ _ _ _ _ _ _ _ _).trans h1) (by kernel_rfl) fun v objs' hd => ?_
  unfold qUH at hd
  split at hd
  ·skip
   cases hd
   exact h2
  ·skip
   cases hd
   exact h2
  ·cases hd
 ·exact ho _ _ _ _ _ h
def qT8 : Ctx := mkC 7 (qL) [] qV
theorem qf6 : CtxOK Tryz.prog qT8 := mkC_ok (qN)
def qT9 : V -> List Obj -> Option (Int) := fun v objs => match v, objs with
 | .s (.i .u64 y0), [] => some (y0)
 | _, _ => none
theorem qf5 (x0 : Int) (x1 : Nat) (x2 x3 : LI) (x4 : Int) (x5 x6 : LL) (x7 : Nat) (x8 : LL) : fnE qT8 Tryz.f13 ([.s (.ptr 0 0 none 0)]) ([.rcells 43 [.one [.ptr 1 0 none 0, .i .u64 x0, .sl 2 0 x1 true]], .rcells 49 [.arr .i8 81 x2, .arr .i8 16 x3, .one [.i .i8 x4], .rows [.i .u64, .i .u64] 32 x5, .rows [.i .u64, .i .u64] 2 x6], .sli 87 true (.rows [.i .i64, .i .i64, .i .i64, .b, .i .i8, .i .i8] x7 x8)]) (qAZ 3 qT9) = qIt x0 x1 x2 x3 x4 x5 x6 x7 x8 := by kernel_rfl
def qT7 : HA := fun o vs objs K => match vs, List.map Obj.toRO objs with
 | [.s (.ptr 0 0 none 0)], [.rcells 43 [.one [.ptr 1 0 none 0, .i .u64 x0, .sl 2 0 x1 true]], .rcells 49 [.arr .i8 81 x2, .arr .i8 16 x3, .one [.i .i8 x4], .rows [.i .u64, .i .u64] 32 x5, .rows [.i .u64, .i .u64] 2 x6], .sli 87 true (.rows [.i .i64, .i .i64, .i .i64, .b, .i .i8, .i .i8] x7 x8)] => ob (qIt x0 x1 x2 x3 x4 x5 x6 x7 x8) fun y0 => K true (.s (.i .u64 y0)) ([])
 | _, _ => o 13 vs objs K
def qUA (o : Orc) : Orc := qM 13 (qT7 o) o
theorem qf7 : OQ Tryz.prog qUA := fun _ ho => qP ho fun vs objs K r h => by
 unfold qT7 at h
 split at h
 ·skip
  have hq : List.map Obj.toRO objs = _ := (by rename_i hq; first | exact hq | assumption)
  obtain ⟨t, h1, h2⟩ := qE h
  refine qAh mixed qf6 (m := 3) (fn := Tryz.f13) (b := (Tryz.f13).body.getD .skip) (by kernel_rfl) (by kernel_rfl) (by kernel_rfl) hq (by kernel_rfl) (by kernel_rfl) (qT.of (l' := []) (by kernel_rfl) trivial) ((qf5 _ _ _ _ _ _ _ _ _).trans h1) fun v objs' hd => ?_
  unfold qT9 at hd;split at hd;(cases hd;exact h2);cases hd
 ·exact ho _ _ _ _ _ h
def qT0 : Ctx := mkC 87 ((qJI (qCO (qNv (qNw (qNx qL)))))) [] qV
theorem qf0 : CtxOK Tryz.prog qT0 := mkC_ok ((qLV _ (qCh _ (qUM _ (qUQ _ (qUU _ qN))))))
def qT1 : V -> List Obj -> Option (Bool × Int × Nat × LI × LI × Int × LL × LL × Nat × LL) := fun v objs => match v, objs with
 | .s (.b y0), [.cells 43 [.one [.ptr 1 0 none 0, .i .u64 y1, .sl 2 0 y2 true]], .cells 49 [.arr .i8 81 y3, .arr .i8 16 y4, .one [.i .i8 y5], .rows [.i .u64, .i .u64] 32 y6, .rows [.i .u64, .i .u64] 2 y7], .sli 87 false (.rows [.i .i64, .i .i64, .i .i64, .b, .i .i8, .i .i8] y8 y9)] => some (y0, y1, y2, y3, y4, y5, y6, y7, y8, y9)
 | _, _ => none
theorem qfz (x0 : Int) (x1 : Nat) (x2 x3 : LI) (x4 : Int) (x5 x6 : LL) (x7 : Nat) (x8 : LL) : fnE qT0 Tryz.f15 ([.s (.ptr 0 0 none 0)]) ([.cells 43 [.one [.ptr 1 0 none 0, .i .u64 x0, .sl 2 0 x1 true]], .cells 49 [.arr .i8 81 x2, .arr .i8 16 x3, .one [.i .i8 x4], .rows [.i .u64, .i .u64] 32 x5, .rows [.i .u64, .i .u64] 2 x6], .sli 87 false (.rows [.i .i64, .i .i64, .i .i64, .b, .i .i8, .i .i8] x7 x8)]) qT1 = qE3 x0 x1 x2 x3 x4 x5 x6 x7 x8 := by kernel_rfl
def qTz : HA := fun o vs objs K => match vs, objs with
 | [.s (.ptr 0 0 none 0)], [.cells 43 [.one [.ptr 1 0 none 0, .i .u64 x0, .sl 2 0 x1 true]], .cells 49 [.arr .i8 81 x2, .arr .i8 16 x3, .one [.i .i8 x4], .rows [.i .u64, .i .u64] 32 x5, .rows [.i .u64, .i .u64] 2 x6], .sli 87 false (.rows [.i .i64, .i .i64, .i .i64, .b, .i .i8, .i .i8] x7 x8)] => ob (qE3 x0 x1 x2 x3 x4 x5 x6 x7 x8) fun z => K false (.s (.b (z.1))) ([.cells 43 [.one [.ptr 1 0 none 0, .i .u64 (z.2.1), .sl 2 0 (z.2.2.1) true]], .cells 49 [.arr .i8 81 (z.2.2.2.1), .arr .i8 16 (z.2.2.2.2.1), .one [.i .i8 (z.2.2.2.2.2.1)], .rows [.i .u64, .i .u64] 32 (z.2.2.2.2.2.2.1), .rows [.i .u64, .i .u64] 2 (z.2.2.2.2.2.2.2.1)], .sli 87 false (.rows [.i .i64, .i .i64, .i .i64, .b, .i .i8, .i .i8] (z.2.2.2.2.2.2.2.2.1) (z.2.2.2.2.2.2.2.2.2))])
 | _, _ => o 15 vs objs K
def qT2 (o : Orc) : Orc := qM 15 (qTz o) o
theorem qf1 : OQ Tryz.prog qT2 := fun _ ho => qP ho fun vs objs K r h => by
 unfold qTz at h
 split at h
 ·skip
  obtain ⟨t, h1, h2⟩ := qE h
  refine any0K mixed qf0 ((qfz _ _ _ _ _ _ _ _ _).trans h1) (by kernel_rfl) fun v objs' hd => ?_
  unfold qT1 at hd;split at hd;(cases hd;exact h2);cases hd
 ·exact ho _ _ _ _ _ h
def qWl : Ctx := mkC 7 ((qOu qL)) [] qV
theorem qit : CtxOK Tryz.prog qWl := mkC_ok ((qWC _ qN))
def qWm : V -> List Obj -> Option (Bool × LI × LI × Int × LL × LL) := fun v objs => match v, objs with
 | .s (.b y0), [.cells 49 [.arr .i8 81 y1, .arr .i8 16 y2, .one [.i .i8 y3], .rows [.i .u64, .i .u64] 32 y4, .rows [.i .u64, .i .u64] 2 y5]] => some (y0, y1, y2, y3, y4, y5)
 | _, _ => none
theorem qis (x0 x1 : LI) (x2 : Int) (x3 x4 : LL) : fnE qWl Tryz.f16 ([.s (.ptr 0 0 none 0)]) ([.cells 49 [.arr .i8 81 x0, .arr .i8 16 x1, .one [.i .i8 x2], .rows [.i .u64, .i .u64] 32 x3, .rows [.i .u64, .i .u64] 2 x4]]) qWm = qHW x0 x1 x2 x3 x4 := by kernel_rfl
def qWk : HA := fun o vs objs K => match vs, objs with
 | [.s (.ptr 0 0 none 0)], [.cells 49 [.arr .i8 81 x0, .arr .i8 16 x1, .one [.i .i8 x2], .rows [.i .u64, .i .u64] 32 x3, .rows [.i .u64, .i .u64] 2 x4]] => ob (qHW x0 x1 x2 x3 x4) fun z => K false (.s (.b (z.1))) ([.cells 49 [.arr .i8 81 (z.2.1), .arr .i8 16 (z.2.2.1), .one [.i .i8 (z.2.2.2.1)], .rows [.i .u64, .i .u64] 32 (z.2.2.2.2.1), .rows [.i .u64, .i .u64] 2 (z.2.2.2.2.2)]])
 | _, _ => o 16 vs objs K
def qWn (o : Orc) : Orc := qM 16 (qWk o) o
theorem qiu : OQ Tryz.prog qWn := fun _ ho => qP ho fun vs objs K r h => by
 unfold qWk at h
 split at h
 ·skip
  obtain ⟨t, h1, h2⟩ := qE h
  refine any0K mixed qit ((qis _ _ _ _ _).trans h1) (by kernel_rfl) fun v objs' hd => ?_
  unfold qWm at hd;split at hd;(cases hd;exact h2);cases hd
 ·exact ho _ _ _ _ _ h
def qUC : Ctx := mkC 8 (qL) [] qV
theorem qf9 : CtxOK Tryz.prog qUC := mkC_ok (qN)
def qUD : V -> List Obj -> Option (Int) := fun v objs => match v, objs with
 | .s (.i .i64 y0), [] => some (y0)
 | _, _ => none
theorem qf8 (x0 : Int) (x1 : Nat) (x2 x3 : LI) (x4 : Int) (x5 x6 : LL) (x7 : Nat) (x8 : LL) : fnE qUC Tryz.f17 ([.s (.ptr 0 0 none 0)]) ([.rcells 43 [.one [.ptr 1 0 none 0, .i .u64 x0, .sl 2 0 x1 true]], .rcells 49 [.arr .i8 81 x2, .arr .i8 16 x3, .one [.i .i8 x4], .rows [.i .u64, .i .u64] 32 x5, .rows [.i .u64, .i .u64] 2 x6], .sli 87 true (.rows [.i .i64, .i .i64, .i .i64, .b, .i .i8, .i .i8] x7 x8)]) (qAZ 3 qUD) = qKV x0 x1 x2 x3 x4 x5 x6 x7 x8 := by kernel_rfl
def qUB : HA := fun o vs objs K => match vs, List.map Obj.toRO objs with
 | [.s (.ptr 0 0 none 0)], [.rcells 43 [.one [.ptr 1 0 none 0, .i .u64 x0, .sl 2 0 x1 true]], .rcells 49 [.arr .i8 81 x2, .arr .i8 16 x3, .one [.i .i8 x4], .rows [.i .u64, .i .u64] 32 x5, .rows [.i .u64, .i .u64] 2 x6], .sli 87 true (.rows [.i .i64, .i .i64, .i .i64, .b, .i .i8, .i .i8] x7 x8)] => ob (qKV x0 x1 x2 x3 x4 x5 x6 x7 x8) fun y0 => K true (.s (.i .i64 y0)) ([])
 | _, _ => o 17 vs objs K
def qUE (o : Orc) : Orc := qM 17 (qUB o) o
theorem qgA : OQ Tryz.prog qUE := fun _ ho => qP ho fun vs objs K r h => by
 unfold qUB at h
 split at h
 ·skip
  have hq : List.map Obj.toRO objs = _ := (by rename_i hq; first | exact hq | assumption)
  obtain ⟨t, h1, h2⟩ := qE h
  refine qAh mixed qf9 (m := 3) (fn := Tryz.f17) (b := (Tryz.f17).body.getD .skip) (by kernel_rfl) (by kernel_rfl) (by kernel_rfl) hq (by kernel_rfl) (by kernel_rfl) (qT.of (l' := []) (by kernel_rfl) trivial) ((qf8 _ _ _ _ _ _ _ _ _).trans h1) fun v objs' hd => ?_
  unfold qUD at hd;split at hd;(cases hd;exact h2);cases hd
 ·exact ho _ _ _ _ _ h
end
end Go.Kk.KkST
