/- Printed by a tool of this project (KkGen): the program's functions come to the plain ones. -/
import Derived.Test.YtbeinkbjmmbloaaGreatDoorKkSTc
namespace Go.Kk.KkST
noncomputable section
open Go.Proofs Go.Kk.Pl
set_option maxRecDepth 100000
set_option maxHeartbeats 4000000
def qQL : Ex -> List V -> List Obj -> Option ((Int) ⊕ (Unit)) := fun e vs objs => match e, vs, objs with
 | .ret, [.s (.i .i64 y0)], [] => some (.inl (y0))
 | .exit 0, [.s .bad], [] => some (.inr ())
 | _, _, _ => none
def qQN : HL := fun vs objs K => match vs, objs with
 | [.s (.i .i64 x0), .s (.ptr 0 0 none 0), .s (.i .i64 x1)], [.cells 28 [.arr .i8 81 x2, .arr .i8 16 x3, .one [.i .i8 x4]]] => ob (qFb qC x0 x1 x2 x3 x4) fun t0 => sw t0 (fun y0 => K (.ret) ([.s (.i .i64 y0)]) ([])) (fun _ => K (.exit 0) ([.s .bad]) ([]))
 | _, _ => none
def qmg : {R : Type} -> Nat -> List V -> List Obj -> (Ex -> List V -> List Obj -> Option R) -> Option R := fun q vs objs K => bif Nat.beq q 2 then qQN vs objs K else none
def qLu : Ctx := mkC 20 (qL) [(2, [1, 2, 5], [4])] qmg
theorem qZp : CtxOK Tryz.prog qLu := mkC_ok (qN)
def qQM (f : Nat) (x0 x1 : Int) (x2 x3 : LI) (x4 : Int) : Option ((Int) ⊕ (Unit)) := qh qLu 0 [1, 2, 5] [4] (qG Tryz.f107 2) f ([.s (.i .i64 x0), .s (.ptr 0 0 none 0), .s (.i .i64 x1)]) ([.cells 28 [.arr .i8 81 x2, .arr .i8 16 x3, .one [.i .i8 x4]]]) qQL
theorem qmf (f : Nat) (x0 x1 : Int) (x2 x3 : LI) (x4 : Int) : qQM (f + 1) x0 x1 x2 x3 x4 = qHw (qQM f) x0 x1 x2 x3 x4 := by kernel_rfl
theorem qZr : ∀ f, qQM f = qFb f
 | 0 => rfl
 | f + 1 => by funext x0 x1 x2 x3 x4; rw [qmf, qZr f]; rfl
theorem qmi : qf Tryz.prog qLu 0 (qG Tryz.f107 2) :=
 ql mixed qZp (qT.of (l' := []) (by kernel_rfl) trivial) (q := 2) (kin := [1, 2, 5]) (kout := [4]) (by kernel_rfl) (by kernel_rfl) fun vs objs K r h => by
  replace h : qQN vs objs K = some r := h
  unfold qQN at h
  split at h
  ·skip
   obtain ⟨t, h1, h2⟩ := qE h
   rw [<- qZr] at h1
   refine ⟨_, qQL, t, qC, h1, fun e vs' objs' hd => ?_⟩
   unfold qQL at hd
   split at hd
   ·skip
    cases hd
    exact h2
   ·skip
    cases hd
    exact h2
   ·cases hd
  ·cases h
def qZq : V -> List Obj -> Option (Int) := fun v objs => match v, objs with
 | .s (.i .i64 y0), [] => some (y0)
 | _, _ => none
theorem qme (x0 x1 : LI) (x2 x3 : Int) : fnE qLu Tryz.f107 ([.agg [.arr .i8 81 x0, .arr .i8 16 x1, .one [.i .i8 x2]], .s (.i .i64 x3)]) ([]) qZq = qJS x0 x1 x2 x3 := by kernel_rfl
def qZo : HA := fun o vs objs K => match vs, objs with
 | [.agg [.arr .i8 81 x0, .arr .i8 16 x1, .one [.i .i8 x2]], .s (.i .i64 x3)], [] => ob (qJS x0 x1 x2 x3) fun y0 => K false (.s (.i .i64 y0)) ([])
 | _, _ => o 107 vs objs K
def qZs (o : Orc) : Orc := qM 107 (qZo o) o
theorem qmh : OQ Tryz.prog qZs := fun _ ho => qP ho fun vs objs K r h => by
 unfold qZo at h
 split at h
 ·skip
  obtain ⟨t, h1, h2⟩ := qE h
  refine qAY mixed qZp (fn := Tryz.f107) (b := (Tryz.f107).body.getD .skip) (by kernel_rfl) (by kernel_rfl) (by kernel_rfl) ((qme _ _ _ _).trans h1) (m := 0) rfl (qT.of (l' := [qG Tryz.f107 2]) (by kernel_rfl) ⟨qmi, trivial⟩) fun v objs' hd => ?_
  unfold qZq at hd;split at hd;(cases hd;exact h2);cases hd
 ·exact ho _ _ _ _ _ h
def qQH : Ex -> List V -> List Obj -> Option ((Bool) ⊕ (Unit)) := fun e vs objs => match e, vs, objs with
 | .ret, [.s (.b y0)], [] => some (.inl (y0))
 | .exit 0, [.s .bad], [] => some (.inr ())
 | _, _, _ => none
def qQK : HL := fun vs objs K => match vs, objs with
 | [.s (.i .i64 x0), .s (.ptr 0 0 none 0), .s (.ptr 1 0 none 0), .s (.i .i64 x1), .s (.i .i64 x2)], [.cells 28 [.arr .i8 81 x3, .arr .i8 16 x4, .one [.i .i8 x5]], .cells 106 [Seg.barr 81 x6]] => ob (qFa qC x0 x1 x2 x3 x4 x5 x6) fun t0 => sw t0 (fun y0 => K (.ret) ([.s (.b y0)]) ([])) (fun _ => K (.exit 0) ([.s .bad]) ([]))
 | _, _ => none
def qmc : {R : Type} -> Nat -> List V -> List Obj -> (Ex -> List V -> List Obj -> Option R) -> Option R := fun q vs objs K => bif Nat.beq q 6 then qQK vs objs K else none
def qLt : Ctx := mkC 39 ((qLp (qFV (qZs (qLs qL))))) [(6, [1, 2, 5, 6, 7], [4])] qmc
theorem qZk : CtxOK Tryz.prog qLt := mkC_ok ((qP8 _ (qGP _ (qmh _ (qQF _ qN)))))
def qQI (f : Nat) (x0 x1 x2 : Int) (x3 x4 : LI) (x5 : Int) (x6 : List Bool) : Option ((Bool) ⊕ (Unit)) := qh qLt 0 [1, 2, 5, 6, 7] [4] (qG Tryz.f80 6) f ([.s (.i .i64 x0), .s (.ptr 0 0 none 0), .s (.ptr 1 0 none 0), .s (.i .i64 x1), .s (.i .i64 x2)]) ([.cells 28 [.arr .i8 81 x3, .arr .i8 16 x4, .one [.i .i8 x5]], .cells 106 [Seg.barr 81 x6]]) qQH
theorem qmb (f : Nat) (x0 x1 x2 : Int) (x3 x4 : LI) (x5 : Int) (x6 : List Bool) : qQI (f + 1) x0 x1 x2 x3 x4 x5 x6 = qHv (qQI f) x0 x1 x2 x3 x4 x5 x6 := by kernel_rfl
theorem qZm : ∀ f, qQI f = qFa f
 | 0 => rfl
 | f + 1 => by funext x0 x1 x2 x3 x4 x5 x6; rw [qmb, qZm f]; rfl
theorem qmd : qf Tryz.prog qLt 0 (qG Tryz.f80 6) :=
 ql mixed qZk (qT.of (l' := []) (by kernel_rfl) trivial) (q := 6) (kin := [1, 2, 5, 6, 7]) (kout := [4]) (by kernel_rfl) (by kernel_rfl) fun vs objs K r h => by
  replace h : qQK vs objs K = some r := h
  unfold qQK at h
  split at h
  ·skip
   obtain ⟨t, h1, h2⟩ := qE h
   rw [<- qZm] at h1
   refine ⟨_, qQH, t, qC, h1, fun e vs' objs' hd => ?_⟩
   unfold qQH at hd
   split at hd
   ·skip
    cases hd
    exact h2
   ·skip
    cases hd
    exact h2
   ·cases hd
  ·cases h
def qZl : V -> List Obj -> Option (Bool) := fun v objs => match v, objs with
 | .s (.b y0), [] => some (y0)
 | _, _ => none
theorem qma (x0 x1 : LI) (x2 x3 : Int) : fnE qLt Tryz.f80 ([.agg [.arr .i8 81 x0, .arr .i8 16 x1, .one [.i .i8 x2]], .s (.i .i64 x3)]) ([]) qZl = qHu x0 x1 x2 x3 := by kernel_rfl
def qZj : HA := fun o vs objs K => match vs, objs with
 | [.agg [.arr .i8 81 x0, .arr .i8 16 x1, .one [.i .i8 x2]], .s (.i .i64 x3)], [] => ob (qHu x0 x1 x2 x3) fun y0 => K false (.s (.b y0)) ([])
 | _, _ => o 80 vs objs K
def qQJ (o : Orc) : Orc := qM 80 (qZj o) o
theorem qZn : OQ Tryz.prog qQJ := fun _ ho => qP ho fun vs objs K r h => by
 unfold qZj at h
 split at h
 ·skip
  obtain ⟨t, h1, h2⟩ := qE h
  refine qAY mixed qZk (fn := Tryz.f80) (b := (Tryz.f80).body.getD .skip) (by kernel_rfl) (by kernel_rfl) (by kernel_rfl) ((qma _ _ _ _).trans h1) (m := 0) rfl (qT.of (l' := [qG Tryz.f80 6]) (by kernel_rfl) ⟨qmd, trivial⟩) fun v objs' hd => ?_
  unfold qZl at hd;split at hd;(cases hd;exact h2);cases hd
 ·exact ho _ _ _ _ _ h
def qaU : Ctx := mkC 13 ((qQJ (qQO qL))) [] qV
theorem qnG : CtxOK Tryz.prog qaU := mkC_ok ((qZn _ (qZw _ qN)))
def qaV : V -> List Obj -> Option (Bool) := fun v objs => match v, objs with
 | .s (.b y0), [] => some (y0)
 | _, _ => none
theorem qnF (x0 x1 : LI) (x2 x3 : Int) (x4 x5 : Int) (x6 : Bool) : fnE qaU Tryz.f78 ([.agg [.arr .i8 81 x0, .arr .i8 16 x1, .one [.i .i8 x2]], .agg [.one [.i .i64 x3, .i .i64 x4, .i .i64 x5, .b x6]]]) ([]) qaV = qH4 x0 x1 x2 x3 x4 x5 x6 := by kernel_rfl
def qaT : HA := fun o vs objs K => match vs, objs with
 | [.agg [.arr .i8 81 x0, .arr .i8 16 x1, .one [.i .i8 x2]], .agg [.one [.i .i64 x3, .i .i64 x4, .i .i64 x5, .b x6]]], [] => ob (qH4 x0 x1 x2 x3 x4 x5 x6) fun y0 => K false (.s (.b y0)) ([])
 | _, _ => o 78 vs objs K
def qQf (o : Orc) : Orc := qM 78 (qaT o) o
theorem qaW : OQ Tryz.prog qQf := fun _ ho => qP ho fun vs objs K r h => by
 unfold qaT at h
 split at h
 ·skip
  obtain ⟨t, h1, h2⟩ := qE h
  refine qc mixed qnG ((qnF _ _ _ _ _ _ _).trans h1) (by kernel_rfl) fun v objs' hd => ?_
  unfold qaV at hd;split at hd;(cases hd;exact h2);cases hd
 ·exact ho _ _ _ _ _ h
def qQg : Ex -> List V -> List Obj -> Option ((Bool) ⊕ (Unit)) := fun e vs objs => match e, vs, objs with
 | .ret, [.s (.b y0)], [] => some (.inl (y0))
 | .exit 0, [.s .bad], [] => some (.inr ())
 | _, _, _ => none
def qQi : HL := fun vs objs K => match vs, objs with
 | [.s (.ptr 0 0 none 0), .s (.sl 1 0 x0 true), .s (.i .i64 x1)], [.cells 28 [.arr .i8 81 x2, .arr .i8 16 x3, .one [.i .i8 x4]], .sli 53 false (.rows [.i .i64, .i .i64, .i .i64, .b] x5 x6)] => ob (qFg qC x0 x1 x2 x3 x4 x5 x6) fun t0 => sw t0 (fun y0 => K (.ret) ([.s (.b y0)]) ([])) (fun _ => K (.exit 0) ([.s .bad]) ([]))
 | _, _ => none
def qnJ : {R : Type} -> Nat -> List V -> List Obj -> (Ex -> List V -> List Obj -> Option R) -> Option R := fun q vs objs K => bif Nat.beq q 3 then qQi vs objs K else none
def qLw : Ctx := mkC 19 ((qQf (qQX qL))) [(3, [1, 3, 4], [2])] qnJ
theorem qaY : CtxOK Tryz.prog qLw := mkC_ok ((qaW _ (qZ7 _ qN)))
def qQh (f : Nat) (x0 : Nat) (x1 : Int) (x2 x3 : LI) (x4 : Int) (x5 : Nat) (x6 : LL) : Option ((Bool) ⊕ (Unit)) := qh qLw 0 [1, 3, 4] [2] (qG Tryz.f81 3) f ([.s (.ptr 0 0 none 0), .s (.sl 1 0 x0 true), .s (.i .i64 x1)]) ([.cells 28 [.arr .i8 81 x2, .arr .i8 16 x3, .one [.i .i8 x4]], .sli 53 false (.rows [.i .i64, .i .i64, .i .i64, .b] x5 x6)]) qQg
theorem qnI (f : Nat) (x0 : Nat) (x1 : Int) (x2 x3 : LI) (x4 : Int) (x5 : Nat) (x6 : LL) : qQh (f + 1) x0 x1 x2 x3 x4 x5 x6 = qH5 (qQh f) x0 x1 x2 x3 x4 x5 x6 := by kernel_rfl
theorem qaa : ∀ f, qQh f = qFg f
 | 0 => rfl
 | f + 1 => by funext x0 x1 x2 x3 x4 x5 x6; rw [qnI, qaa f]; rfl
theorem qnL : qf Tryz.prog qLw 0 (qG Tryz.f81 3) :=
 ql mixed qaY (qT.of (l' := []) (by kernel_rfl) trivial) (q := 3) (kin := [1, 3, 4]) (kout := [2]) (by kernel_rfl) (by kernel_rfl) fun vs objs K r h => by
  replace h : qQi vs objs K = some r := h
  unfold qQi at h
  split at h
  ·skip
   obtain ⟨t, h1, h2⟩ := qE h
   rw [<- qaa] at h1
   refine ⟨_, qQg, t, qC, h1, fun e vs' objs' hd => ?_⟩
   unfold qQg at hd
   split at hd
   ·skip
    cases hd
    exact h2
   ·skip
    cases hd
    exact h2
   ·cases hd
  ·cases h
def qaZ : V -> List Obj -> Option (Bool) := fun v objs => match v, objs with
 | .s (.b y0), [] => some (y0)
 | _, _ => none
theorem qnH (x0 x1 : LI) (x2 : Int) : fnE qLw Tryz.f81 ([.agg [.arr .i8 81 x0, .arr .i8 16 x1, .one [.i .i8 x2]]]) ([]) qaZ = qJZ x0 x1 x2 := by kernel_rfl
def qaX : HA := fun o vs objs K => match vs, objs with
 | [.agg [.arr .i8 81 x0, .arr .i8 16 x1, .one [.i .i8 x2]]], [] => ob (qJZ x0 x1 x2) fun y0 => K false (.s (.b y0)) ([])
 | _, _ => o 81 vs objs K
def qab (o : Orc) : Orc := qM 81 (qaX o) o
theorem qnK : OQ Tryz.prog qab := fun _ ho => qP ho fun vs objs K r h => by
 unfold qaX at h
 split at h
 ·skip
  obtain ⟨t, h1, h2⟩ := qE h
  refine qAY mixed qaY (fn := Tryz.f81) (b := (Tryz.f81).body.getD .skip) (by kernel_rfl) (by kernel_rfl) (by kernel_rfl) ((qnH _ _ _).trans h1) (m := 0) rfl (qT.of (l' := [qG Tryz.f81 3]) (by kernel_rfl) ⟨qnL, trivial⟩) fun v objs' hd => ?_
  unfold qaZ at hd;split at hd;(cases hd;exact h2);cases hd
 ·exact ho _ _ _ _ _ h
def qaQ : Ctx := mkC 27 ((qab (qQJ (qQO (qQf qL))))) [] qV
theorem qnD : CtxOK Tryz.prog qaQ := mkC_ok ((qnK _ (qZn _ (qZw _ (qaW _ qN)))))
def qaR : V -> List Obj -> Option (Bool) := fun v objs => match v, objs with
 | .s (.b y0), [] => some (y0)
 | _, _ => none
theorem qnC (x0 x1 : LI) (x2 x3 : Int) (x4 x5 : Int) (x6 : Bool) : fnE qaQ Tryz.f31 ([.agg [.arr .i8 81 x0, .arr .i8 16 x1, .one [.i .i8 x2]], .agg [.one [.i .i64 x3, .i .i64 x4, .i .i64 x5, .b x6]]]) ([]) qaR = qJY x0 x1 x2 x3 x4 x5 x6 := by kernel_rfl
def qaP : HA := fun o vs objs K => match vs, objs with
 | [.agg [.arr .i8 81 x0, .arr .i8 16 x1, .one [.i .i8 x2]], .agg [.one [.i .i64 x3, .i .i64 x4, .i .i64 x5, .b x6]]], [] => ob (qJY x0 x1 x2 x3 x4 x5 x6) fun y0 => K false (.s (.b y0)) ([])
 | _, _ => o 31 vs objs K
def qaS (o : Orc) : Orc := qM 31 (qaP o) o
theorem qnE : OQ Tryz.prog qaS := fun _ ho => qP ho fun vs objs K r h => by
 unfold qaP at h
 split at h
 ·skip
  obtain ⟨t, h1, h2⟩ := qE h
  refine qc mixed qnD ((qnC _ _ _ _ _ _ _).trans h1) (by kernel_rfl) fun v objs' hd => ?_
  unfold qaR at hd;split at hd;(cases hd;exact h2);cases hd
 ·exact ho _ _ _ _ _ h
def qQc : Ex -> List V -> List Obj -> Option (Nat × Nat × LL) := fun e vs objs => match e, vs, objs with
 | .exit 0, [.s (.sl 0 0 y0 true)], [.sli 53 false (.rows [.i .i64, .i .i64, .i .i64, .b] y1 y2)] => some (y0, y1, y2)
 | _, _, _ => none
def qQe : HL := fun vs objs K => match vs, objs with
 | [.s (.ptr 0 0 none 0), .s (.sl 1 0 x0 true), .s (.sl 2 0 x1 true), .s (.i .i64 x2)], [.cells 28 [.arr .i8 81 x3, .arr .i8 16 x4, .one [.i .i8 x5]], .sli 53 false (.rows [.i .i64, .i .i64, .i .i64, .b] x6 x7), .sli 53 false (.rows [.i .i64, .i .i64, .i .i64, .b] x8 x9)] => ob (qFf qC x0 x1 x2 x3 x4 x5 x6 x7 x8 x9) fun z => K (.exit 0) ([.s (.sl 0 0 (z.1) true)]) ([.sli 53 false (.rows [.i .i64, .i .i64, .i .i64, .b] (z.2.1) (z.2.2))])
 | _, _ => none
def qm9 : {R : Type} -> Nat -> List V -> List Obj -> (Ex -> List V -> List Obj -> Option R) -> Option R := fun q vs objs K => bif Nat.beq q 4 then qQe vs objs K else none
def qLv : Ctx := mkC 28 ((qaS (qQX qL))) [(4, [1, 3, 4, 5], [3])] qm9
theorem qaL : CtxOK Tryz.prog qLv := mkC_ok ((qnE _ (qZ7 _ qN)))
def qQd (f : Nat) (x0 x1 : Nat) (x2 : Int) (x3 x4 : LI) (x5 : Int) (x6 : Nat) (x7 : LL) (x8 : Nat) (x9 : LL) : Option (Nat × Nat × LL) := qh qLv 0 [1, 3, 4, 5] [3] (qG Tryz.f9 4) f ([.s (.ptr 0 0 none 0), .s (.sl 1 0 x0 true), .s (.sl 2 0 x1 true), .s (.i .i64 x2)]) ([.cells 28 [.arr .i8 81 x3, .arr .i8 16 x4, .one [.i .i8 x5]], .sli 53 false (.rows [.i .i64, .i .i64, .i .i64, .b] x6 x7), .sli 53 false (.rows [.i .i64, .i .i64, .i .i64, .b] x8 x9)]) qQc
theorem qm8 (f : Nat) (x0 x1 : Nat) (x2 : Int) (x3 x4 : LI) (x5 : Int) (x6 : Nat) (x7 : LL) (x8 : Nat) (x9 : LL) : qQd (f + 1) x0 x1 x2 x3 x4 x5 x6 x7 x8 x9 = qH3 (qQd f) x0 x1 x2 x3 x4 x5 x6 x7 x8 x9 := by kernel_rfl
theorem qaN : ∀ f, qQd f = qFf f
 | 0 => rfl
 | f + 1 => by funext x0 x1 x2 x3 x4 x5 x6 x7 x8 x9; rw [qm8, qaN f]; rfl
theorem qnB : qf Tryz.prog qLv 0 (qG Tryz.f9 4) :=
 ql mixed qaL (qT.of (l' := []) (by kernel_rfl) trivial) (q := 4) (kin := [1, 3, 4, 5]) (kout := [3]) (by kernel_rfl) (by kernel_rfl) fun vs objs K r h => by
  replace h : qQe vs objs K = some r := h
  unfold qQe at h
  split at h
  ·skip
   obtain ⟨t, h1, h2⟩ := qE h
   rw [<- qaN] at h1
   refine ⟨_, qQc, t, qC, h1, fun e vs' objs' hd => ?_⟩
   unfold qQc at hd;split at hd;(cases hd;exact h2);cases hd
  ·cases h
def qaM : V -> List Obj -> Option (Nat × Nat × LL) := fun v objs => match v, objs with
 | .s (.sl 0 0 y0 true), [.sli 53 false (.rows [.i .i64, .i .i64, .i .i64, .b] y1 y2)] => some (y0, y1, y2)
 | _, _ => none
theorem qm7 (x0 x1 : LI) (x2 : Int) : fnE qLv Tryz.f9 ([.agg [.arr .i8 81 x0, .arr .i8 16 x1, .one [.i .i8 x2]]]) ([]) qaM = qJX x0 x1 x2 := by kernel_rfl
def qaK : HA := fun o vs objs K => match vs, objs with
 | [.agg [.arr .i8 81 x0, .arr .i8 16 x1, .one [.i .i8 x2]]], [] => ob (qJX x0 x1 x2) fun z => K false (.s (.sl 0 0 (z.1) true)) ([.sli 53 false (.rows [.i .i64, .i .i64, .i .i64, .b] (z.2.1) (z.2.2))])
 | _, _ => o 9 vs objs K
def qaO (o : Orc) : Orc := qM 9 (qaK o) o
theorem qnA : OQ Tryz.prog qaO := fun _ ho => qP ho fun vs objs K r h => by
 unfold qaK at h
 split at h
 ·skip
  obtain ⟨t, h1, h2⟩ := qE h
  refine qAY mixed qaL (fn := Tryz.f9) (b := (Tryz.f9).body.getD .skip) (by kernel_rfl) (by kernel_rfl) (by kernel_rfl) ((qm7 _ _ _).trans h1) (m := 0) rfl (qT.of (l' := [qG Tryz.f9 4]) (by kernel_rfl) ⟨qnB, trivial⟩) fun v objs' hd => ?_
  unfold qaM at hd;split at hd;(cases hd;exact h2);cases hd
 ·exact ho _ _ _ _ _ h
def qWw : Ctx := mkC 48 (qL) [] qV
theorem qi9 : CtxOK Tryz.prog qWw := mkC_ok (qN)
def qWx : V -> List Obj -> Option (Int) := fun v objs => match v, objs with
 | .s (.i .i64 y0), [] => some (y0)
 | _, _ => none
theorem qi8 (x0 x1 x2 : Int) (x3 : Bool) : fnE qWw Tryz.f32 ([.agg [.one [.i .i64 x0, .i .i64 x1, .i .i64 x2, .b x3]]]) ([]) qWx = qDc x0 x1 x2 x3 := by kernel_rfl
def qWv : HA := fun o vs objs K => match vs, objs with
 | [.agg [.one [.i .i64 x0, .i .i64 x1, .i .i64 x2, .b x3]]], [] => ob (qDc x0 x1 x2 x3) fun y0 => K false (.s (.i .i64 y0)) ([])
 | _, _ => o 32 vs objs K
def qPE (o : Orc) : Orc := qM 32 (qWv o) o
theorem qWy : OQ Tryz.prog qPE := fun _ ho => qP ho fun vs objs K r h => by
 unfold qWv at h
 split at h
 ·skip
  obtain ⟨t, h1, h2⟩ := qE h
  refine qc mixed qi9 ((qi8 _ _ _ _).trans h1) (by kernel_rfl) fun v objs' hd => ?_
  unfold qWx at hd;split at hd;(cases hd;exact h2);cases hd
 ·exact ho _ _ _ _ _ h
def qXl : Ctx := mkC 25 ((qDe (qJJ (qCP qL)))) [] qV
theorem qko : CtxOK Tryz.prog qXl := mkC_ok ((qEH _ (qLW _ (qCi _ qN))))
def qXm : V -> List Obj -> Option (ByteArray) := fun v objs => match v, objs with
 | .s (.str y0), [] => some (y0)
 | _, _ => none
theorem qkn (x0 : Int) : fnE qXl Tryz.f33 ([.s (.i .i8 x0)]) ([]) qXm = qLU x0 := by kernel_rfl
def qXk : HA := fun o vs objs K => match vs, objs with
 | [.s (.i .i8 x0)], [] => ob (qLU x0) fun y0 => K false (.s (.str y0)) ([])
 | _, _ => o 33 vs objs K
def qXn (o : Orc) : Orc := qM 33 (qXk o) o
theorem qkp : OQ Tryz.prog qXn := fun _ ho => qP ho fun vs objs K r h => by
 unfold qXk at h
 split at h
 ·skip
  obtain ⟨t, h1, h2⟩ := qE h
  refine qc mixed qko ((qkn _).trans h1) (by kernel_rfl) fun v objs' hd => ?_
  unfold qXm at hd;split at hd;(cases hd;exact h2);cases hd
 ·exact ho _ _ _ _ _ h
def qW5 : Ctx := mkC 19 ((qME (qL8 qL))) [] qV
theorem qjG : CtxOK Tryz.prog qW5 := mkC_ok ((qRA _ (qQ0 _ qN)))
def qW6 : V -> List Obj -> Option (ByteArray) := fun v objs => match v, objs with
 | .s (.str y0), [] => some (y0)
 | _, _ => none
theorem qjF (x0 : Int) : fnE qW5 Tryz.f34 ([.s (.i .i64 x0)]) ([]) qW6 = qFO x0 := by kernel_rfl
def qW4 : HA := fun o vs objs K => match vs, objs with
 | [.s (.i .i64 x0)], [] => ob (qFO x0) fun y0 => K false (.s (.str y0)) ([])
 | _, _ => o 34 vs objs K
def qW7 (o : Orc) : Orc := qM 34 (qW4 o) o
theorem qjH : OQ Tryz.prog qW7 := fun _ ho => qP ho fun vs objs K r h => by
 unfold qW4 at h
 split at h
 ·skip
  obtain ⟨t, h1, h2⟩ := qE h
  refine qc mixed qjG ((qjF _).trans h1) (by kernel_rfl) fun v objs' hd => ?_
  unfold qW6 at hd;split at hd;(cases hd;exact h2);cases hd
 ·exact ho _ _ _ _ _ h
def qW9 : Ctx := mkC 38 ((qW7 (qXn (qDd (qPE qL))))) [] qV
theorem qjJ : CtxOK Tryz.prog qW9 := mkC_ok ((qjH _ (qkp _ (qEG _ (qWy _ qN)))))
def qXA : V -> List Obj -> Option (ByteArray) := fun v objs => match v, objs with
 | .s (.str y0), [] => some (y0)
 | _, _ => none
theorem qjI (x0 x1 x2 : Int) (x3 : Bool) : fnE qW9 Tryz.f10 ([.agg [.one [.i .i64 x0, .i .i64 x1, .i .i64 x2, .b x3]]]) ([]) qXA = qHa x0 x1 x2 x3 := by kernel_rfl
def qW8 : HA := fun o vs objs K => match vs, objs with
 | [.agg [.one [.i .i64 x0, .i .i64 x1, .i .i64 x2, .b x3]]], [] => ob (qHa x0 x1 x2 x3) fun y0 => K false (.s (.str y0)) ([])
 | _, _ => o 10 vs objs K
def qXB (o : Orc) : Orc := qM 10 (qW8 o) o
theorem qjK : OQ Tryz.prog qXB := fun _ ho => qP ho fun vs objs K r h => by
 unfold qW8 at h
 split at h
 ·skip
  obtain ⟨t, h1, h2⟩ := qE h
  refine qc mixed qjJ ((qjI _ _ _ _).trans h1) (by kernel_rfl) fun v objs' hd => ?_
  unfold qXA at hd;split at hd;(cases hd;exact h2);cases hd
 ·exact ho _ _ _ _ _ h
def qPb : Ex -> List V -> List Obj -> Option ((Int) ⊕ (Unit)) := fun e vs objs => match e, vs, objs with
 | .ret, [.s (.i .i8 y0)], [] => some (.inl (y0))
 | .exit 0, [.s .bad], [] => some (.inr ())
 | _, _, _ => none
def qPd : HL := fun vs objs K => match vs, objs with
 | [.s (.i .i32 x0), .s (.b x1), .s (.i .i64 x2), .s (S.it 0)], [Obj.iter x3 x4] => ob (qHe qC x0 x1 x2 x3 x4) fun t0 => sw t0 (fun y0 => K (.ret) ([.s (.i .i8 y0)]) ([])) (fun _ => K (.exit 0) ([.s .bad]) ([]))
 | _, _ => none
def qku : {R : Type} -> Nat -> List V -> List Obj -> (Ex -> List V -> List Obj -> Option R) -> Option R := fun q vs objs K => bif Nat.beq q 6 then qPd vs objs K else none
def qLV : Ctx := mkC 34 ((qDd (qJK qL))) [(6, [0, 1, 5, 16], [4])] qku
theorem qXs : CtxOK Tryz.prog qLV := mkC_ok ((qEG _ (qLY _ qN)))
def qPc (f : Nat) (x0 : Int) (x1 : Bool) (x2 : Int) (x3 : ByteArray) (x4 : Nat) : Option ((Int) ⊕ (Unit)) := qh qLV 0 [0, 1, 5, 16] [4] (qG Tryz.f35 6) f ([.s (.i .i32 x0), .s (.b x1), .s (.i .i64 x2), .s (S.it 0)]) ([Obj.iter x3 x4]) qPb
theorem qkt (f : Nat) (x0 : Int) (x1 : Bool) (x2 : Int) (x3 : ByteArray) (x4 : Nat) : qPc (f + 1) x0 x1 x2 x3 x4 = qXv (qPc f) x0 x1 x2 x3 x4 := by kernel_rfl
theorem qXu : ∀ f, qPc f = qHe f
 | 0 => rfl
 | f + 1 => by funext x0 x1 x2 x3 x4; rw [qkt, qXu f]; rfl
theorem qkw : qf Tryz.prog qLV 0 (qG Tryz.f35 6) :=
 ql mixed qXs (qT.of (l' := []) (by kernel_rfl) trivial) (q := 6) (kin := [0, 1, 5, 16]) (kout := [4]) (by kernel_rfl) (by kernel_rfl) fun vs objs K r h => by
  replace h : qPd vs objs K = some r := h
  unfold qPd at h
  split at h
  ·skip
   obtain ⟨t, h1, h2⟩ := qE h
   rw [<- qXu] at h1
   refine ⟨_, qPb, t, qC, h1, fun e vs' objs' hd => ?_⟩
   unfold qPb at hd
   split at hd
   ·skip
    cases hd
    exact h2
   ·skip
    cases hd
    exact h2
   ·cases hd
  ·cases h
def qXt : V -> List Obj -> Option (Int) := fun v objs => match v, objs with
 | .s (.i .i8 y0), [] => some (y0)
 | _, _ => none
theorem qks (x0 : Int) (x1 : Bool) : fnE qLV Tryz.f35 ([.s (.i .i32 x0), .s (.b x1)]) ([]) qXt = qJI x0 x1 := by kernel_rfl
def qXr : HA := fun o vs objs K => match vs, objs with
 | [.s (.i .i32 x0), .s (.b x1)], [] => ob (qJI x0 x1) fun y0 => K false (.s (.i .i8 y0)) ([])
 | _, _ => o 35 vs objs K
def qXw (o : Orc) : Orc := qM 35 (qXr o) o
theorem qkv : OQ Tryz.prog qXw := fun _ ho => qP ho fun vs objs K r h => by
 unfold qXr at h
 split at h
 ·skip
  obtain ⟨t, h1, h2⟩ := qE h
  refine qAY mixed qXs (fn := Tryz.f35) (b := (Tryz.f35).body.getD .skip) (by kernel_rfl) (by kernel_rfl) (by kernel_rfl) ((qks _ _).trans h1) (m := 0) rfl (qT.of (l' := [qG Tryz.f35 6]) (by kernel_rfl) ⟨qkw, trivial⟩) fun v objs' hd => ?_
  unfold qXt at hd;split at hd;(cases hd;exact h2);cases hd
 ·exact ho _ _ _ _ _ h
def qXD : Ctx := mkC 17 ((set_Squareo qL)) [] qV
theorem qjM : CtxOK Tryz.prog qXD := mkC_ok ((set_Squareo_ok _ qN))
def qXE : V -> List Obj -> Option (Int × Bool) := fun v objs => match v, objs with
 | .tup [W.s (.i .i64 y0), W.s (.b y1)], [] => some (y0, y1)
 | _, _ => none
theorem qjL (x0 x1 : Int) : fnE qXD Tryz.f36 ([.s (.i .i32 x0), .s (.i .i32 x1)]) ([]) qXE = qEF x0 x1 := by kernel_rfl
def qXC : HA := fun o vs objs K => match vs, objs with
 | [.s (.i .i32 x0), .s (.i .i32 x1)], [] => ob (qEF x0 x1) fun z => K false (.tup [W.s (.i .i64 (z.1)), W.s (.b (z.2))]) ([])
 | _, _ => o 36 vs objs K
def qXF (o : Orc) : Orc := qM 36 (qXC o) o
theorem qjN : OQ Tryz.prog qXF := fun _ ho => qP ho fun vs objs K r h => by
 unfold qXC at h
 split at h
 ·skip
  obtain ⟨t, h1, h2⟩ := qE h
  refine qc mixed qjM ((qjL _ _).trans h1) (by kernel_rfl) fun v objs' hd => ?_
  unfold qXE at hd;split at hd;(cases hd;exact h2);cases hd
 ·exact ho _ _ _ _ _ h
def qPF : Ex -> List V -> List Obj -> Option (Nat × Int × Int × Int × Bool × Nat × LI) := fun e vs objs => match e, vs, objs with
 | .exit 0, [.s (.ptr 0 0 none 0), .s (.sl 1 0 y0 true)], [.cells 53 [.one [.i .i64 y1, .i .i64 y2, .i .i64 y3, .b y4]], .sli 21 false (.arr .i32 y5 y6)] => some (y0, y1, y2, y3, y4, y5, y6)
 | _, _, _ => none
def qPH : HL := fun vs objs K => match vs, objs with
 | [.s (.ptr 0 0 none 0), .s (.sl 1 0 x0 true), .s (S.it 2)], [.cells 53 [.one [.i .i64 x1, .i .i64 x2, .i .i64 x3, .b x4]], .sli 21 false (.arr .i32 x5 x6), Obj.iter x7 x8] => ob (qEE qC x0 x1 x2 x3 x4 x5 x6 x7 x8) fun z => K (.exit 0) ([.s (.ptr 0 0 none 0), .s (.sl 1 0 (z.1) true)]) ([.cells 53 [.one [.i .i64 (z.2.1), .i .i64 (z.2.2.1), .i .i64 (z.2.2.2.1), .b (z.2.2.2.2.1)]], .sli 21 false (.arr .i32 (z.2.2.2.2.2.1) (z.2.2.2.2.2.2))])
 | _, _ => none
def qjC : {R : Type} -> Nat -> List V -> List Obj -> (Ex -> List V -> List Obj -> Option R) -> Option R := fun q vs objs K => bif Nat.beq q 3 then qPH vs objs K else none
def qLE : Ctx := mkC 127 ((qDe (qXF (qXw qL)))) [(3, [2, 4, 16], [2, 4])] qjC
theorem qW0 : CtxOK Tryz.prog qLE := mkC_ok ((qEH _ (qjN _ (qkv _ qN))))
def qPG (f : Nat) (x0 : Nat) (x1 x2 x3 : Int) (x4 : Bool) (x5 : Nat) (x6 : LI) (x7 : ByteArray) (x8 : Nat) : Option (Nat × Int × Int × Int × Bool × Nat × LI) := qh qLE 0 [2, 4, 16] [2, 4] (qG Tryz.f11 3) f ([.s (.ptr 0 0 none 0), .s (.sl 1 0 x0 true), .s (S.it 2)]) ([.cells 53 [.one [.i .i64 x1, .i .i64 x2, .i .i64 x3, .b x4]], .sli 21 false (.arr .i32 x5 x6), Obj.iter x7 x8]) qPF
theorem qjB (f : Nat) (x0 : Nat) (x1 x2 x3 : Int) (x4 : Bool) (x5 : Nat) (x6 : LI) (x7 : ByteArray) (x8 : Nat) : qPG (f + 1) x0 x1 x2 x3 x4 x5 x6 x7 x8 = qHZ (qPG f) x0 x1 x2 x3 x4 x5 x6 x7 x8 := by kernel_rfl
theorem qW2 : ∀ f, qPG f = qEE f
 | 0 => rfl
 | f + 1 => by funext x0 x1 x2 x3 x4 x5 x6 x7 x8; rw [qjB, qW2 f]; rfl
theorem qjE : qf Tryz.prog qLE 0 (qG Tryz.f11 3) :=
 ql mixed qW0 (qT.of (l' := []) (by kernel_rfl) trivial) (q := 3) (kin := [2, 4, 16]) (kout := [2, 4]) (by kernel_rfl) (by kernel_rfl) fun vs objs K r h => by
  replace h : qPH vs objs K = some r := h
  unfold qPH at h
  split at h
  ·skip
   obtain ⟨t, h1, h2⟩ := qE h
   rw [<- qW2] at h1
   refine ⟨_, qPF, t, qC, h1, fun e vs' objs' hd => ?_⟩
   unfold qPF at hd;split at hd;(cases hd;exact h2);cases hd
  ·cases h
def qW1 : V -> List Obj -> Option (Int × Int × Int × Bool × Int) := fun v objs => match v, objs with
 | .tup [W.agg [.one [.i .i64 y0, .i .i64 y1, .i .i64 y2, .b y3]], W.s (.i .i64 y4)], [] => some (y0, y1, y2, y3, y4)
 | _, _ => none
theorem qjA (x0 : ByteArray) : fnE qLE Tryz.f11 ([.s (.str x0)]) ([]) qW1 = qFN x0 := by kernel_rfl
def qWz : HA := fun o vs objs K => match vs, objs with
 | [.s (.str x0)], [] => ob (qFN x0) fun z => K false (.tup [W.agg [.one [.i .i64 (z.1), .i .i64 (z.2.1), .i .i64 (z.2.2.1), .b (z.2.2.2.1)]], W.s (.i .i64 (z.2.2.2.2))]) ([])
 | _, _ => o 11 vs objs K
def qW3 (o : Orc) : Orc := qM 11 (qWz o) o
theorem qjD : OQ Tryz.prog qW3 := fun _ ho => qP ho fun vs objs K r h => by
 unfold qWz at h
 split at h
 ·skip
  obtain ⟨t, h1, h2⟩ := qE h
  refine qAY mixed qW0 (fn := Tryz.f11) (b := (Tryz.f11).body.getD .skip) (by kernel_rfl) (by kernel_rfl) (by kernel_rfl) ((qjA _).trans h1) (m := 0) rfl (qT.of (l' := [qG Tryz.f11 3]) (by kernel_rfl) ⟨qjE, trivial⟩) fun v objs' hd => ?_
  unfold qW1 at hd;split at hd;(cases hd;exact h2);cases hd
 ·exact ho _ _ _ _ _ h
def qT5 : Ctx := mkC 104 ((qJK (qCP (qDe (qF0 (qKG (qPE qL))))))) [] qV
theorem qf4 : CtxOK Tryz.prog qT5 := mkC_ok ((qLY _ (qCi _ (qEH _ (qGq _ (qNL _ (qWy _ qN)))))))
def qT6 : V -> List Obj -> Option (Bool) := fun v objs => match v, objs with
 | .s (.b y0), [] => some (y0)
 | _, _ => none
theorem qf3 (x0 x1 x2 : Int) (x3 : Bool) (x4 : Int) (x5 : Nat) (x6 x7 : LI) (x8 : Int) (x9 x10 : LL) (x11 : Nat) (x12 : LL) : fnE qT5 Tryz.f38 ([.s (.ptr 0 0 none 0), .agg [.one [.i .i64 x0, .i .i64 x1, .i .i64 x2, .b x3]]]) ([.rcells 43 [.one [.ptr 1 0 none 0, .i .u64 x4, .sl 2 0 x5 true]], .rcells 49 [.arr .i8 81 x6, .arr .i8 16 x7, .one [.i .i8 x8], .rows [.i .u64, .i .u64] 32 x9, .rows [.i .u64, .i .u64] 2 x10], .sli 87 true (.rows [.i .i64, .i .i64, .i .i64, .b, .i .i8, .i .i8] x11 x12)]) (qAa 3 qT6) = qD4 x0 x1 x2 x3 x4 x5 x6 x7 x8 x9 x10 x11 x12 := by kernel_rfl
def qT4 : HA := fun o vs objs K => match vs, List.map Obj.toRO objs with
 | [.s (.ptr 0 0 none 0), .agg [.one [.i .i64 x0, .i .i64 x1, .i .i64 x2, .b x3]]], [.rcells 43 [.one [.ptr 1 0 none 0, .i .u64 x4, .sl 2 0 x5 true]], .rcells 49 [.arr .i8 81 x6, .arr .i8 16 x7, .one [.i .i8 x8], .rows [.i .u64, .i .u64] 32 x9, .rows [.i .u64, .i .u64] 2 x10], .sli 87 true (.rows [.i .i64, .i .i64, .i .i64, .b, .i .i8, .i .i8] x11 x12)] => ob (qD4 x0 x1 x2 x3 x4 x5 x6 x7 x8 x9 x10 x11 x12) fun y0 => K true (.s (.b y0)) ([])
 | _, _ => o 38 vs objs K
def qT7 (o : Orc) : Orc := qM 38 (qT4 o) o
theorem qf5 : OQ Tryz.prog qT7 := fun _ ho => qP ho fun vs objs K r h => by
 unfold qT4 at h
 split at h
 ·skip
  have hq : List.map Obj.toRO objs = _ := (by rename_i hq; first | exact hq | assumption)
  obtain ⟨t, h1, h2⟩ := qE h
  refine qAi mixed qf4 (m := 3) (fn := Tryz.f38) (b := (Tryz.f38).body.getD .skip) (by kernel_rfl) (by kernel_rfl) (by kernel_rfl) hq (by kernel_rfl) (by kernel_rfl) (qT.of (l' := []) (by kernel_rfl) trivial) ((qf3 _ _ _ _ _ _ _ _ _ _ _ _ _).trans h1) fun v objs' hd => ?_
  unfold qT6 at hd;split at hd;(cases hd;exact h2);cases hd
 ·exact ho _ _ _ _ _ h
def qUL : Ctx := mkC 54 ((qOY (qKG qL))) [] qV
theorem qgG : CtxOK Tryz.prog qUL := mkC_ok ((qVj _ (qNL _ qN)))
def qUM : V -> List Obj -> Option (Int × Nat × LI × LI × Int × LL × LL × Nat × LL) := fun v objs => match v, objs with
 | .tup [], [.cells 43 [.one [.ptr 1 0 none 0, .i .u64 y0, .sl 2 0 y1 true]], .cells 49 [.arr .i8 81 y2, .arr .i8 16 y3, .one [.i .i8 y4], .rows [.i .u64, .i .u64] 32 y5, .rows [.i .u64, .i .u64] 2 y6], .sli 87 false (.rows [.i .i64, .i .i64, .i .i64, .b, .i .i8, .i .i8] y7 y8)] => some (y0, y1, y2, y3, y4, y5, y6, y7, y8)
 | _, _ => none
theorem qgF (x0 x1 : Int) (x2 x3 : Int) (x4 : Nat) (x5 x6 : LI) (x7 : Int) (x8 x9 : LL) (x10 : Nat) (x11 : LL) : fnE qUL Tryz.f40 ([.s (.ptr 0 0 none 0), .s (.i .i64 x0), .s (.i .i64 x1), .s (.i .i64 x2)]) ([.cells 43 [.one [.ptr 1 0 none 0, .i .u64 x3, .sl 2 0 x4 true]], .cells 49 [.arr .i8 81 x5, .arr .i8 16 x6, .one [.i .i8 x7], .rows [.i .u64, .i .u64] 32 x8, .rows [.i .u64, .i .u64] 2 x9], .sli 87 false (.rows [.i .i64, .i .i64, .i .i64, .b, .i .i8, .i .i8] x10 x11)]) qUM = qDT x0 x1 x2 x3 x4 x5 x6 x7 x8 x9 x10 x11 := by kernel_rfl
def qUK : HA := fun o vs objs K => match vs, objs with
 | [.s (.ptr 0 0 none 0), .s (.i .i64 x0), .s (.i .i64 x1), .s (.i .i64 x2)], [.cells 43 [.one [.ptr 1 0 none 0, .i .u64 x3, .sl 2 0 x4 true]], .cells 49 [.arr .i8 81 x5, .arr .i8 16 x6, .one [.i .i8 x7], .rows [.i .u64, .i .u64] 32 x8, .rows [.i .u64, .i .u64] 2 x9], .sli 87 false (.rows [.i .i64, .i .i64, .i .i64, .b, .i .i8, .i .i8] x10 x11)] => ob (qDT x0 x1 x2 x3 x4 x5 x6 x7 x8 x9 x10 x11) fun z => K false (.tup []) ([.cells 43 [.one [.ptr 1 0 none 0, .i .u64 (z.1), .sl 2 0 (z.2.1) true]], .cells 49 [.arr .i8 81 (z.2.2.1), .arr .i8 16 (z.2.2.2.1), .one [.i .i8 (z.2.2.2.2.1)], .rows [.i .u64, .i .u64] 32 (z.2.2.2.2.2.1), .rows [.i .u64, .i .u64] 2 (z.2.2.2.2.2.2.1)], .sli 87 false (.rows [.i .i64, .i .i64, .i .i64, .b, .i .i8, .i .i8] (z.2.2.2.2.2.2.2.1) (z.2.2.2.2.2.2.2.2))])
 | _, _ => o 40 vs objs K
def qNx (o : Orc) : Orc := qM 40 (qUK o) o
theorem qUN : OQ Tryz.prog qNx := fun _ ho => qP ho fun vs objs K r h => by
 unfold qUK at h
 split at h
 ·skip
  obtain ⟨t, h1, h2⟩ := qE h
  refine qc mixed qgG ((qgF _ _ _ _ _ _ _ _ _ _ _ _).trans h1) (by kernel_rfl) fun v objs' hd => ?_
  unfold qUM at hd;split at hd;(cases hd;exact h2);cases hd
 ·exact ho _ _ _ _ _ h
def qUP : Ctx := mkC 32 ((qKK (qOj (qF0 qL)))) [] qV
theorem qgI : CtxOK Tryz.prog qUP := mkC_ok ((qNR _ (qVt _ (qGq _ qN))))
def qUQ : V -> List Obj -> Option (Int × Nat × LI × LI × Int × LL × LL × Nat × LL) := fun v objs => match v, objs with
 | .tup [], [.cells 43 [.one [.ptr 1 0 none 0, .i .u64 y0, .sl 2 0 y1 true]], .cells 49 [.arr .i8 81 y2, .arr .i8 16 y3, .one [.i .i8 y4], .rows [.i .u64, .i .u64] 32 y5, .rows [.i .u64, .i .u64] 2 y6], .sli 87 false (.rows [.i .i64, .i .i64, .i .i64, .b, .i .i8, .i .i8] y7 y8)] => some (y0, y1, y2, y3, y4, y5, y6, y7, y8)
 | _, _ => none
theorem qgH (x0 x1 x2 : Int) (x3 : Nat) (x4 x5 : LI) (x6 : Int) (x7 x8 : LL) (x9 : Nat) (x10 : LL) : fnE qUP Tryz.f41 ([.s (.ptr 0 0 none 0), .s (.i .i64 x0), .s (.i .i8 x1)]) ([.cells 43 [.one [.ptr 1 0 none 0, .i .u64 x2, .sl 2 0 x3 true]], .cells 49 [.arr .i8 81 x4, .arr .i8 16 x5, .one [.i .i8 x6], .rows [.i .u64, .i .u64] 32 x7, .rows [.i .u64, .i .u64] 2 x8], .sli 87 false (.rows [.i .i64, .i .i64, .i .i64, .b, .i .i8, .i .i8] x9 x10)]) qUQ = qB4 x0 x1 x2 x3 x4 x5 x6 x7 x8 x9 x10 := by kernel_rfl
def qUO : HA := fun o vs objs K => match vs, objs with
 | [.s (.ptr 0 0 none 0), .s (.i .i64 x0), .s (.i .i8 x1)], [.cells 43 [.one [.ptr 1 0 none 0, .i .u64 x2, .sl 2 0 x3 true]], .cells 49 [.arr .i8 81 x4, .arr .i8 16 x5, .one [.i .i8 x6], .rows [.i .u64, .i .u64] 32 x7, .rows [.i .u64, .i .u64] 2 x8], .sli 87 false (.rows [.i .i64, .i .i64, .i .i64, .b, .i .i8, .i .i8] x9 x10)] => ob (qB4 x0 x1 x2 x3 x4 x5 x6 x7 x8 x9 x10) fun z => K false (.tup []) ([.cells 43 [.one [.ptr 1 0 none 0, .i .u64 (z.1), .sl 2 0 (z.2.1) true]], .cells 49 [.arr .i8 81 (z.2.2.1), .arr .i8 16 (z.2.2.2.1), .one [.i .i8 (z.2.2.2.2.1)], .rows [.i .u64, .i .u64] 32 (z.2.2.2.2.2.1), .rows [.i .u64, .i .u64] 2 (z.2.2.2.2.2.2.1)], .sli 87 false (.rows [.i .i64, .i .i64, .i .i64, .b, .i .i8, .i .i8] (z.2.2.2.2.2.2.2.1) (z.2.2.2.2.2.2.2.2))])
 | _, _ => o 41 vs objs K
def qNy (o : Orc) : Orc := qM 41 (qUO o) o
theorem qUR : OQ Tryz.prog qNy := fun _ ho => qP ho fun vs objs K r h => by
 unfold qUO at h
 split at h
 ·skip
  obtain ⟨t, h1, h2⟩ := qE h
  refine qc mixed qgI ((qgH _ _ _ _ _ _ _ _ _ _ _).trans h1) (by kernel_rfl) fun v objs' hd => ?_
  unfold qUQ at hd;split at hd;(cases hd;exact h2);cases hd
 ·exact ho _ _ _ _ _ h
def qUT : Ctx := mkC 26 ((qOk qL)) [] qV
theorem qgK : CtxOK Tryz.prog qUT := mkC_ok ((qVx _ qN))
def qUU : V -> List Obj -> Option (Int × Nat × LI × LI × Int × LL × LL × Nat × LL) := fun v objs => match v, objs with
 | .tup [], [.cells 43 [.one [.ptr 1 0 none 0, .i .u64 y0, .sl 2 0 y1 true]], .cells 49 [.arr .i8 81 y2, .arr .i8 16 y3, .one [.i .i8 y4], .rows [.i .u64, .i .u64] 32 y5, .rows [.i .u64, .i .u64] 2 y6], .sli 87 false (.rows [.i .i64, .i .i64, .i .i64, .b, .i .i8, .i .i8] y7 y8)] => some (y0, y1, y2, y3, y4, y5, y6, y7, y8)
 | _, _ => none
theorem qgJ (x0 : Int) (x1 : Nat) (x2 x3 : LI) (x4 : Int) (x5 x6 : LL) (x7 : Nat) (x8 : LL) : fnE qUT Tryz.f45 ([.s (.ptr 0 0 none 0)]) ([.cells 43 [.one [.ptr 1 0 none 0, .i .u64 x0, .sl 2 0 x1 true]], .cells 49 [.arr .i8 81 x2, .arr .i8 16 x3, .one [.i .i8 x4], .rows [.i .u64, .i .u64] 32 x5, .rows [.i .u64, .i .u64] 2 x6], .sli 87 false (.rows [.i .i64, .i .i64, .i .i64, .b, .i .i8, .i .i8] x7 x8)]) qUU = qCa x0 x1 x2 x3 x4 x5 x6 x7 x8 := by kernel_rfl
def qUS : HA := fun o vs objs K => match vs, objs with
 | [.s (.ptr 0 0 none 0)], [.cells 43 [.one [.ptr 1 0 none 0, .i .u64 x0, .sl 2 0 x1 true]], .cells 49 [.arr .i8 81 x2, .arr .i8 16 x3, .one [.i .i8 x4], .rows [.i .u64, .i .u64] 32 x5, .rows [.i .u64, .i .u64] 2 x6], .sli 87 false (.rows [.i .i64, .i .i64, .i .i64, .b, .i .i8, .i .i8] x7 x8)] => ob (qCa x0 x1 x2 x3 x4 x5 x6 x7 x8) fun z => K false (.tup []) ([.cells 43 [.one [.ptr 1 0 none 0, .i .u64 (z.1), .sl 2 0 (z.2.1) true]], .cells 49 [.arr .i8 81 (z.2.2.1), .arr .i8 16 (z.2.2.2.1), .one [.i .i8 (z.2.2.2.2.1)], .rows [.i .u64, .i .u64] 32 (z.2.2.2.2.2.1), .rows [.i .u64, .i .u64] 2 (z.2.2.2.2.2.2.1)], .sli 87 false (.rows [.i .i64, .i .i64, .i .i64, .b, .i .i8, .i .i8] (z.2.2.2.2.2.2.2.1) (z.2.2.2.2.2.2.2.2))])
 | _, _ => o 45 vs objs K
def qNz (o : Orc) : Orc := qM 45 (qUS o) o
theorem qUV : OQ Tryz.prog qNz := fun _ ho => qP ho fun vs objs K r h => by
 unfold qUS at h
 split at h
 ·skip
  obtain ⟨t, h1, h2⟩ := qE h
  refine qc mixed qgK ((qgJ _ _ _ _ _ _ _ _ _).trans h1) (by kernel_rfl) fun v objs' hd => ?_
  unfold qUU at hd;split at hd;(cases hd;exact h2);cases hd
 ·exact ho _ _ _ _ _ h
def qUH : Ctx := mkC 97 ((qJJ (qJK (qCP (qNz (qNy (qNx (qDd (qF0 (qT7 qL)))))))))) [] qV
theorem qgD : CtxOK Tryz.prog qUH := mkC_ok ((qLW _ (qLY _ (qCi _ (qUV _ (qUR _ (qUN _ (qEG _ (qGq _ (qf5 _ qN))))))))))
def qUI : V -> List Obj -> Option ((Bool × Int × Nat × LI × LI × Int × LL × LL × Nat × LL) ⊕ (Bool × Int × Nat × LI × LI × Int × LL × LL × Nat × LL)) := fun v objs => match v, objs with
 | .s (.b y0), [.cells 43 [.one [.ptr 1 0 none 0, .i .u64 y1, .sl 2 0 y2 true]], .cells 49 [.arr .i8 81 y3, .arr .i8 16 y4, .one [.i .i8 y5], .rows [.i .u64, .i .u64] 32 y6, .rows [.i .u64, .i .u64] 2 y7], .sli 87 false (.rows [.i .i64, .i .i64, .i .i64, .b, .i .i8, .i .i8] y8 y9)] => some (.inl (y0, y1, y2, y3, y4, y5, y6, y7, y8, y9))
 | .s (.b y0), [.cells 43 [.one [.ptr 1 0 none 0, .i .u64 y1, .sl 3 0 y2 true]], .cells 49 [.arr .i8 81 y3, .arr .i8 16 y4, .one [.i .i8 y5], .rows [.i .u64, .i .u64] 32 y6, .rows [.i .u64, .i .u64] 2 y7], Obj.dead, .sli 87 false (.rows [.i .i64, .i .i64, .i .i64, .b, .i .i8, .i .i8] y8 y9)] => some (.inr (y0, y1, y2, y3, y4, y5, y6, y7, y8, y9))
 | _, _ => none
theorem qgC (x0 x1 x2 : Int) (x3 : Bool) (x4 : Int) (x5 : Nat) (x6 x7 : LI) (x8 : Int) (x9 x10 : LL) (x11 : Nat) (x12 : LL) : fnE qUH Tryz.f12 ([.s (.ptr 0 0 none 0), .agg [.one [.i .i64 x0, .i .i64 x1, .i .i64 x2, .b x3]]]) ([.cells 43 [.one [.ptr 1 0 none 0, .i .u64 x4, .sl 2 0 x5 true]], .cells 49 [.arr .i8 81 x6, .arr .i8 16 x7, .one [.i .i8 x8], .rows [.i .u64, .i .u64] 32 x9, .rows [.i .u64, .i .u64] 2 x10], .sli 87 false (.rows [.i .i64, .i .i64, .i .i64, .b, .i .i8, .i .i8] x11 x12)]) qUI = qDS x0 x1 x2 x3 x4 x5 x6 x7 x8 x9 x10 x11 x12 := by kernel_rfl
def qUG : HA := fun o vs objs K => match vs, objs with
 | [.s (.ptr 0 0 none 0), .agg [.one [.i .i64 x0, .i .i64 x1, .i .i64 x2, .b x3]]], [.cells 43 [.one [.ptr 1 0 none 0, .i .u64 x4, .sl 2 0 x5 true]], .cells 49 [.arr .i8 81 x6, .arr .i8 16 x7, .one [.i .i8 x8], .rows [.i .u64, .i .u64] 32 x9, .rows [.i .u64, .i .u64] 2 x10], .sli 87 false (.rows [.i .i64, .i .i64, .i .i64, .b, .i .i8, .i .i8] x11 x12)] => ob (qDS x0 x1 x2 x3 x4 x5 x6 x7 x8 x9 x10 x11 x12) fun t0 => sw t0 (fun z => K false (.s (.b (z.1))) ([.cells 43 [.one [.ptr 1 0 none 0, .i .u64 (z.2.1), .sl 2 0 (z.2.2.1) true]], .cells 49 [.arr .i8 81 (z.2.2.2.1), .arr .i8 16 (z.2.2.2.2.1), .one [.i .i8 (z.2.2.2.2.2.1)], .rows [.i .u64, .i .u64] 32 (z.2.2.2.2.2.2.1), .rows [.i .u64, .i .u64] 2 (z.2.2.2.2.2.2.2.1)], .sli 87 false (.rows [.i .i64, .i .i64, .i .i64, .b, .i .i8, .i .i8] (z.2.2.2.2.2.2.2.2.1) (z.2.2.2.2.2.2.2.2.2))])) (fun z => K false (.s (.b (z.1))) ([.cells 43 [.one [.ptr 1 0 none 0, .i .u64 (z.2.1), .sl 3 0 (z.2.2.1) true]], .cells 49 [.arr .i8 81 (z.2.2.2.1), .arr .i8 16 (z.2.2.2.2.1), .one [.i .i8 (z.2.2.2.2.2.1)], .rows [.i .u64, .i .u64] 32 (z.2.2.2.2.2.2.1), .rows [.i .u64, .i .u64] 2 (z.2.2.2.2.2.2.2.1)], Obj.dead, .sli 87 false (.rows [.i .i64, .i .i64, .i .i64, .b, .i .i8, .i .i8] (z.2.2.2.2.2.2.2.2.1) (z.2.2.2.2.2.2.2.2.2))]))
 | _, _ => o 12 vs objs K
def qUJ (o : Orc) : Orc := qM 12 (qUG o) o
theorem qgE : OQ Tryz.prog qUJ := fun _ ho => qP ho fun vs objs K r h => by
 unfold qUG at h
 split at h
 ·skip
  obtain ⟨t, h1, h2⟩ := qE h
  refine qc mixed qgD ((qgC _ _ _ _ _ _ _ _ _ _ _ _ _).trans h1) (by kernel_rfl) fun v objs' hd => ?_
  unfold qUI at hd
  split at hd
  ·skip
   cases hd
   exact h2
  ·skip
   cases hd
   exact h2
  ·cases hd
 ·exact ho _ _ _ _ _ h
def qT9 : Ctx := mkC 7 (qL) [] qV
theorem qf7 : CtxOK Tryz.prog qT9 := mkC_ok (qN)
def qUA : V -> List Obj -> Option (Int) := fun v objs => match v, objs with
 | .s (.i .u64 y0), [] => some (y0)
 | _, _ => none
theorem qf6 (x0 : Int) (x1 : Nat) (x2 x3 : LI) (x4 : Int) (x5 x6 : LL) (x7 : Nat) (x8 : LL) : fnE qT9 Tryz.f13 ([.s (.ptr 0 0 none 0)]) ([.rcells 43 [.one [.ptr 1 0 none 0, .i .u64 x0, .sl 2 0 x1 true]], .rcells 49 [.arr .i8 81 x2, .arr .i8 16 x3, .one [.i .i8 x4], .rows [.i .u64, .i .u64] 32 x5, .rows [.i .u64, .i .u64] 2 x6], .sli 87 true (.rows [.i .i64, .i .i64, .i .i64, .b, .i .i8, .i .i8] x7 x8)]) (qAa 3 qUA) = qIu x0 x1 x2 x3 x4 x5 x6 x7 x8 := by kernel_rfl
def qT8 : HA := fun o vs objs K => match vs, List.map Obj.toRO objs with
 | [.s (.ptr 0 0 none 0)], [.rcells 43 [.one [.ptr 1 0 none 0, .i .u64 x0, .sl 2 0 x1 true]], .rcells 49 [.arr .i8 81 x2, .arr .i8 16 x3, .one [.i .i8 x4], .rows [.i .u64, .i .u64] 32 x5, .rows [.i .u64, .i .u64] 2 x6], .sli 87 true (.rows [.i .i64, .i .i64, .i .i64, .b, .i .i8, .i .i8] x7 x8)] => ob (qIu x0 x1 x2 x3 x4 x5 x6 x7 x8) fun y0 => K true (.s (.i .u64 y0)) ([])
 | _, _ => o 13 vs objs K
def qUB (o : Orc) : Orc := qM 13 (qT8 o) o
theorem qf8 : OQ Tryz.prog qUB := fun _ ho => qP ho fun vs objs K r h => by
 unfold qT8 at h
 split at h
 ·skip
  have hq : List.map Obj.toRO objs = _ := (by rename_i hq; first | exact hq | assumption)
  obtain ⟨t, h1, h2⟩ := qE h
  refine qAi mixed qf7 (m := 3) (fn := Tryz.f13) (b := (Tryz.f13).body.getD .skip) (by kernel_rfl) (by kernel_rfl) (by kernel_rfl) hq (by kernel_rfl) (by kernel_rfl) (qT.of (l' := []) (by kernel_rfl) trivial) ((qf6 _ _ _ _ _ _ _ _ _).trans h1) fun v objs' hd => ?_
  unfold qUA at hd;split at hd;(cases hd;exact h2);cases hd
 ·exact ho _ _ _ _ _ h
def qT1 : Ctx := mkC 87 ((qJJ (qCP (qNx (qNy (qNz qL)))))) [] qV
theorem qf1 : CtxOK Tryz.prog qT1 := mkC_ok ((qLW _ (qCi _ (qUN _ (qUR _ (qUV _ qN))))))
def qT2 : V -> List Obj -> Option (Bool × Int × Nat × LI × LI × Int × LL × LL × Nat × LL) := fun v objs => match v, objs with
 | .s (.b y0), [.cells 43 [.one [.ptr 1 0 none 0, .i .u64 y1, .sl 2 0 y2 true]], .cells 49 [.arr .i8 81 y3, .arr .i8 16 y4, .one [.i .i8 y5], .rows [.i .u64, .i .u64] 32 y6, .rows [.i .u64, .i .u64] 2 y7], .sli 87 false (.rows [.i .i64, .i .i64, .i .i64, .b, .i .i8, .i .i8] y8 y9)] => some (y0, y1, y2, y3, y4, y5, y6, y7, y8, y9)
 | _, _ => none
theorem qf0 (x0 : Int) (x1 : Nat) (x2 x3 : LI) (x4 : Int) (x5 x6 : LL) (x7 : Nat) (x8 : LL) : fnE qT1 Tryz.f15 ([.s (.ptr 0 0 none 0)]) ([.cells 43 [.one [.ptr 1 0 none 0, .i .u64 x0, .sl 2 0 x1 true]], .cells 49 [.arr .i8 81 x2, .arr .i8 16 x3, .one [.i .i8 x4], .rows [.i .u64, .i .u64] 32 x5, .rows [.i .u64, .i .u64] 2 x6], .sli 87 false (.rows [.i .i64, .i .i64, .i .i64, .b, .i .i8, .i .i8] x7 x8)]) qT2 = qE5 x0 x1 x2 x3 x4 x5 x6 x7 x8 := by kernel_rfl
def qT0 : HA := fun o vs objs K => match vs, objs with
 | [.s (.ptr 0 0 none 0)], [.cells 43 [.one [.ptr 1 0 none 0, .i .u64 x0, .sl 2 0 x1 true]], .cells 49 [.arr .i8 81 x2, .arr .i8 16 x3, .one [.i .i8 x4], .rows [.i .u64, .i .u64] 32 x5, .rows [.i .u64, .i .u64] 2 x6], .sli 87 false (.rows [.i .i64, .i .i64, .i .i64, .b, .i .i8, .i .i8] x7 x8)] => ob (qE5 x0 x1 x2 x3 x4 x5 x6 x7 x8) fun z => K false (.s (.b (z.1))) ([.cells 43 [.one [.ptr 1 0 none 0, .i .u64 (z.2.1), .sl 2 0 (z.2.2.1) true]], .cells 49 [.arr .i8 81 (z.2.2.2.1), .arr .i8 16 (z.2.2.2.2.1), .one [.i .i8 (z.2.2.2.2.2.1)], .rows [.i .u64, .i .u64] 32 (z.2.2.2.2.2.2.1), .rows [.i .u64, .i .u64] 2 (z.2.2.2.2.2.2.2.1)], .sli 87 false (.rows [.i .i64, .i .i64, .i .i64, .b, .i .i8, .i .i8] (z.2.2.2.2.2.2.2.2.1) (z.2.2.2.2.2.2.2.2.2))])
 | _, _ => o 15 vs objs K
def qT3 (o : Orc) : Orc := qM 15 (qT0 o) o
theorem qf2 : OQ Tryz.prog qT3 := fun _ ho => qP ho fun vs objs K r h => by
 unfold qT0 at h
 split at h
 ·skip
  obtain ⟨t, h1, h2⟩ := qE h
  refine qc mixed qf1 ((qf0 _ _ _ _ _ _ _ _ _).trans h1) (by kernel_rfl) fun v objs' hd => ?_
  unfold qT2 at hd;split at hd;(cases hd;exact h2);cases hd
 ·exact ho _ _ _ _ _ h
def qWm : Ctx := mkC 7 ((qOw qL)) [] qV
theorem qiu : CtxOK Tryz.prog qWm := mkC_ok ((qWD _ qN))
def qWn : V -> List Obj -> Option (Bool × LI × LI × Int × LL × LL) := fun v objs => match v, objs with
 | .s (.b y0), [.cells 49 [.arr .i8 81 y1, .arr .i8 16 y2, .one [.i .i8 y3], .rows [.i .u64, .i .u64] 32 y4, .rows [.i .u64, .i .u64] 2 y5]] => some (y0, y1, y2, y3, y4, y5)
 | _, _ => none
theorem qit (x0 x1 : LI) (x2 : Int) (x3 x4 : LL) : fnE qWm Tryz.f16 ([.s (.ptr 0 0 none 0)]) ([.cells 49 [.arr .i8 81 x0, .arr .i8 16 x1, .one [.i .i8 x2], .rows [.i .u64, .i .u64] 32 x3, .rows [.i .u64, .i .u64] 2 x4]]) qWn = qHX x0 x1 x2 x3 x4 := by kernel_rfl
def qWl : HA := fun o vs objs K => match vs, objs with
 | [.s (.ptr 0 0 none 0)], [.cells 49 [.arr .i8 81 x0, .arr .i8 16 x1, .one [.i .i8 x2], .rows [.i .u64, .i .u64] 32 x3, .rows [.i .u64, .i .u64] 2 x4]] => ob (qHX x0 x1 x2 x3 x4) fun z => K false (.s (.b (z.1))) ([.cells 49 [.arr .i8 81 (z.2.1), .arr .i8 16 (z.2.2.1), .one [.i .i8 (z.2.2.2.1)], .rows [.i .u64, .i .u64] 32 (z.2.2.2.2.1), .rows [.i .u64, .i .u64] 2 (z.2.2.2.2.2)]])
 | _, _ => o 16 vs objs K
def qWo (o : Orc) : Orc := qM 16 (qWl o) o
theorem qiv : OQ Tryz.prog qWo := fun _ ho => qP ho fun vs objs K r h => by
 unfold qWl at h
 split at h
 ·skip
  obtain ⟨t, h1, h2⟩ := qE h
  refine qc mixed qiu ((qit _ _ _ _ _).trans h1) (by kernel_rfl) fun v objs' hd => ?_
  unfold qWn at hd;split at hd;(cases hd;exact h2);cases hd
 ·exact ho _ _ _ _ _ h
def qUD : Ctx := mkC 8 (qL) [] qV
theorem qgA : CtxOK Tryz.prog qUD := mkC_ok (qN)
def qUE : V -> List Obj -> Option (Int) := fun v objs => match v, objs with
 | .s (.i .i64 y0), [] => some (y0)
 | _, _ => none
theorem qf9 (x0 : Int) (x1 : Nat) (x2 x3 : LI) (x4 : Int) (x5 x6 : LL) (x7 : Nat) (x8 : LL) : fnE qUD Tryz.f17 ([.s (.ptr 0 0 none 0)]) ([.rcells 43 [.one [.ptr 1 0 none 0, .i .u64 x0, .sl 2 0 x1 true]], .rcells 49 [.arr .i8 81 x2, .arr .i8 16 x3, .one [.i .i8 x4], .rows [.i .u64, .i .u64] 32 x5, .rows [.i .u64, .i .u64] 2 x6], .sli 87 true (.rows [.i .i64, .i .i64, .i .i64, .b, .i .i8, .i .i8] x7 x8)]) (qAa 3 qUE) = qKW x0 x1 x2 x3 x4 x5 x6 x7 x8 := by kernel_rfl
def qUC : HA := fun o vs objs K => match vs, List.map Obj.toRO objs with
 | [.s (.ptr 0 0 none 0)], [.rcells 43 [.one [.ptr 1 0 none 0, .i .u64 x0, .sl 2 0 x1 true]], .rcells 49 [.arr .i8 81 x2, .arr .i8 16 x3, .one [.i .i8 x4], .rows [.i .u64, .i .u64] 32 x5, .rows [.i .u64, .i .u64] 2 x6], .sli 87 true (.rows [.i .i64, .i .i64, .i .i64, .b, .i .i8, .i .i8] x7 x8)] => ob (qKW x0 x1 x2 x3 x4 x5 x6 x7 x8) fun y0 => K true (.s (.i .i64 y0)) ([])
 | _, _ => o 17 vs objs K
def qUF (o : Orc) : Orc := qM 17 (qUC o) o
theorem qgB : OQ Tryz.prog qUF := fun _ ho => qP ho fun vs objs K r h => by
 unfold qUC at h
 split at h
 ·skip
  have hq : List.map Obj.toRO objs = _ := (by rename_i hq; first | exact hq | assumption)
  obtain ⟨t, h1, h2⟩ := qE h
  refine qAi mixed qgA (m := 3) (fn := Tryz.f17) (b := (Tryz.f17).body.getD .skip) (by kernel_rfl) (by kernel_rfl) (by kernel_rfl) hq (by kernel_rfl) (by kernel_rfl) (qT.of (l' := []) (by kernel_rfl) trivial) ((qf9 _ _ _ _ _ _ _ _ _).trans h1) fun v objs' hd => ?_
  unfold qUE at hd;split at hd;(cases hd;exact h2);cases hd
 ·exact ho _ _ _ _ _ h
end
end Go.Kk.KkST
