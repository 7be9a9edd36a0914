/- Printed by a tool of this project (KkGen): the program's functions come to the plain ones. -/
import Derived.Test.YtljnnegjhcdlkaaGreatDoorKkMSc
namespace Go.Kk.KkMS
noncomputable section
open Go.Proofs Go.Kk.Pl
set_option maxRecDepth 100000
set_option maxHeartbeats 4000000
def qF6 : Ex → List V → List Obj → Option ((Int × List Int × List Int × Int) ⊕ (List Int × List Int × Int)) := fun e vs objs => match e, vs, objs with
 | .ret, [.s (.ptr 0 0 none 0), .s (.i .i64 y0)], [.cells 28 [.arr .i8 81 y1, .arr .i8 16 y2, .one [.i .i8 y3]]] => some (.inl (y0, y1, y2, y3))
 | .exit 0, [.s (.ptr 0 0 none 0), .s .bad], [.cells 28 [.arr .i8 81 y0, .arr .i8 16 y1, .one [.i .i8 y2]]] => some (.inr (y0, y1, y2))
 | _, _, _ => none
def qFy : Ex → List V → List Obj → Option ((Int × Int × List Int × List Int × Int) ⊕ (Int × List Int × List Int × Int)) := fun e vs objs => match e, vs, objs with
 | .ret, [.s (.ptr 0 0 none 0), .s (.i .i64 y0), .s (.i .i64 y1)], [.cells 28 [.arr .i8 81 y2, .arr .i8 16 y3, .one [.i .i8 y4]]] => some (.inl (y0, y1, y2, y3, y4))
 | .exit 4, [.s (.ptr 0 0 none 0), .s .bad, .s (.i .i64 y0)], [.cells 28 [.arr .i8 81 y1, .arr .i8 16 y2, .one [.i .i8 y3]]] => some (.inr (y0, y1, y2, y3))
 | _, _, _ => none
def qF8 : Ex → List V → List Obj → Option ((Int × List Int × List Int × Int) ⊕ (List Int × List Int × Int)) := fun e vs objs => match e, vs, objs with
 | .ret, [.s (.ptr 0 0 none 0), .s (.i .i64 y0)], [.cells 28 [.arr .i8 81 y1, .arr .i8 16 y2, .one [.i .i8 y3]]] => some (.inl (y0, y1, y2, y3))
 | .exit 2, [.s (.ptr 0 0 none 0), .s .bad], [.cells 28 [.arr .i8 81 y0, .arr .i8 16 y1, .one [.i .i8 y2]]] => some (.inr (y0, y1, y2))
 | _, _, _ => none
def qF0 : Ex → List V → List Obj → Option ((Int × List Int × List Int × Int) ⊕ (List Int × List Int × Int)) := fun e vs objs => match e, vs, objs with
 | .ret, [.s (.ptr 0 0 none 0), .s (.i .i64 y0)], [.cells 28 [.arr .i8 81 y1, .arr .i8 16 y2, .one [.i .i8 y3]]] => some (.inl (y0, y1, y2, y3))
 | .exit 6, [.s (.ptr 0 0 none 0), .s .bad], [.cells 28 [.arr .i8 81 y0, .arr .i8 16 y1, .one [.i .i8 y2]]] => some (.inr (y0, y1, y2))
 | _, _, _ => none
def qF2 : Ex → List V → List Obj → Option ((Int × List Int × List Int × Int) ⊕ (List Int × List Int × Int)) := fun e vs objs => match e, vs, objs with
 | .ret, [.s (.ptr 0 0 none 0), .s (.i .i64 y0)], [.cells 28 [.arr .i8 81 y1, .arr .i8 16 y2, .one [.i .i8 y3]]] => some (.inl (y0, y1, y2, y3))
 | .exit 8, [.s (.ptr 0 0 none 0), .s .bad], [.cells 28 [.arr .i8 81 y0, .arr .i8 16 y1, .one [.i .i8 y2]]] => some (.inr (y0, y1, y2))
 | _, _, _ => none
def qF4 : Ex → List V → List Obj → Option ((Int) ⊕ (Unit)) := fun e vs objs => match e, vs, objs with
 | .ret, [.s (.i .i64 y0)], [] => some (.inl (y0))
 | .exit 10, [.s .bad], [] => some (.inr ())
 | _, _, _ => none
def qGE {R : Type} (vs : List V) (objs : List Obj) (K : Ex → List V → List Obj → Option R) : Option R := match vs, objs with
 | [.s (.ptr 0 0 none 0), .s (.i .i64 x0)], [.cells 28 [.arr .i8 81 x1, .arr .i8 16 x2, .one [.i .i8 x3]]] => ob (qP many x0 x1 x2 x3) fun t0 => sw t0 (fun z => K (.ret) ([.s (.ptr 0 0 none 0), .s (.i .i64 (z.1))]) ([.cells 28 [.arr .i8 81 (z.2.1), .arr .i8 16 (z.2.2.1), .one [.i .i8 (z.2.2.2)]]])) (fun z => K (.exit 0) ([.s (.ptr 0 0 none 0), .s .bad]) ([.cells 28 [.arr .i8 81 (z.1), .arr .i8 16 (z.2.1), .one [.i .i8 (z.2.2)]]]))
 | _, _ => none
def qGA {R : Type} (vs : List V) (objs : List Obj) (K : Ex → List V → List Obj → Option R) : Option R := match vs, objs with
 | [.s (.ptr 0 0 none 0), .s (.i .i64 x0), .s (.i .i64 x1)], [.cells 28 [.arr .i8 81 x2, .arr .i8 16 x3, .one [.i .i8 x4]]] => ob (qN many x0 x1 x2 x3 x4) fun t0 => sw t0 (fun z => K (.ret) ([.s (.ptr 0 0 none 0), .s (.i .i64 (z.1)), .s (.i .i64 (z.2.1))]) ([.cells 28 [.arr .i8 81 (z.2.2.1), .arr .i8 16 (z.2.2.2.1), .one [.i .i8 (z.2.2.2.2)]]])) (fun z => K (.exit 4) ([.s (.ptr 0 0 none 0), .s .bad, .s (.i .i64 (z.1))]) ([.cells 28 [.arr .i8 81 (z.2.1), .arr .i8 16 (z.2.2.1), .one [.i .i8 (z.2.2.2)]]]))
 | _, _ => none
def qGF {R : Type} (vs : List V) (objs : List Obj) (K : Ex → List V → List Obj → Option R) : Option R := match vs, objs with
 | [.s (.ptr 0 0 none 0), .s (.i .i64 x0)], [.cells 28 [.arr .i8 81 x1, .arr .i8 16 x2, .one [.i .i8 x3]]] => ob (qM many x0 x1 x2 x3) fun t0 => sw t0 (fun z => K (.ret) ([.s (.ptr 0 0 none 0), .s (.i .i64 (z.1))]) ([.cells 28 [.arr .i8 81 (z.2.1), .arr .i8 16 (z.2.2.1), .one [.i .i8 (z.2.2.2)]]])) (fun z => K (.exit 2) ([.s (.ptr 0 0 none 0), .s .bad]) ([.cells 28 [.arr .i8 81 (z.1), .arr .i8 16 (z.2.1), .one [.i .i8 (z.2.2)]]]))
 | _, _ => none
def qGB {R : Type} (vs : List V) (objs : List Obj) (K : Ex → List V → List Obj → Option R) : Option R := match vs, objs with
 | [.s (.ptr 0 0 none 0), .s (.i .i64 x0)], [.cells 28 [.arr .i8 81 x1, .arr .i8 16 x2, .one [.i .i8 x3]]] => ob (qJ many x0 x1 x2 x3) fun t0 => sw t0 (fun z => K (.ret) ([.s (.ptr 0 0 none 0), .s (.i .i64 (z.1))]) ([.cells 28 [.arr .i8 81 (z.2.1), .arr .i8 16 (z.2.2.1), .one [.i .i8 (z.2.2.2)]]])) (fun z => K (.exit 6) ([.s (.ptr 0 0 none 0), .s .bad]) ([.cells 28 [.arr .i8 81 (z.1), .arr .i8 16 (z.2.1), .one [.i .i8 (z.2.2)]]]))
 | _, _ => none
def qGC {R : Type} (vs : List V) (objs : List Obj) (K : Ex → List V → List Obj → Option R) : Option R := match vs, objs with
 | [.s (.ptr 0 0 none 0), .s (.i .i64 x0)], [.cells 28 [.arr .i8 81 x1, .arr .i8 16 x2, .one [.i .i8 x3]]] => ob (qK many x0 x1 x2 x3) fun t0 => sw t0 (fun z => K (.ret) ([.s (.ptr 0 0 none 0), .s (.i .i64 (z.1))]) ([.cells 28 [.arr .i8 81 (z.2.1), .arr .i8 16 (z.2.2.1), .one [.i .i8 (z.2.2.2)]]])) (fun z => K (.exit 8) ([.s (.ptr 0 0 none 0), .s .bad]) ([.cells 28 [.arr .i8 81 (z.1), .arr .i8 16 (z.2.1), .one [.i .i8 (z.2.2)]]]))
 | _, _ => none
def qGD {R : Type} (vs : List V) (objs : List Obj) (K : Ex → List V → List Obj → Option R) : Option R := match vs, objs with
 | [.s (.ptr 0 0 none 0), .s (.i .i64 x0)], [.cells 28 [.arr .i8 81 x1, .arr .i8 16 x2, .one [.i .i8 x3]]] => ob (qL many x0 x1 x2 x3) fun t0 => sw t0 (fun y0 => K (.ret) ([.s (.i .i64 y0)]) ([])) (fun _ => K (.exit 10) ([.s .bad]) ([]))
 | _, _ => none
def qSP : {R : Type} → Nat → List V → List Obj → (Ex → List V → List Obj → Option R) → Option R := fun q vs objs K => bif Nat.beq q 4 then qGE vs objs K else bif Nat.beq q 12 then qGA vs objs K else bif Nat.beq q 9 then qGF vs objs K else bif Nat.beq q 20 then qGB vs objs K else bif Nat.beq q 25 then qGC vs objs K else bif Nat.beq q 30 then qGD vs objs K else none
def qT : Ctx := mkC 103 ((qDm (qDg (qLA (qL1 (qME (qj oNil))))))) [(4, [1, 3], [1, 2]), (9, [1, 4], [1, 2]), (12, [1, 4, 5], [1, 2, 4]), (20, [1, 7], [1, 2]), (25, [1, 8], [1, 2]), (30, [1, 9], [2])] qSP
theorem qBS : CtxOK Tryz.prog qT := mkC_ok ((qGL _ (qFo _ (qRo _ (qSa _ (qSn _ (q7 _ oNil_ok)))))))
def qF7 (f : Nat) (x0 : Int) (x1 x2 : List Int) (x3 : Int) : Option ((Int × List Int × List Int × Int) ⊕ (List Int × List Int × Int)) := lrun qT 0 [1, 3] [1, 2] (loopOf Tryz.f28 4) f ([.s (.ptr 0 0 none 0), .s (.i .i64 x0)]) ([.cells 28 [.arr .i8 81 x1, .arr .i8 16 x2, .one [.i .i8 x3]]]) qF6
theorem qSN (f : Nat) (x0 : Int) (x1 x2 : List Int) (x3 : Int) : qF7 (f + 1) x0 x1 x2 x3 = qAC (qF7 f) x0 x1 x2 x3 := by kernel_rfl
theorem qLu : ∀ f, qF7 f = qP f
 | 0 => rfl
 | f + 1 => by funext x0 x1 x2 x3; rw [qSN, qLu f]; rfl
def qFz (f : Nat) (x0 x1 : Int) (x2 x3 : List Int) (x4 : Int) : Option ((Int × Int × List Int × List Int × Int) ⊕ (Int × List Int × List Int × Int)) := lrun qT 0 [1, 4, 5] [1, 2, 4] (loopOf Tryz.f28 12) f ([.s (.ptr 0 0 none 0), .s (.i .i64 x0), .s (.i .i64 x1)]) ([.cells 28 [.arr .i8 81 x2, .arr .i8 16 x3, .one [.i .i8 x4]]]) qFy
theorem qSJ (f : Nat) (x0 x1 : Int) (x2 x3 : List Int) (x4 : Int) : qFz (f + 1) x0 x1 x2 x3 x4 = q8 (qFz f) x0 x1 x2 x3 x4 := by kernel_rfl
theorem qLq : ∀ f, qFz f = qN f
 | 0 => rfl
 | f + 1 => by funext x0 x1 x2 x3 x4; rw [qSJ, qLq f]; rfl
def qF9 (f : Nat) (x0 : Int) (x1 x2 : List Int) (x3 : Int) : Option ((Int × List Int × List Int × Int) ⊕ (List Int × List Int × Int)) := lrun qT 0 [1, 4] [1, 2] (loopOf Tryz.f28 9) f ([.s (.ptr 0 0 none 0), .s (.i .i64 x0)]) ([.cells 28 [.arr .i8 81 x1, .arr .i8 16 x2, .one [.i .i8 x3]]]) qF8
theorem qSO (f : Nat) (x0 : Int) (x1 x2 : List Int) (x3 : Int) : qF9 (f + 1) x0 x1 x2 x3 = qAD (qF9 f) x0 x1 x2 x3 := by kernel_rfl
theorem qLv : ∀ f, qF9 f = qM f
 | 0 => rfl
 | f + 1 => by funext x0 x1 x2 x3; rw [qSO, qLv f]; rfl
def qF1 (f : Nat) (x0 : Int) (x1 x2 : List Int) (x3 : Int) : Option ((Int × List Int × List Int × Int) ⊕ (List Int × List Int × Int)) := lrun qT 0 [1, 7] [1, 2] (loopOf Tryz.f28 20) f ([.s (.ptr 0 0 none 0), .s (.i .i64 x0)]) ([.cells 28 [.arr .i8 81 x1, .arr .i8 16 x2, .one [.i .i8 x3]]]) qF0
theorem qSK (f : Nat) (x0 : Int) (x1 x2 : List Int) (x3 : Int) : qF1 (f + 1) x0 x1 x2 x3 = q9 (qF1 f) x0 x1 x2 x3 := by kernel_rfl
theorem qLr : ∀ f, qF1 f = qJ f
 | 0 => rfl
 | f + 1 => by funext x0 x1 x2 x3; rw [qSK, qLr f]; rfl
def qF3 (f : Nat) (x0 : Int) (x1 x2 : List Int) (x3 : Int) : Option ((Int × List Int × List Int × Int) ⊕ (List Int × List Int × Int)) := lrun qT 0 [1, 8] [1, 2] (loopOf Tryz.f28 25) f ([.s (.ptr 0 0 none 0), .s (.i .i64 x0)]) ([.cells 28 [.arr .i8 81 x1, .arr .i8 16 x2, .one [.i .i8 x3]]]) qF2
theorem qSL (f : Nat) (x0 : Int) (x1 x2 : List Int) (x3 : Int) : qF3 (f + 1) x0 x1 x2 x3 = qAA (qF3 f) x0 x1 x2 x3 := by kernel_rfl
theorem qLs : ∀ f, qF3 f = qK f
 | 0 => rfl
 | f + 1 => by funext x0 x1 x2 x3; rw [qSL, qLs f]; rfl
def qF5 (f : Nat) (x0 : Int) (x1 x2 : List Int) (x3 : Int) : Option ((Int) ⊕ (Unit)) := lrun qT 0 [1, 9] [2] (loopOf Tryz.f28 30) f ([.s (.ptr 0 0 none 0), .s (.i .i64 x0)]) ([.cells 28 [.arr .i8 81 x1, .arr .i8 16 x2, .one [.i .i8 x3]]]) qF4
theorem qSM (f : Nat) (x0 : Int) (x1 x2 : List Int) (x3 : Int) : qF5 (f + 1) x0 x1 x2 x3 = qAB (qF5 f) x0 x1 x2 x3 := by kernel_rfl
theorem qLt : ∀ f, qF5 f = qL f
 | 0 => rfl
 | f + 1 => by funext x0 x1 x2 x3; rw [qSM, qLt f]; rfl
theorem qSV : LoopSound Tryz.prog qT 0 (loopOf Tryz.f28 4) :=
 loopSound_by mixed qBS (AllP.of (l' := []) (by kernel_rfl) trivial) (q := 4) (kin := [1, 3]) (kout := [1, 2]) (by kernel_rfl) (by kernel_rfl) fun vs objs K r h => by
  replace h : qGE vs objs K = some r := h
  unfold qGE at h
  split at h
  ·skip
   obtain ⟨t, h1, h2⟩ := ob_ok h
   rw [← qLu] at h1
   refine ⟨_, qF6, t, many, h1, fun e vs' objs' hd => ?_⟩
   unfold qF6 at hd
   split at hd
   ·skip
    cases hd
    exact h2
   ·skip
    cases hd
    exact h2
   ·cases hd
  ·cases h
theorem qSR : LoopSound Tryz.prog qT 0 (loopOf Tryz.f28 12) :=
 loopSound_by mixed qBS (AllP.of (l' := []) (by kernel_rfl) trivial) (q := 12) (kin := [1, 4, 5]) (kout := [1, 2, 4]) (by kernel_rfl) (by kernel_rfl) fun vs objs K r h => by
  replace h : qGA vs objs K = some r := h
  unfold qGA at h
  split at h
  ·skip
   obtain ⟨t, h1, h2⟩ := ob_ok h
   rw [← qLq] at h1
   refine ⟨_, qFy, t, many, h1, fun e vs' objs' hd => ?_⟩
   unfold qFy at hd
   split at hd
   ·skip
    cases hd
    exact h2
   ·skip
    cases hd
    exact h2
   ·cases hd
  ·cases h
theorem qSS : LoopSound Tryz.prog qT 0 (loopOf Tryz.f28 20) :=
 loopSound_by mixed qBS (AllP.of (l' := []) (by kernel_rfl) trivial) (q := 20) (kin := [1, 7]) (kout := [1, 2]) (by kernel_rfl) (by kernel_rfl) fun vs objs K r h => by
  replace h : qGB vs objs K = some r := h
  unfold qGB at h
  split at h
  ·skip
   obtain ⟨t, h1, h2⟩ := ob_ok h
   rw [← qLr] at h1
   refine ⟨_, qF0, t, many, h1, fun e vs' objs' hd => ?_⟩
   unfold qF0 at hd
   split at hd
   ·skip
    cases hd
    exact h2
   ·skip
    cases hd
    exact h2
   ·cases hd
  ·cases h
theorem qST : LoopSound Tryz.prog qT 0 (loopOf Tryz.f28 25) :=
 loopSound_by mixed qBS (AllP.of (l' := []) (by kernel_rfl) trivial) (q := 25) (kin := [1, 8]) (kout := [1, 2]) (by kernel_rfl) (by kernel_rfl) fun vs objs K r h => by
  replace h : qGC vs objs K = some r := h
  unfold qGC at h
  split at h
  ·skip
   obtain ⟨t, h1, h2⟩ := ob_ok h
   rw [← qLs] at h1
   refine ⟨_, qF2, t, many, h1, fun e vs' objs' hd => ?_⟩
   unfold qF2 at hd
   split at hd
   ·skip
    cases hd
    exact h2
   ·skip
    cases hd
    exact h2
   ·cases hd
  ·cases h
theorem qSU : LoopSound Tryz.prog qT 0 (loopOf Tryz.f28 30) :=
 loopSound_by mixed qBS (AllP.of (l' := []) (by kernel_rfl) trivial) (q := 30) (kin := [1, 9]) (kout := [2]) (by kernel_rfl) (by kernel_rfl) fun vs objs K r h => by
  replace h : qGD vs objs K = some r := h
  unfold qGD at h
  split at h
  ·skip
   obtain ⟨t, h1, h2⟩ := ob_ok h
   rw [← qLt] at h1
   refine ⟨_, qF4, t, many, h1, fun e vs' objs' hd => ?_⟩
   unfold qF4 at hd
   split at hd
   ·skip
    cases hd
    exact h2
   ·skip
    cases hd
    exact h2
   ·cases hd
  ·cases h
theorem qSW : LoopSound Tryz.prog qT 0 (loopOf Tryz.f28 9) :=
 loopSound_by mixed qBS (AllP.of (l' := [loopOf Tryz.f28 12]) (by kernel_rfl) ⟨qSR, trivial⟩) (q := 9) (kin := [1, 4]) (kout := [1, 2]) (by kernel_rfl) (by kernel_rfl) fun vs objs K r h => by
  replace h : qGF vs objs K = some r := h
  unfold qGF at h
  split at h
  ·skip
   obtain ⟨t, h1, h2⟩ := ob_ok h
   rw [← qLv] at h1
   refine ⟨_, qF8, t, many, h1, fun e vs' objs' hd => ?_⟩
   unfold qF8 at hd
   split at hd
   ·skip
    cases hd
    exact h2
   ·skip
    cases hd
    exact h2
   ·cases hd
  ·cases h
def qLp : V → List Obj → Option (Int) := fun v objs => match v, objs with
 | .s (.i .i64 y0), [] => some (y0)
 | _, _ => none
theorem qSI (x0 x1 : List Int) (x2 : Int) : fnE qT Tryz.f28 ([.agg [.arr .i8 81 x0, .arr .i8 16 x1, .one [.i .i8 x2]]]) ([]) qLp = qAu x0 x1 x2 := by kernel_rfl
def qLo {R : Type} (o : Orc) (vs : List V) (objs : List Obj) (K : Bool → V → List Obj → Option R) : Option R := match vs, objs with
 | [.agg [.arr .i8 81 x0, .arr .i8 16 x1, .one [.i .i8 x2]]], [] => ob (qAu x0 x1 x2) fun y0 => K false (.s (.i .i64 y0)) ([])
 | _, _ => o 28 vs objs K
def qLw (o : Orc) : Orc := hook 28 (qLo o) o
theorem qSQ (o : Orc) (ho : OSound Tryz.prog o) : OSound Tryz.prog (qLw o) := hook_ok ho fun vs objs K r h => by
 unfold qLo at h
 split at h
 ·skip
  obtain ⟨t, h1, h2⟩ := ob_ok h
  refine anyOK_of mixed qBS (fn := Tryz.f28) (b := (Tryz.f28).body.getD .skip) (by kernel_rfl) (by kernel_rfl) (by kernel_rfl) ((qSI _ _ _).trans h1) (m := 0) rfl (AllP.of (l' := [loopOf Tryz.f28 4, loopOf Tryz.f28 9, loopOf Tryz.f28 20, loopOf Tryz.f28 25, loopOf Tryz.f28 30]) (by kernel_rfl) ⟨qSV, qSW, qSS, qST, qSU, trivial⟩) fun v objs' hd => ?_
  unfold qLp at hd
  split at hd
  ·skip
   cases hd
   exact h2
  ·cases hd
 ·exact ho _ _ _ _ _ h
def qGN : Ex → List V → List Obj → Option (List Bool × List Bool) := fun e vs objs => match e, vs, objs with
 | .exit 0, [.s (.ptr 0 0 none 0), .s (.ptr 1 0 none 0)], [.cells 70 [Seg.barr 81 y0], .cells 70 [Seg.barr 81 y1]] => some (y0, y1)
 | _, _, _ => none
def qGQ {R : Type} (vs : List V) (objs : List Obj) (K : Ex → List V → List Obj → Option R) : Option R := match vs, objs with
 | [.s (.ptr 0 0 none 0), .s (.ptr 1 0 none 0), .s (.ptr 2 0 none 0), .s (.i .i64 x0)], [.cells 28 [.arr .i8 81 x1, .arr .i8 16 x2, .one [.i .i8 x3]], .cells 70 [Seg.barr 81 x4], .cells 70 [Seg.barr 81 x5]] => ob (qAT many x0 x1 x2 x3 x4 x5) fun z => K (.exit 0) ([.s (.ptr 0 0 none 0), .s (.ptr 1 0 none 0)]) ([.cells 70 [Seg.barr 81 (z.1)], .cells 70 [Seg.barr 81 (z.2)]])
 | _, _ => none
def qSi : {R : Type} → Nat → List V → List Obj → (Ex → List V → List Obj → Option R) → Option R := fun q vs objs K => bif Nat.beq q 3 then qGQ vs objs K else none
def qDn : Ctx := mkC 18 (oNil) [(3, [1, 2, 3, 4], [2, 3])] qSi
theorem qL7 : CtxOK Tryz.prog qDn := mkC_ok (oNil_ok)
def qGO (f : Nat) (x0 : Int) (x1 x2 : List Int) (x3 : Int) (x4 x5 : List Bool) : Option (List Bool × List Bool) := lrun qDn 0 [1, 2, 3, 4] [2, 3] (loopOf Tryz.f36 3) f ([.s (.ptr 0 0 none 0), .s (.ptr 1 0 none 0), .s (.ptr 2 0 none 0), .s (.i .i64 x0)]) ([.cells 28 [.arr .i8 81 x1, .arr .i8 16 x2, .one [.i .i8 x3]], .cells 70 [Seg.barr 81 x4], .cells 70 [Seg.barr 81 x5]]) qGN
theorem qSh (f : Nat) (x0 : Int) (x1 x2 : List Int) (x3 : Int) (x4 x5 : List Bool) : qGO (f + 1) x0 x1 x2 x3 x4 x5 = qCG (qGO f) x0 x1 x2 x3 x4 x5 := by kernel_rfl
theorem qL9 : ∀ f, qGO f = qAT f
 | 0 => rfl
 | f + 1 => by funext x0 x1 x2 x3 x4 x5; rw [qSh, qL9 f]; rfl
theorem qSj : LoopSound Tryz.prog qDn 0 (loopOf Tryz.f36 3) :=
 loopSound_by mixed qL7 (AllP.of (l' := []) (by kernel_rfl) trivial) (q := 3) (kin := [1, 2, 3, 4]) (kout := [2, 3]) (by kernel_rfl) (by kernel_rfl) fun vs objs K r h => by
  replace h : qGQ vs objs K = some r := h
  unfold qGQ at h
  split at h
  ·skip
   obtain ⟨t, h1, h2⟩ := ob_ok h
   rw [← qL9] at h1
   refine ⟨_, qGN, t, many, h1, fun e vs' objs' hd => ?_⟩
   unfold qGN at hd
   split at hd
   ·skip
    cases hd
    exact h2
   ·cases hd
  ·cases h
def qL8 : V → List Obj → Option (List Bool) := fun v objs => match v, objs with
 | .agg [Seg.barr 81 y0], [] => some (y0)
 | _, _ => none
theorem qSg (x0 x1 : List Int) (x2 : Int) : fnE qDn Tryz.f36 ([.agg [.arr .i8 81 x0, .arr .i8 16 x1, .one [.i .i8 x2]]]) ([]) qL8 = qAS x0 x1 x2 := by kernel_rfl
def qL6 {R : Type} (o : Orc) (vs : List V) (objs : List Obj) (K : Bool → V → List Obj → Option R) : Option R := match vs, objs with
 | [.agg [.arr .i8 81 x0, .arr .i8 16 x1, .one [.i .i8 x2]]], [] => ob (qAS x0 x1 x2) fun y0 => K false (.agg [Seg.barr 81 y0]) ([])
 | _, _ => o 36 vs objs K
def qDo (o : Orc) : Orc := hook 36 (qL6 o) o
theorem qGP (o : Orc) (ho : OSound Tryz.prog o) : OSound Tryz.prog (qDo o) := hook_ok ho fun vs objs K r h => by
 unfold qL6 at h
 split at h
 ·skip
  obtain ⟨t, h1, h2⟩ := ob_ok h
  refine anyOK_of mixed qL7 (fn := Tryz.f36) (b := (Tryz.f36).body.getD .skip) (by kernel_rfl) (by kernel_rfl) (by kernel_rfl) ((qSg _ _ _).trans h1) (m := 0) rfl (AllP.of (l' := [loopOf Tryz.f36 3]) (by kernel_rfl) ⟨qSj, trivial⟩) fun v objs' hd => ?_
  unfold qL8 at hd
  split at hd
  ·skip
   cases hd
   exact h2
  ·cases hd
 ·exact ho _ _ _ _ _ h
def qGX : Ex → List V → List Obj → Option ((Int) ⊕ (Unit)) := fun e vs objs => match e, vs, objs with
 | .ret, [.s (.i .i64 y0)], [] => some (.inl (y0))
 | .exit 0, [.s .bad], [] => some (.inr ())
 | _, _, _ => none
def qGZ {R : Type} (vs : List V) (objs : List Obj) (K : Ex → List V → List Obj → Option R) : Option R := match vs, objs with
 | [.s (.i .i64 x0), .s (.ptr 0 0 none 0), .s (.i .i64 x1)], [.cells 28 [.arr .i8 81 x2, .arr .i8 16 x3, .one [.i .i8 x4]]] => ob (qAx many x0 x1 x2 x3 x4) fun t0 => sw t0 (fun y0 => K (.ret) ([.s (.i .i64 y0)]) ([])) (fun _ => K (.exit 0) ([.s .bad]) ([]))
 | _, _ => none
def qS1 : {R : Type} → Nat → List V → List Obj → (Ex → List V → List Obj → Option R) → Option R := fun q vs objs K => bif Nat.beq q 2 then qGZ vs objs K else none
def qDr : Ctx := mkC 20 (oNil) [(2, [1, 2, 5], [4])] qS1
theorem qMS : CtxOK Tryz.prog qDr := mkC_ok (oNil_ok)
def qGY (f : Nat) (x0 x1 : Int) (x2 x3 : List Int) (x4 : Int) : Option ((Int) ⊕ (Unit)) := lrun qDr 0 [1, 2, 5] [4] (loopOf Tryz.f37 2) f ([.s (.i .i64 x0), .s (.ptr 0 0 none 0), .s (.i .i64 x1)]) ([.cells 28 [.arr .i8 81 x2, .arr .i8 16 x3, .one [.i .i8 x4]]]) qGX
theorem qS0 (f : Nat) (x0 x1 : Int) (x2 x3 : List Int) (x4 : Int) : qGY (f + 1) x0 x1 x2 x3 x4 = qCJ (qGY f) x0 x1 x2 x3 x4 := by kernel_rfl
theorem qMU : ∀ f, qGY f = qAx f
 | 0 => rfl
 | f + 1 => by funext x0 x1 x2 x3 x4; rw [qS0, qMU f]; rfl
theorem qS3 : LoopSound Tryz.prog qDr 0 (loopOf Tryz.f37 2) :=
 loopSound_by mixed qMS (AllP.of (l' := []) (by kernel_rfl) trivial) (q := 2) (kin := [1, 2, 5]) (kout := [4]) (by kernel_rfl) (by kernel_rfl) fun vs objs K r h => by
  replace h : qGZ vs objs K = some r := h
  unfold qGZ at h
  split at h
  ·skip
   obtain ⟨t, h1, h2⟩ := ob_ok h
   rw [← qMU] at h1
   refine ⟨_, qGX, t, many, h1, fun e vs' objs' hd => ?_⟩
   unfold qGX at hd
   split at hd
   ·skip
    cases hd
    exact h2
   ·skip
    cases hd
    exact h2
   ·cases hd
  ·cases h
def qMT : V → List Obj → Option (Int) := fun v objs => match v, objs with
 | .s (.i .i64 y0), [] => some (y0)
 | _, _ => none
theorem qSz (x0 x1 : List Int) (x2 x3 : Int) : fnE qDr Tryz.f37 ([.agg [.arr .i8 81 x0, .arr .i8 16 x1, .one [.i .i8 x2]], .s (.i .i64 x3)]) ([]) qMT = qC0 x0 x1 x2 x3 := by kernel_rfl
def qMR {R : Type} (o : Orc) (vs : List V) (objs : List Obj) (K : Bool → V → List Obj → Option R) : Option R := match vs, objs with
 | [.agg [.arr .i8 81 x0, .arr .i8 16 x1, .one [.i .i8 x2]], .s (.i .i64 x3)], [] => ob (qC0 x0 x1 x2 x3) fun y0 => K false (.s (.i .i64 y0)) ([])
 | _, _ => o 37 vs objs K
def qMV (o : Orc) : Orc := hook 37 (qMR o) o
theorem qS2 (o : Orc) (ho : OSound Tryz.prog o) : OSound Tryz.prog (qMV o) := hook_ok ho fun vs objs K r h => by
 unfold qMR at h
 split at h
 ·skip
  obtain ⟨t, h1, h2⟩ := ob_ok h
  refine anyOK_of mixed qMS (fn := Tryz.f37) (b := (Tryz.f37).body.getD .skip) (by kernel_rfl) (by kernel_rfl) (by kernel_rfl) ((qSz _ _ _ _).trans h1) (m := 0) rfl (AllP.of (l' := [loopOf Tryz.f37 2]) (by kernel_rfl) ⟨qS3, trivial⟩) fun v objs' hd => ?_
  unfold qMT at hd
  split at hd
  ·skip
   cases hd
   exact h2
  ·cases hd
 ·exact ho _ _ _ _ _ h
def qLQ : Ctx := mkC 8 (oNil) [] lpNil
theorem qRz : CtxOK Tryz.prog qLQ := mkC_ok (oNil_ok)
def qLR : V → List Obj → Option (Int) := fun v objs => match v, objs with
 | .s (.i .i64 y0), [] => some (y0)
 | _, _ => none
theorem qRy (x0 : Int) : fnE qLQ Tryz.f108 ([.s (.i .i64 x0)]) ([]) qLR = qAq x0 := by kernel_rfl
def qLP {R : Type} (o : Orc) (vs : List V) (objs : List Obj) (K : Bool → V → List Obj → Option R) : Option R := match vs, objs with
 | [.s (.i .i64 x0)], [] => ob (qAq x0) fun y0 => K false (.s (.i .i64 y0)) ([])
 | _, _ => o 108 vs objs K
def qLS (o : Orc) : Orc := hook 108 (qLP o) o
theorem qR0 (o : Orc) (ho : OSound Tryz.prog o) : OSound Tryz.prog (qLS o) := hook_ok ho fun vs objs K r h => by
 unfold qLP at h
 split at h
 ·skip
  obtain ⟨t, h1, h2⟩ := ob_ok h
  refine anyOK_of mixed qRz (fn := Tryz.f108) (b := (Tryz.f108).body.getD .skip) (by kernel_rfl) (by kernel_rfl) (by kernel_rfl) ((qRy _).trans h1) (m := 0) rfl (AllP.of (l' := []) (by kernel_rfl) trivial) fun v objs' hd => ?_
  unfold qLR at hd
  split at hd
  ·skip
   cases hd
   exact h2
  ·cases hd
 ·exact ho _ _ _ _ _ h
def qLM : Ctx := mkC 125 ((qj (qAp (qLS oNil)))) [] lpNil
theorem qRw : CtxOK Tryz.prog qLM := mkC_ok ((q7 _ (qBR _ (qR0 _ oNil_ok))))
def qLN : V → List Obj → Option (Bool) := fun v objs => match v, objs with
 | .s (.b y0), [] => some (y0)
 | _, _ => none
theorem qRv (x0 x1 x2 : Int) : fnE qLM Tryz.f75 ([.s (.i .i64 x0), .s (.i .i64 x1), .s (.i .i64 x2)]) ([]) qLN = qCu x0 x1 x2 := by kernel_rfl
def qLL {R : Type} (o : Orc) (vs : List V) (objs : List Obj) (K : Bool → V → List Obj → Option R) : Option R := match vs, objs with
 | [.s (.i .i64 x0), .s (.i .i64 x1), .s (.i .i64 x2)], [] => ob (qCu x0 x1 x2) fun y0 => K false (.s (.b y0)) ([])
 | _, _ => o 75 vs objs K
def qLO (o : Orc) : Orc := hook 75 (qLL o) o
theorem qRx (o : Orc) (ho : OSound Tryz.prog o) : OSound Tryz.prog (qLO o) := hook_ok ho fun vs objs K r h => by
 unfold qLL at h
 split at h
 ·skip
  obtain ⟨t, h1, h2⟩ := ob_ok h
  refine anyOK_of mixed qRw (fn := Tryz.f75) (b := (Tryz.f75).body.getD .skip) (by kernel_rfl) (by kernel_rfl) (by kernel_rfl) ((qRv _ _ _).trans h1) (m := 0) rfl (AllP.of (l' := []) (by kernel_rfl) trivial) fun v objs' hd => ?_
  unfold qLN at hd
  split at hd
  ·skip
   cases hd
   exact h2
  ·cases hd
 ·exact ho _ _ _ _ _ h
def qLe : Ctx := mkC 51 (oNil) [] lpNil
theorem qSC : CtxOK Tryz.prog qLe := mkC_ok (oNil_ok)
def qLf : V → List Obj → Option (Int) := fun v objs => match v, objs with
 | .s (.i .i64 y0), [] => some (y0)
 | _, _ => none
theorem qSB (x0 x1 : Int) : fnE qLe Tryz.f76 ([.s (.i .i64 x0), .s (.i .i64 x1)]) ([]) qLf = qCD x0 x1 := by kernel_rfl
def qLd {R : Type} (o : Orc) (vs : List V) (objs : List Obj) (K : Bool → V → List Obj → Option R) : Option R := match vs, objs with
 | [.s (.i .i64 x0), .s (.i .i64 x1)], [] => ob (qCD x0 x1) fun y0 => K false (.s (.i .i64 y0)) ([])
 | _, _ => o 76 vs objs K
def qFw (o : Orc) : Orc := hook 76 (qLd o) o
theorem qLg (o : Orc) (ho : OSound Tryz.prog o) : OSound Tryz.prog (qFw o) := hook_ok ho fun vs objs K r h => by
 unfold qLd at h
 split at h
 ·skip
  obtain ⟨t, h1, h2⟩ := ob_ok h
  refine anyOK_of mixed qSC (fn := Tryz.f76) (b := (Tryz.f76).body.getD .skip) (by kernel_rfl) (by kernel_rfl) (by kernel_rfl) ((qSB _ _).trans h1) (m := 0) rfl (AllP.of (l' := []) (by kernel_rfl) trivial) fun v objs' hd => ?_
  unfold qLf at hd
  split at hd
  ·skip
   cases hd
   exact h2
  ·cases hd
 ·exact ho _ _ _ _ _ h
def qLl : Ctx := mkC 7 (oNil) [] lpNil
theorem qSG : CtxOK Tryz.prog qLl := mkC_ok (oNil_ok)
def qLm : V → List Obj → Option (Int) := fun v objs => match v, objs with
 | .s (.i .i64 y0), [] => some (y0)
 | _, _ => none
theorem qSF (x0 : Int) : fnE qLl Tryz.f125 ([.s (.i .i64 x0)]) ([]) qLm = qCE x0 := by kernel_rfl
def qLk {R : Type} (o : Orc) (vs : List V) (objs : List Obj) (K : Bool → V → List Obj → Option R) : Option R := match vs, objs with
 | [.s (.i .i64 x0)], [] => ob (qCE x0) fun y0 => K false (.s (.i .i64 y0)) ([])
 | _, _ => o 125 vs objs K
def qLn (o : Orc) : Orc := hook 125 (qLk o) o
theorem qSH (o : Orc) (ho : OSound Tryz.prog o) : OSound Tryz.prog (qLn o) := hook_ok ho fun vs objs K r h => by
 unfold qLk at h
 split at h
 ·skip
  obtain ⟨t, h1, h2⟩ := ob_ok h
  refine anyOK_of mixed qSG (fn := Tryz.f125) (b := (Tryz.f125).body.getD .skip) (by kernel_rfl) (by kernel_rfl) (by kernel_rfl) ((qSF _).trans h1) (m := 0) rfl (AllP.of (l' := []) (by kernel_rfl) trivial) fun v objs' hd => ?_
  unfold qLm at hd
  split at hd
  ·skip
   cases hd
   exact h2
  ·cases hd
 ·exact ho _ _ _ _ _ h
def qFq : Ex → List V → List Obj → Option (Nat × Nat × List Int) := fun e vs objs => match e, vs, objs with
 | .exit 0, [.s (.sl 0 0 y0 true)], [.sli 3 false (.arr .i64 y1 y2)] => some (y0, y1, y2)
 | _, _, _ => none
def qFs {R : Type} (vs : List V) (objs : List Obj) (K : Ex → List V → List Obj → Option R) : Option R := match vs, objs with
 | [.s (.i .i64 x0), .s (.sl 0 0 x1 true), .s (.i .i64 x2), .s (.i .i64 x3)], [.sli 3 false (.arr .i64 x4 x5)] => ob (qAr many x0 x1 x2 x3 x4 x5) fun z => K (.exit 0) ([.s (.sl 0 0 (z.1) true)]) ([.sli 3 false (.arr .i64 (z.2.1) (z.2.2))])
 | _, _ => none
def qR3 : {R : Type} → Nat → List V → List Obj → (Ex → List V → List Obj → Option R) → Option R := fun q vs objs K => bif Nat.beq q 6 then qFs vs objs K else none
def qDh : Ctx := mkC 41 ((qLn (qFw oNil))) [(6, [1, 5, 6, 7], [5])] qR3
theorem qLU : CtxOK Tryz.prog qDh := mkC_ok ((qSH _ (qLg _ oNil_ok)))
def qFr (f : Nat) (x0 : Int) (x1 : Nat) (x2 x3 : Int) (x4 : Nat) (x5 : List Int) : Option (Nat × Nat × List Int) := lrun qDh 0 [1, 5, 6, 7] [5] (loopOf Tryz.f109 6) f ([.s (.i .i64 x0), .s (.sl 0 0 x1 true), .s (.i .i64 x2), .s (.i .i64 x3)]) ([.sli 3 false (.arr .i64 x4 x5)]) qFq
theorem qR2 (f : Nat) (x0 : Int) (x1 : Nat) (x2 x3 : Int) (x4 : Nat) (x5 : List Int) : qFr (f + 1) x0 x1 x2 x3 x4 x5 = qCB (qFr f) x0 x1 x2 x3 x4 x5 := by kernel_rfl
theorem qLW : ∀ f, qFr f = qAr f
 | 0 => rfl
 | f + 1 => by funext x0 x1 x2 x3 x4 x5; rw [qR2, qLW f]; rfl
theorem qR5 : LoopSound Tryz.prog qDh 0 (loopOf Tryz.f109 6) :=
 loopSound_by mixed qLU (AllP.of (l' := []) (by kernel_rfl) trivial) (q := 6) (kin := [1, 5, 6, 7]) (kout := [5]) (by kernel_rfl) (by kernel_rfl) fun vs objs K r h => by
  replace h : qFs vs objs K = some r := h
  unfold qFs at h
  split at h
  ·skip
   obtain ⟨t, h1, h2⟩ := ob_ok h
   rw [← qLW] at h1
   refine ⟨_, qFq, t, many, h1, fun e vs' objs' hd => ?_⟩
   unfold qFq at hd
   split at hd
   ·skip
    cases hd
    exact h2
   ·cases hd
  ·cases h
def qLV : V → List Obj → Option (Nat × Nat × List Int) := fun v objs => match v, objs with
 | .s (.sl 0 0 y0 true), [.sli 3 false (.arr .i64 y1 y2)] => some (y0, y1, y2)
 | _, _ => none
theorem qR1 (x0 x1 : Int) : fnE qDh Tryz.f109 ([.s (.i .i64 x0), .s (.i .i64 x1)]) ([]) qLV = qCv x0 x1 := by kernel_rfl
def qLT {R : Type} (o : Orc) (vs : List V) (objs : List Obj) (K : Bool → V → List Obj → Option R) : Option R := match vs, objs with
 | [.s (.i .i64 x0), .s (.i .i64 x1)], [] => ob (qCv x0 x1) fun z => K false (.s (.sl 0 0 (z.1) true)) ([.sli 3 false (.arr .i64 (z.2.1) (z.2.2))])
 | _, _ => o 109 vs objs K
def qLX (o : Orc) : Orc := hook 109 (qLT o) o
theorem qR4 (o : Orc) (ho : OSound Tryz.prog o) : OSound Tryz.prog (qLX o) := hook_ok ho fun vs objs K r h => by
 unfold qLT at h
 split at h
 ·skip
  obtain ⟨t, h1, h2⟩ := ob_ok h
  refine anyOK_of mixed qLU (fn := Tryz.f109) (b := (Tryz.f109).body.getD .skip) (by kernel_rfl) (by kernel_rfl) (by kernel_rfl) ((qR1 _ _).trans h1) (m := 0) rfl (AllP.of (l' := [loopOf Tryz.f109 6]) (by kernel_rfl) ⟨qR5, trivial⟩) fun v objs' hd => ?_
  unfold qLV at hd
  split at hd
  ·skip
   cases hd
   exact h2
  ·cases hd
 ·exact ho _ _ _ _ _ h
def qFt : Ex → List V → List Obj → Option ((Bool) ⊕ (Unit)) := fun e vs objs => match e, vs, objs with
 | .ret, [.s (.b y0)], [] => some (.inl (y0))
 | .exit 0, [.s .bad], [] => some (.inr ())
 | _, _, _ => none
def qFv {R : Type} (vs : List V) (objs : List Obj) (K : Ex → List V → List Obj → Option R) : Option R := match vs, objs with
 | [.s (.ptr 0 0 none 0), .s (.sl 1 0 x0 true), .s (.i .i64 x1)], [.cells 70 [Seg.barr 81 x2], .sli 3 false (.arr .i64 x3 x4)] => ob (qAs many x0 x1 x2 x3 x4) fun t0 => sw t0 (fun y0 => K (.ret) ([.s (.b y0)]) ([])) (fun _ => K (.exit 0) ([.s .bad]) ([]))
 | _, _ => none
def qR8 : {R : Type} → Nat → List V → List Obj → (Ex → List V → List Obj → Option R) → Option R := fun q vs objs K => bif Nat.beq q 3 then qFv vs objs K else none
def qDi : Ctx := mkC 24 ((qLX oNil)) [(3, [5, 7, 8], [6])] qR8
theorem qLZ : CtxOK Tryz.prog qDi := mkC_ok ((qR4 _ oNil_ok))
def qFu (f : Nat) (x0 : Nat) (x1 : Int) (x2 : List Bool) (x3 : Nat) (x4 : List Int) : Option ((Bool) ⊕ (Unit)) := lrun qDi 0 [5, 7, 8] [6] (loopOf Tryz.f77 3) f ([.s (.ptr 0 0 none 0), .s (.sl 1 0 x0 true), .s (.i .i64 x1)]) ([.cells 70 [Seg.barr 81 x2], .sli 3 false (.arr .i64 x3 x4)]) qFt
theorem qR7 (f : Nat) (x0 : Nat) (x1 : Int) (x2 : List Bool) (x3 : Nat) (x4 : List Int) : qFu (f + 1) x0 x1 x2 x3 x4 = qCC (qFu f) x0 x1 x2 x3 x4 := by kernel_rfl
theorem qLb : ∀ f, qFu f = qAs f
 | 0 => rfl
 | f + 1 => by funext x0 x1 x2 x3 x4; rw [qR7, qLb f]; rfl
theorem qSA : LoopSound Tryz.prog qDi 0 (loopOf Tryz.f77 3) :=
 loopSound_by mixed qLZ (AllP.of (l' := []) (by kernel_rfl) trivial) (q := 3) (kin := [5, 7, 8]) (kout := [6]) (by kernel_rfl) (by kernel_rfl) fun vs objs K r h => by
  replace h : qFv vs objs K = some r := h
  unfold qFv at h
  split at h
  ·skip
   obtain ⟨t, h1, h2⟩ := ob_ok h
   rw [← qLb] at h1
   refine ⟨_, qFt, t, many, h1, fun e vs' objs' hd => ?_⟩
   unfold qFt at hd
   split at hd
   ·skip
    cases hd
    exact h2
   ·skip
    cases hd
    exact h2
   ·cases hd
  ·cases h
def qLa : V → List Obj → Option (Bool) := fun v objs => match v, objs with
 | .s (.b y0), [] => some (y0)
 | _, _ => none
theorem qR6 (x0 x1 : Int) (x2 : List Bool) : fnE qDi Tryz.f77 ([.s (.i .i64 x0), .s (.i .i64 x1), .agg [Seg.barr 81 x2]]) ([]) qLa = qE x0 x1 x2 := by kernel_rfl
def qLY {R : Type} (o : Orc) (vs : List V) (objs : List Obj) (K : Bool → V → List Obj → Option R) : Option R := match vs, objs with
 | [.s (.i .i64 x0), .s (.i .i64 x1), .agg [Seg.barr 81 x2]], [] => ob (qE x0 x1 x2) fun y0 => K false (.s (.b y0)) ([])
 | _, _ => o 77 vs objs K
def qLc (o : Orc) : Orc := hook 77 (qLY o) o
theorem qR9 (o : Orc) (ho : OSound Tryz.prog o) : OSound Tryz.prog (qLc o) := hook_ok ho fun vs objs K r h => by
 unfold qLY at h
 split at h
 ·skip
  obtain ⟨t, h1, h2⟩ := ob_ok h
  refine anyOK_of mixed qLZ (fn := Tryz.f77) (b := (Tryz.f77).body.getD .skip) (by kernel_rfl) (by kernel_rfl) (by kernel_rfl) ((qR6 _ _ _).trans h1) (m := 0) rfl (AllP.of (l' := [loopOf Tryz.f77 3]) (by kernel_rfl) ⟨qSA, trivial⟩) fun v objs' hd => ?_
  unfold qLa at hd
  split at hd
  ·skip
   cases hd
   exact h2
  ·cases hd
 ·exact ho _ _ _ _ _ h
def qLi : Ctx := mkC 63 ((qLc (qj (qAp (qFw (qLO oNil)))))) [] lpNil
theorem qSE : CtxOK Tryz.prog qLi := mkC_ok ((qR9 _ (q7 _ (qBR _ (qLg _ (qRx _ oNil_ok))))))
def qLj : V → List Obj → Option (Bool) := fun v objs => match v, objs with
 | .s (.b y0), [] => some (y0)
 | _, _ => none
theorem qSD (x0 x1 x2 : Int) (x3 : List Bool) : fnE qLi Tryz.f39 ([.s (.i .i64 x0), .s (.i .i64 x1), .s (.i .i64 x2), .agg [Seg.barr 81 x3]]) ([]) qLj = qAt x0 x1 x2 x3 := by kernel_rfl
def qLh {R : Type} (o : Orc) (vs : List V) (objs : List Obj) (K : Bool → V → List Obj → Option R) : Option R := match vs, objs with
 | [.s (.i .i64 x0), .s (.i .i64 x1), .s (.i .i64 x2), .agg [Seg.barr 81 x3]], [] => ob (qAt x0 x1 x2 x3) fun y0 => K false (.s (.b y0)) ([])
 | _, _ => o 39 vs objs K
def qDj (o : Orc) : Orc := hook 39 (qLh o) o
theorem qFx (o : Orc) (ho : OSound Tryz.prog o) : OSound Tryz.prog (qDj o) := hook_ok ho fun vs objs K r h => by
 unfold qLh at h
 split at h
 ·skip
  obtain ⟨t, h1, h2⟩ := ob_ok h
  refine anyOK_of mixed qSE (fn := Tryz.f39) (b := (Tryz.f39).body.getD .skip) (by kernel_rfl) (by kernel_rfl) (by kernel_rfl) ((qSD _ _ _ _).trans h1) (m := 0) rfl (AllP.of (l' := []) (by kernel_rfl) trivial) fun v objs' hd => ?_
  unfold qLj at hd
  split at hd
  ·skip
   cases hd
   exact h2
  ·cases hd
 ·exact ho _ _ _ _ _ h
def qGU : Ex → List V → List Obj → Option ((Bool) ⊕ (Unit)) := fun e vs objs => match e, vs, objs with
 | .ret, [.s (.b y0)], [] => some (.inl (y0))
 | .exit 0, [.s .bad], [] => some (.inr ())
 | _, _, _ => none
def qGW {R : Type} (vs : List V) (objs : List Obj) (K : Ex → List V → List Obj → Option R) : Option R := match vs, objs with
 | [.s (.i .i64 x0), .s (.ptr 0 0 none 0), .s (.ptr 1 0 none 0), .s (.i .i64 x1), .s (.i .i64 x2)], [.cells 28 [.arr .i8 81 x3, .arr .i8 16 x4, .one [.i .i8 x5]], .cells 70 [Seg.barr 81 x6]] => ob (qAw many x0 x1 x2 x3 x4 x5 x6) fun t0 => sw t0 (fun y0 => K (.ret) ([.s (.b y0)]) ([])) (fun _ => K (.exit 0) ([.s .bad]) ([]))
 | _, _ => none
def qSx : {R : Type} → Nat → List V → List Obj → (Ex → List V → List Obj → Option R) → Option R := fun q vs objs K => bif Nat.beq q 6 then qGW vs objs K else none
def qDq : Ctx := mkC 39 ((qDj (qAp (qMV (qDo oNil))))) [(6, [1, 2, 5, 6, 7], [4])] qSx
theorem qMO : CtxOK Tryz.prog qDq := mkC_ok ((qFx _ (qBR _ (qS2 _ (qGP _ oNil_ok)))))
def qGV (f : Nat) (x0 x1 x2 : Int) (x3 x4 : List Int) (x5 : Int) (x6 : List Bool) : Option ((Bool) ⊕ (Unit)) := lrun qDq 0 [1, 2, 5, 6, 7] [4] (loopOf Tryz.f24 6) f ([.s (.i .i64 x0), .s (.ptr 0 0 none 0), .s (.ptr 1 0 none 0), .s (.i .i64 x1), .s (.i .i64 x2)]) ([.cells 28 [.arr .i8 81 x3, .arr .i8 16 x4, .one [.i .i8 x5]], .cells 70 [Seg.barr 81 x6]]) qGU
theorem qSw (f : Nat) (x0 x1 x2 : Int) (x3 x4 : List Int) (x5 : Int) (x6 : List Bool) : qGV (f + 1) x0 x1 x2 x3 x4 x5 x6 = qCH (qGV f) x0 x1 x2 x3 x4 x5 x6 := by kernel_rfl
theorem qMQ : ∀ f, qGV f = qAw f
 | 0 => rfl
 | f + 1 => by funext x0 x1 x2 x3 x4 x5 x6; rw [qSw, qMQ f]; rfl
theorem qSy : LoopSound Tryz.prog qDq 0 (loopOf Tryz.f24 6) :=
 loopSound_by mixed qMO (AllP.of (l' := []) (by kernel_rfl) trivial) (q := 6) (kin := [1, 2, 5, 6, 7]) (kout := [4]) (by kernel_rfl) (by kernel_rfl) fun vs objs K r h => by
  replace h : qGW vs objs K = some r := h
  unfold qGW at h
  split at h
  ·skip
   obtain ⟨t, h1, h2⟩ := ob_ok h
   rw [← qMQ] at h1
   refine ⟨_, qGU, t, many, h1, fun e vs' objs' hd => ?_⟩
   unfold qGU at hd
   split at hd
   ·skip
    cases hd
    exact h2
   ·skip
    cases hd
    exact h2
   ·cases hd
  ·cases h
def qMP : V → List Obj → Option (Bool) := fun v objs => match v, objs with
 | .s (.b y0), [] => some (y0)
 | _, _ => none
theorem qSv (x0 x1 : List Int) (x2 x3 : Int) : fnE qDq Tryz.f24 ([.agg [.arr .i8 81 x0, .arr .i8 16 x1, .one [.i .i8 x2]], .s (.i .i64 x3)]) ([]) qMP = qAU x0 x1 x2 x3 := by kernel_rfl
def qMN {R : Type} (o : Orc) (vs : List V) (objs : List Obj) (K : Bool → V → List Obj → Option R) : Option R := match vs, objs with
 | [.agg [.arr .i8 81 x0, .arr .i8 16 x1, .one [.i .i8 x2]], .s (.i .i64 x3)], [] => ob (qAU x0 x1 x2 x3) fun y0 => K false (.s (.b y0)) ([])
 | _, _ => o 24 vs objs K
def qCI (o : Orc) : Orc := hook 24 (qMN o) o
theorem qCz (o : Orc) (ho : OSound Tryz.prog o) : OSound Tryz.prog (qCI o) := hook_ok ho fun vs objs K r h => by
 unfold qMN at h
 split at h
 ·skip
  obtain ⟨t, h1, h2⟩ := ob_ok h
  refine anyOK_of mixed qMO (fn := Tryz.f24) (b := (Tryz.f24).body.getD .skip) (by kernel_rfl) (by kernel_rfl) (by kernel_rfl) ((qSv _ _ _ _).trans h1) (m := 0) rfl (AllP.of (l' := [loopOf Tryz.f24 6]) (by kernel_rfl) ⟨qSy, trivial⟩) fun v objs' hd => ?_
  unfold qMP at hd
  split at hd
  ·skip
   cases hd
   exact h2
  ·cases hd
 ·exact ho _ _ _ _ _ h
def qMK : Ctx := mkC 15 ((qCI (qLw oNil))) [] lpNil
theorem qSt : CtxOK Tryz.prog qMK := mkC_ok ((qCz _ (qSQ _ oNil_ok)))
def qML : V → List Obj → Option (Int) := fun v objs => match v, objs with
 | .s (.i .i64 y0), [] => some (y0)
 | _, _ => none
theorem qSs (x0 x1 : List Int) (x2 : Int) : fnE qMK Tryz.f8 ([.agg [.arr .i8 81 x0, .arr .i8 16 x1, .one [.i .i8 x2]]]) ([]) qML = qCy x0 x1 x2 := by kernel_rfl
def qMJ {R : Type} (o : Orc) (vs : List V) (objs : List Obj) (K : Bool → V → List Obj → Option R) : Option R := match vs, objs with
 | [.agg [.arr .i8 81 x0, .arr .i8 16 x1, .one [.i .i8 x2]]], [] => ob (qCy x0 x1 x2) fun y0 => K false (.s (.i .i64 y0)) ([])
 | _, _ => o 8 vs objs K
def qMM (o : Orc) : Orc := hook 8 (qMJ o) o
theorem qSu (o : Orc) (ho : OSound Tryz.prog o) : OSound Tryz.prog (qMM o) := hook_ok ho fun vs objs K r h => by
 unfold qMJ at h
 split at h
 ·skip
  obtain ⟨t, h1, h2⟩ := ob_ok h
  refine anyOK_of mixed qSt (fn := Tryz.f8) (b := (Tryz.f8).body.getD .skip) (by kernel_rfl) (by kernel_rfl) (by kernel_rfl) ((qSs _ _ _).trans h1) (m := 0) rfl (AllP.of (l' := []) (by kernel_rfl) trivial) fun v objs' hd => ?_
  unfold qML at hd
  split at hd
  ·skip
   cases hd
   exact h2
  ·cases hd
 ·exact ho _ _ _ _ _ h
def qMG : Ctx := mkC 44 (oNil) [] lpNil
theorem qSq : CtxOK Tryz.prog qMG := mkC_ok (oNil_ok)
def qMH : V → List Obj → Option (Int) := fun v objs => match v, objs with
 | .s (.i .i64 y0), [] => some (y0)
 | _, _ => none
theorem qSp (x0 x1 x2 : Int) (x3 : Bool) : fnE qMG Tryz.f129 ([.agg [.one [.i .i64 x0, .i .i64 x1, .i .i64 x2, .b x3]]]) ([]) qMH = qCx x0 x1 x2 x3 := by kernel_rfl
def qMF {R : Type} (o : Orc) (vs : List V) (objs : List Obj) (K : Bool → V → List Obj → Option R) : Option R := match vs, objs with
 | [.agg [.one [.i .i64 x0, .i .i64 x1, .i .i64 x2, .b x3]]], [] => ob (qCx x0 x1 x2 x3) fun y0 => K false (.s (.i .i64 y0)) ([])
 | _, _ => o 129 vs objs K
def qMI (o : Orc) : Orc := hook 129 (qMF o) o
theorem qSr (o : Orc) (ho : OSound Tryz.prog o) : OSound Tryz.prog (qMI o) := hook_ok ho fun vs objs K r h => by
 unfold qMF at h
 split at h
 ·skip
  obtain ⟨t, h1, h2⟩ := ob_ok h
  refine anyOK_of mixed qSq (fn := Tryz.f129) (b := (Tryz.f129).body.getD .skip) (by kernel_rfl) (by kernel_rfl) (by kernel_rfl) ((qSp _ _ _ _).trans h1) (m := 0) rfl (AllP.of (l' := []) (by kernel_rfl) trivial) fun v objs' hd => ?_
  unfold qMH at hd
  split at hd
  ·skip
   cases hd
   exact h2
  ·cases hd
 ·exact ho _ _ _ _ _ h
def qLC : Ctx := mkC 15 (oNil) [] lpNil
theorem qRq : CtxOK Tryz.prog qLC := mkC_ok (oNil_ok)
def qLD : V → List Obj → Option (Int) := fun v objs => match v, objs with
 | .s (.i .i64 y0), [] => some (y0)
 | _, _ => none
theorem qRp (x0 : Int) : fnE qLC Tryz.f130 ([.s (.i .i64 x0)]) ([]) qLD = qAR x0 := by kernel_rfl
def qLB {R : Type} (o : Orc) (vs : List V) (objs : List Obj) (K : Bool → V → List Obj → Option R) : Option R := match vs, objs with
 | [.s (.i .i64 x0)], [] => ob (qAR x0) fun y0 => K false (.s (.i .i64 y0)) ([])
 | _, _ => o 130 vs objs K
def qDf (o : Orc) : Orc := hook 130 (qLB o) o
theorem qFn (o : Orc) (ho : OSound Tryz.prog o) : OSound Tryz.prog (qDf o) := hook_ok ho fun vs objs K r h => by
 unfold qLB at h
 split at h
 ·skip
  obtain ⟨t, h1, h2⟩ := ob_ok h
  refine anyOK_of mixed qRq (fn := Tryz.f130) (b := (Tryz.f130).body.getD .skip) (by kernel_rfl) (by kernel_rfl) (by kernel_rfl) ((qRp _).trans h1) (m := 0) rfl (AllP.of (l' := []) (by kernel_rfl) trivial) fun v objs' hd => ?_
  unfold qLD at hd
  split at hd
  ·skip
   cases hd
   exact h2
  ·cases hd
 ·exact ho _ _ _ _ _ h
def qMa : Ctx := mkC 75 ((qDf (qj (qAp (qMI oNil))))) [] lpNil
theorem qS7 : CtxOK Tryz.prog qMa := mkC_ok ((qFn _ (q7 _ (qBR _ (qSr _ oNil_ok)))))
def qMb : V → List Obj → Option (Bool) := fun v objs => match v, objs with
 | .s (.b y0), [] => some (y0)
 | _, _ => none
theorem qS6 (x0 x1 : List Int) (x2 x3 : Int) (x4 x5 : Int) (x6 : Bool) : fnE qMa Tryz.f122 ([.agg [.arr .i8 81 x0, .arr .i8 16 x1, .one [.i .i8 x2]], .agg [.one [.i .i64 x3, .i .i64 x4, .i .i64 x5, .b x6]]]) ([]) qMb = qC2 x0 x1 x2 x3 x4 x5 x6 := by kernel_rfl
def qMZ {R : Type} (o : Orc) (vs : List V) (objs : List Obj) (K : Bool → V → List Obj → Option R) : Option R := match vs, objs with
 | [.agg [.arr .i8 81 x0, .arr .i8 16 x1, .one [.i .i8 x2]], .agg [.one [.i .i64 x3, .i .i64 x4, .i .i64 x5, .b x6]]], [] => ob (qC2 x0 x1 x2 x3 x4 x5 x6) fun y0 => K false (.s (.b y0)) ([])
 | _, _ => o 122 vs objs K
def qMc (o : Orc) : Orc := hook 122 (qMZ o) o
theorem qS8 (o : Orc) (ho : OSound Tryz.prog o) : OSound Tryz.prog (qMc o) := hook_ok ho fun vs objs K r h => by
 unfold qMZ at h
 split at h
 ·skip
  obtain ⟨t, h1, h2⟩ := ob_ok h
  refine anyOK_of mixed qS7 (fn := Tryz.f122) (b := (Tryz.f122).body.getD .skip) (by kernel_rfl) (by kernel_rfl) (by kernel_rfl) ((qS6 _ _ _ _ _ _ _).trans h1) (m := 0) rfl (AllP.of (l' := []) (by kernel_rfl) trivial) fun v objs' hd => ?_
  unfold qMb at hd
  split at hd
  ·skip
   cases hd
   exact h2
  ·cases hd
 ·exact ho _ _ _ _ _ h
def qMl : Ctx := mkC 35 ((qFp (qAp (qDf (qj oNil))))) [] lpNil
theorem qTK : CtxOK Tryz.prog qMl := mkC_ok ((qLK _ (qBR _ (qFn _ (q7 _ oNil_ok)))))
def qMm : V → List Obj → Option (Bool) := fun v objs => match v, objs with
 | .s (.b y0), [] => some (y0)
 | _, _ => none
theorem qTJ (x0 x1 x2 : Int) : fnE qMl Tryz.f123 ([.s (.i .i64 x0), .s (.i .i64 x1), .s (.i .i64 x2)]) ([]) qMm = qC4 x0 x1 x2 := by kernel_rfl
def qMk {R : Type} (o : Orc) (vs : List V) (objs : List Obj) (K : Bool → V → List Obj → Option R) : Option R := match vs, objs with
 | [.s (.i .i64 x0), .s (.i .i64 x1), .s (.i .i64 x2)], [] => ob (qC4 x0 x1 x2) fun y0 => K false (.s (.b y0)) ([])
 | _, _ => o 123 vs objs K
def qMn (o : Orc) : Orc := hook 123 (qMk o) o
theorem qTL (o : Orc) (ho : OSound Tryz.prog o) : OSound Tryz.prog (qMn o) := hook_ok ho fun vs objs K r h => by
 unfold qMk at h
 split at h
 ·skip
  obtain ⟨t, h1, h2⟩ := ob_ok h
  refine anyOK_of mixed qTK (fn := Tryz.f123) (b := (Tryz.f123).body.getD .skip) (by kernel_rfl) (by kernel_rfl) (by kernel_rfl) ((qTJ _ _ _).trans h1) (m := 0) rfl (AllP.of (l' := []) (by kernel_rfl) trivial) fun v objs' hd => ?_
  unfold qMm at hd
  split at hd
  ·skip
   cases hd
   exact h2
  ·cases hd
 ·exact ho _ _ _ _ _ h
def qMt : Ctx := mkC 14 ((qDg (qDf (qj oNil)))) [] lpNil
theorem qTQ : CtxOK Tryz.prog qMt := mkC_ok ((qFo _ (qFn _ (q7 _ oNil_ok))))
def qMu : V → List Obj → Option (Bool) := fun v objs => match v, objs with
 | .s (.b y0), [] => some (y0)
 | _, _ => none
theorem qTP (x0 x1 : Int) : fnE qMt Tryz.f124 ([.s (.i .i64 x0), .s (.i .i64 x1)]) ([]) qMu = qC5 x0 x1 := by kernel_rfl
def qMs {R : Type} (o : Orc) (vs : List V) (objs : List Obj) (K : Bool → V → List Obj → Option R) : Option R := match vs, objs with
 | [.s (.i .i64 x0), .s (.i .i64 x1)], [] => ob (qC5 x0 x1) fun y0 => K false (.s (.b y0)) ([])
 | _, _ => o 124 vs objs K
def qMv (o : Orc) : Orc := hook 124 (qMs o) o
theorem qTR (o : Orc) (ho : OSound Tryz.prog o) : OSound Tryz.prog (qMv o) := hook_ok ho fun vs objs K r h => by
 unfold qMs at h
 split at h
 ·skip
  obtain ⟨t, h1, h2⟩ := ob_ok h
  refine anyOK_of mixed qTQ (fn := Tryz.f124) (b := (Tryz.f124).body.getD .skip) (by kernel_rfl) (by kernel_rfl) (by kernel_rfl) ((qTP _ _).trans h1) (m := 0) rfl (AllP.of (l' := []) (by kernel_rfl) trivial) fun v objs' hd => ?_
  unfold qMu at hd
  split at hd
  ·skip
   cases hd
   exact h2
  ·cases hd
 ·exact ho _ _ _ _ _ h
def qMp : Ctx := mkC 70 ((qMv (qMn (qDj (qDo (qDm (qDg (qMc oNil)))))))) [] lpNil
theorem qTN : CtxOK Tryz.prog qMp := mkC_ok ((qTR _ (qTL _ (qFx _ (qGP _ (qGL _ (qFo _ (qS8 _ oNil_ok))))))))
def qMq : V → List Obj → Option (Bool) := fun v objs => match v, objs with
 | .s (.b y0), [] => some (y0)
 | _, _ => none
theorem qTM (x0 x1 : List Int) (x2 x3 : Int) (x4 x5 : Int) (x6 : Bool) : fnE qMp Tryz.f103 ([.agg [.arr .i8 81 x0, .arr .i8 16 x1, .one [.i .i8 x2]], .agg [.one [.i .i64 x3, .i .i64 x4, .i .i64 x5, .b x6]]]) ([]) qMq = qA1 x0 x1 x2 x3 x4 x5 x6 := by kernel_rfl
def qMo {R : Type} (o : Orc) (vs : List V) (objs : List Obj) (K : Bool → V → List Obj → Option R) : Option R := match vs, objs with
 | [.agg [.arr .i8 81 x0, .arr .i8 16 x1, .one [.i .i8 x2]], .agg [.one [.i .i64 x3, .i .i64 x4, .i .i64 x5, .b x6]]], [] => ob (qA1 x0 x1 x2 x3 x4 x5 x6) fun y0 => K false (.s (.b y0)) ([])
 | _, _ => o 103 vs objs K
def qMr (o : Orc) : Orc := hook 103 (qMo o) o
theorem qTO (o : Orc) (ho : OSound Tryz.prog o) : OSound Tryz.prog (qMr o) := hook_ok ho fun vs objs K r h => by
 unfold qMo at h
 split at h
 ·skip
  obtain ⟨t, h1, h2⟩ := ob_ok h
  refine anyOK_of mixed qTN (fn := Tryz.f103) (b := (Tryz.f103).body.getD .skip) (by kernel_rfl) (by kernel_rfl) (by kernel_rfl) ((qTM _ _ _ _ _ _ _).trans h1) (m := 0) rfl (AllP.of (l' := []) (by kernel_rfl) trivial) fun v objs' hd => ?_
  unfold qMq at hd
  split at hd
  ·skip
   cases hd
   exact h2
  ·cases hd
 ·exact ho _ _ _ _ _ h
def qGa : Ex → List V → List Obj → Option (Nat × Int × List Int × List Int × Int × Nat × List (List Int) × List Bool) := fun e vs objs => match e, vs, objs with
 | .exit 2, [.s (.ptr 0 0 none 0), .s (.sl 1 0 y0 true), .s (.ptr 2 0 none 0), .s (.i .i64 y1)], [.cells 28 [.arr .i8 81 y2, .arr .i8 16 y3, .one [.i .i8 y4]], .sli 39 false (.rows [.i .i64, .i .i64, .i .i64, .b] y5 y6), .cells 70 [Seg.barr 81 y7]] => some (y0, y1, y2, y3, y4, y5, y6, y7)
 | _, _, _ => none
def qGg : Ex → List V → List Obj → Option (Nat × List Int × List Int × Int × Nat × List (List Int)) := fun e vs objs => match e, vs, objs with
 | .exit 0, [.s (.ptr 0 0 none 0), .s (.sl 1 0 y0 true)], [.cells 28 [.arr .i8 81 y1, .arr .i8 16 y2, .one [.i .i8 y3]], .sli 39 false (.rows [.i .i64, .i .i64, .i .i64, .b] y4 y5)] => some (y0, y1, y2, y3, y4, y5)
 | _, _, _ => none
def qGe : Ex → List V → List Obj → Option (Nat × Int × List Int × List Int × Int × Nat × List (List Int)) := fun e vs objs => match e, vs, objs with
 | .exit 6, [.s (.ptr 0 0 none 0), .s (.sl 1 0 y0 true), .s (.i .i64 y1)], [.cells 28 [.arr .i8 81 y2, .arr .i8 16 y3, .one [.i .i8 y4]], .sli 39 false (.rows [.i .i64, .i .i64, .i .i64, .b] y5 y6)] => some (y0, y1, y2, y3, y4, y5, y6)
 | _, _, _ => none
def qGc : Ex → List V → List Obj → Option (Nat × Nat × List (List Int)) := fun e vs objs => match e, vs, objs with
 | .exit 4, [.s (.sl 0 0 y0 true)], [.sli 39 false (.rows [.i .i64, .i .i64, .i .i64, .b] y1 y2)] => some (y0, y1, y2)
 | _, _, _ => none
def qGj {R : Type} (vs : List V) (objs : List Obj) (K : Ex → List V → List Obj → Option R) : Option R := match vs, objs with
 | [.s (.ptr 0 0 none 0), .s (.sl 1 0 x0 true), .s (.ptr 2 0 none 0), .s (.i .i64 x1), .s (.i .i64 x2)], [.cells 28 [.arr .i8 81 x3, .arr .i8 16 x4, .one [.i .i8 x5]], .sli 39 false (.rows [.i .i64, .i .i64, .i .i64, .b] x6 x7), .cells 70 [Seg.barr 81 x8]] => ob (qAz many x0 x1 x2 x3 x4 x5 x6 x7 x8) fun z => K (.exit 2) ([.s (.ptr 0 0 none 0), .s (.sl 1 0 (z.1) true), .s (.ptr 2 0 none 0), .s (.i .i64 (z.2.1))]) ([.cells 28 [.arr .i8 81 (z.2.2.1), .arr .i8 16 (z.2.2.2.1), .one [.i .i8 (z.2.2.2.2.1)]], .sli 39 false (.rows [.i .i64, .i .i64, .i .i64, .b] (z.2.2.2.2.2.1) (z.2.2.2.2.2.2.1)), .cells 70 [Seg.barr 81 (z.2.2.2.2.2.2.2)]])
 | _, _ => none
def qGm {R : Type} (vs : List V) (objs : List Obj) (K : Ex → List V → List Obj → Option R) : Option R := match vs, objs with
 | [.s (.ptr 0 0 none 0), .s (.sl 1 0 x0 true), .s (.ptr 2 0 none 0), .s (.i .i64 x1)], [.cells 28 [.arr .i8 81 x2, .arr .i8 16 x3, .one [.i .i8 x4]], .sli 39 false (.rows [.i .i64, .i .i64, .i .i64, .b] x5 x6), .cells 70 [Seg.barr 81 x7]] => ob (qAJ many x0 x1 x2 x3 x4 x5 x6 x7) fun z => K (.exit 0) ([.s (.ptr 0 0 none 0), .s (.sl 1 0 (z.1) true)]) ([.cells 28 [.arr .i8 81 (z.2.1), .arr .i8 16 (z.2.2.1), .one [.i .i8 (z.2.2.2.1)]], .sli 39 false (.rows [.i .i64, .i .i64, .i .i64, .b] (z.2.2.2.2.1) (z.2.2.2.2.2))])
 | _, _ => none
def qGl {R : Type} (vs : List V) (objs : List Obj) (K : Ex → List V → List Obj → Option R) : Option R := match vs, objs with
 | [.s (.ptr 0 0 none 0), .s (.sl 1 0 x0 true), .s (.i .i64 x1), .s (.i .i64 x2)], [.cells 28 [.arr .i8 81 x3, .arr .i8 16 x4, .one [.i .i8 x5]], .sli 39 false (.rows [.i .i64, .i .i64, .i .i64, .b] x6 x7)] => ob (qA0 many x0 x1 x2 x3 x4 x5 x6 x7) fun z => K (.exit 6) ([.s (.ptr 0 0 none 0), .s (.sl 1 0 (z.1) true), .s (.i .i64 (z.2.1))]) ([.cells 28 [.arr .i8 81 (z.2.2.1), .arr .i8 16 (z.2.2.2.1), .one [.i .i8 (z.2.2.2.2.1)]], .sli 39 false (.rows [.i .i64, .i .i64, .i .i64, .b] (z.2.2.2.2.2.1) (z.2.2.2.2.2.2))])
 | _, _ => none
def qGk {R : Type} (vs : List V) (objs : List Obj) (K : Ex → List V → List Obj → Option R) : Option R := match vs, objs with
 | [.s (.ptr 0 0 none 0), .s (.sl 1 0 x0 true), .s (.i .i64 x1)], [.cells 28 [.arr .i8 81 x2, .arr .i8 16 x3, .one [.i .i8 x4]], .sli 39 false (.rows [.i .i64, .i .i64, .i .i64, .b] x5 x6)] => ob (qAI many x0 x1 x2 x3 x4 x5 x6) fun z => K (.exit 4) ([.s (.sl 0 0 (z.1) true)]) ([.sli 39 false (.rows [.i .i64, .i .i64, .i .i64, .b] (z.2.1) (z.2.2))])
 | _, _ => none
def qTE : {R : Type} → Nat → List V → List Obj → (Ex → List V → List Obj → Option R) → Option R := fun q vs objs K => bif Nat.beq q 10 then qGj vs objs K else bif Nat.beq q 6 then qGm vs objs K else bif Nat.beq q 23 then qGl vs objs K else bif Nat.beq q 20 then qGk vs objs K else none
def qAH : Ctx := mkC 98 ((qMr (qDj (qAp (qDo oNil))))) [(6, [1, 3, 4, 5], [1, 3]), (10, [1, 3, 4, 5, 6], [1, 3, 4, 5]), (20, [1, 3, 8], [3]), (23, [1, 3, 8, 9], [1, 3, 8])] qTE
theorem qC3 : CtxOK Tryz.prog qAH := mkC_ok ((qTO _ (qFx _ (qBR _ (qGP _ oNil_ok)))))
def qGb (f : Nat) (x0 : Nat) (x1 x2 : Int) (x3 x4 : List Int) (x5 : Int) (x6 : Nat) (x7 : List (List Int)) (x8 : List Bool) : Option (Nat × Int × List Int × List Int × Int × Nat × List (List Int) × List Bool) := lrun qAH 0 [1, 3, 4, 5, 6] [1, 3, 4, 5] (loopOf Tryz.f59 10) f ([.s (.ptr 0 0 none 0), .s (.sl 1 0 x0 true), .s (.ptr 2 0 none 0), .s (.i .i64 x1), .s (.i .i64 x2)]) ([.cells 28 [.arr .i8 81 x3, .arr .i8 16 x4, .one [.i .i8 x5]], .sli 39 false (.rows [.i .i64, .i .i64, .i .i64, .b] x6 x7), .cells 70 [Seg.barr 81 x8]]) qGa
theorem qTA (f : Nat) (x0 : Nat) (x1 x2 : Int) (x3 x4 : List Int) (x5 : Int) (x6 : Nat) (x7 : List (List Int)) (x8 : List Bool) : qGb (f + 1) x0 x1 x2 x3 x4 x5 x6 x7 x8 = qCL (qGb f) x0 x1 x2 x3 x4 x5 x6 x7 x8 := by kernel_rfl
theorem qMf : ∀ f, qGb f = qAz f
 | 0 => rfl
 | f + 1 => by funext x0 x1 x2 x3 x4 x5 x6 x7 x8; rw [qTA, qMf f]; rfl
def qGh (f : Nat) (x0 : Nat) (x1 : Int) (x2 x3 : List Int) (x4 : Int) (x5 : Nat) (x6 : List (List Int)) (x7 : List Bool) : Option (Nat × List Int × List Int × Int × Nat × List (List Int)) := lrun qAH 0 [1, 3, 4, 5] [1, 3] (loopOf Tryz.f59 6) f ([.s (.ptr 0 0 none 0), .s (.sl 1 0 x0 true), .s (.ptr 2 0 none 0), .s (.i .i64 x1)]) ([.cells 28 [.arr .i8 81 x2, .arr .i8 16 x3, .one [.i .i8 x4]], .sli 39 false (.rows [.i .i64, .i .i64, .i .i64, .b] x5 x6), .cells 70 [Seg.barr 81 x7]]) qGg
theorem qTD (f : Nat) (x0 : Nat) (x1 : Int) (x2 x3 : List Int) (x4 : Int) (x5 : Nat) (x6 : List (List Int)) (x7 : List Bool) : qGh (f + 1) x0 x1 x2 x3 x4 x5 x6 x7 = qCO (qGh f) x0 x1 x2 x3 x4 x5 x6 x7 := by kernel_rfl
theorem qMi : ∀ f, qGh f = qAJ f
 | 0 => rfl
 | f + 1 => by funext x0 x1 x2 x3 x4 x5 x6 x7; rw [qTD, qMi f]; rfl
def qGf (f : Nat) (x0 : Nat) (x1 x2 : Int) (x3 x4 : List Int) (x5 : Int) (x6 : Nat) (x7 : List (List Int)) : Option (Nat × Int × List Int × List Int × Int × Nat × List (List Int)) := lrun qAH 0 [1, 3, 8, 9] [1, 3, 8] (loopOf Tryz.f59 23) f ([.s (.ptr 0 0 none 0), .s (.sl 1 0 x0 true), .s (.i .i64 x1), .s (.i .i64 x2)]) ([.cells 28 [.arr .i8 81 x3, .arr .i8 16 x4, .one [.i .i8 x5]], .sli 39 false (.rows [.i .i64, .i .i64, .i .i64, .b] x6 x7)]) qGe
theorem qTC (f : Nat) (x0 : Nat) (x1 x2 : Int) (x3 x4 : List Int) (x5 : Int) (x6 : Nat) (x7 : List (List Int)) : qGf (f + 1) x0 x1 x2 x3 x4 x5 x6 x7 = qCN (qGf f) x0 x1 x2 x3 x4 x5 x6 x7 := by kernel_rfl
theorem qMh : ∀ f, qGf f = qA0 f
 | 0 => rfl
 | f + 1 => by funext x0 x1 x2 x3 x4 x5 x6 x7; rw [qTC, qMh f]; rfl
def qGd (f : Nat) (x0 : Nat) (x1 : Int) (x2 x3 : List Int) (x4 : Int) (x5 : Nat) (x6 : List (List Int)) : Option (Nat × Nat × List (List Int)) := lrun qAH 0 [1, 3, 8] [3] (loopOf Tryz.f59 20) f ([.s (.ptr 0 0 none 0), .s (.sl 1 0 x0 true), .s (.i .i64 x1)]) ([.cells 28 [.arr .i8 81 x2, .arr .i8 16 x3, .one [.i .i8 x4]], .sli 39 false (.rows [.i .i64, .i .i64, .i .i64, .b] x5 x6)]) qGc
theorem qTB (f : Nat) (x0 : Nat) (x1 : Int) (x2 x3 : List Int) (x4 : Int) (x5 : Nat) (x6 : List (List Int)) : qGd (f + 1) x0 x1 x2 x3 x4 x5 x6 = qCM (qGd f) x0 x1 x2 x3 x4 x5 x6 := by kernel_rfl
theorem qMg : ∀ f, qGd f = qAI f
 | 0 => rfl
 | f + 1 => by funext x0 x1 x2 x3 x4 x5 x6; rw [qTB, qMg f]; rfl
theorem qTF : LoopSound Tryz.prog qAH 0 (loopOf Tryz.f59 10) :=
 loopSound_by mixed qC3 (AllP.of (l' := []) (by kernel_rfl) trivial) (q := 10) (kin := [1, 3, 4, 5, 6]) (kout := [1, 3, 4, 5]) (by kernel_rfl) (by kernel_rfl) fun vs objs K r h => by
  replace h : qGj vs objs K = some r := h
  unfold qGj at h
  split at h
  ·skip
   obtain ⟨t, h1, h2⟩ := ob_ok h
   rw [← qMf] at h1
   refine ⟨_, qGa, t, many, h1, fun e vs' objs' hd => ?_⟩
   unfold qGa at hd
   split at hd
   ·skip
    cases hd
    exact h2
   ·cases hd
  ·cases h
theorem qTH : LoopSound Tryz.prog qAH 0 (loopOf Tryz.f59 23) :=
 loopSound_by mixed qC3 (AllP.of (l' := []) (by kernel_rfl) trivial) (q := 23) (kin := [1, 3, 8, 9]) (kout := [1, 3, 8]) (by kernel_rfl) (by kernel_rfl) fun vs objs K r h => by
  replace h : qGl vs objs K = some r := h
  unfold qGl at h
  split at h
  ·skip
   obtain ⟨t, h1, h2⟩ := ob_ok h
   rw [← qMh] at h1
   refine ⟨_, qGe, t, many, h1, fun e vs' objs' hd => ?_⟩
   unfold qGe at hd
   split at hd
   ·skip
    cases hd
    exact h2
   ·cases hd
  ·cases h
theorem qTI : LoopSound Tryz.prog qAH 0 (loopOf Tryz.f59 6) :=
 loopSound_by mixed qC3 (AllP.of (l' := [loopOf Tryz.f59 10]) (by kernel_rfl) ⟨qTF, trivial⟩) (q := 6) (kin := [1, 3, 4, 5]) (kout := [1, 3]) (by kernel_rfl) (by kernel_rfl) fun vs objs K r h => by
  replace h : qGm vs objs K = some r := h
  unfold qGm at h
  split at h
  ·skip
   obtain ⟨t, h1, h2⟩ := ob_ok h
   rw [← qMi] at h1
   refine ⟨_, qGg, t, many, h1, fun e vs' objs' hd => ?_⟩
   unfold qGg at hd
   split at hd
   ·skip
    cases hd
    exact h2
   ·cases hd
  ·cases h
theorem qTG : LoopSound Tryz.prog qAH 0 (loopOf Tryz.f59 20) :=
 loopSound_by mixed qC3 (AllP.of (l' := [loopOf Tryz.f59 23]) (by kernel_rfl) ⟨qTH, trivial⟩) (q := 20) (kin := [1, 3, 8]) (kout := [3]) (by kernel_rfl) (by kernel_rfl) fun vs objs K r h => by
  replace h : qGk vs objs K = some r := h
  unfold qGk at h
  split at h
  ·skip
   obtain ⟨t, h1, h2⟩ := ob_ok h
   rw [← qMg] at h1
   refine ⟨_, qGc, t, many, h1, fun e vs' objs' hd => ?_⟩
   unfold qGc at hd
   split at hd
   ·skip
    cases hd
    exact h2
   ·cases hd
  ·cases h
def qMe : V → List Obj → Option (Nat × Nat × List (List Int)) := fun v objs => match v, objs with
 | .s (.sl 0 0 y0 true), [.sli 39 false (.rows [.i .i64, .i .i64, .i .i64, .b] y1 y2)] => some (y0, y1, y2)
 | _, _ => none
theorem qS9 (x0 x1 : List Int) (x2 : Int) : fnE qAH Tryz.f59 ([.agg [.arr .i8 81 x0, .arr .i8 16 x1, .one [.i .i8 x2]]]) ([]) qMe = qCK x0 x1 x2 := by kernel_rfl
def qMd {R : Type} (o : Orc) (vs : List V) (objs : List Obj) (K : Bool → V → List Obj → Option R) : Option R := match vs, objs with
 | [.agg [.arr .i8 81 x0, .arr .i8 16 x1, .one [.i .i8 x2]]], [] => ob (qCK x0 x1 x2) fun z => K false (.s (.sl 0 0 (z.1) true)) ([.sli 39 false (.rows [.i .i64, .i .i64, .i .i64, .b] (z.2.1) (z.2.2))])
 | _, _ => o 59 vs objs K
def qGi (o : Orc) : Orc := hook 59 (qMd o) o
theorem qMj (o : Orc) (ho : OSound Tryz.prog o) : OSound Tryz.prog (qGi o) := hook_ok ho fun vs objs K r h => by
 unfold qMd at h
 split at h
 ·skip
  obtain ⟨t, h1, h2⟩ := ob_ok h
  refine anyOK_of mixed qC3 (fn := Tryz.f59) (b := (Tryz.f59).body.getD .skip) (by kernel_rfl) (by kernel_rfl) (by kernel_rfl) ((qS9 _ _ _).trans h1) (m := 0) rfl (AllP.of (l' := [loopOf Tryz.f59 6, loopOf Tryz.f59 20]) (by kernel_rfl) ⟨qTI, qTG, trivial⟩) fun v objs' hd => ?_
  unfold qMe at hd
  split at hd
  ·skip
   cases hd
   exact h2
  ·cases hd
 ·exact ho _ _ _ _ _ h
def qMX : Ctx := mkC 82 ((qFm (qj oNil))) [] lpNil
theorem qS5 : CtxOK Tryz.prog qMX := mkC_ok ((qK3 _ (q7 _ oNil_ok)))
def qMY : V → List Obj → Option (List Int × List Int × Int) := fun v objs => match v, objs with
 | .agg [.arr .i8 81 y0, .arr .i8 16 y1, .one [.i .i8 y2]], [] => some (y0, y1, y2)
 | _, _ => none
theorem qS4 (x0 x1 : List Int) (x2 x3 : Int) (x4 x5 : Int) (x6 : Bool) : fnE qMX Tryz.f32 ([.agg [.arr .i8 81 x0, .arr .i8 16 x1, .one [.i .i8 x2]], .agg [.one [.i .i64 x3, .i .i64 x4, .i .i64 x5, .b x6]]]) ([]) qMY = qAy x0 x1 x2 x3 x4 x5 x6 := by kernel_rfl
def qMW {R : Type} (o : Orc) (vs : List V) (objs : List Obj) (K : Bool → V → List Obj → Option R) : Option R := match vs, objs with
 | [.agg [.arr .i8 81 x0, .arr .i8 16 x1, .one [.i .i8 x2]], .agg [.one [.i .i64 x3, .i .i64 x4, .i .i64 x5, .b x6]]], [] => ob (qAy x0 x1 x2 x3 x4 x5 x6) fun z => K false (.agg [.arr .i8 81 (z.1), .arr .i8 16 (z.2.1), .one [.i .i8 (z.2.2)]]) ([])
 | _, _ => o 32 vs objs K
def qC1 (o : Orc) : Orc := hook 32 (qMW o) o
theorem qDs (o : Orc) (ho : OSound Tryz.prog o) : OSound Tryz.prog (qC1 o) := hook_ok ho fun vs objs K r h => by
 unfold qMW at h
 split at h
 ·skip
  obtain ⟨t, h1, h2⟩ := ob_ok h
  refine anyOK_of mixed qS5 (fn := Tryz.f32) (b := (Tryz.f32).body.getD .skip) (by kernel_rfl) (by kernel_rfl) (by kernel_rfl) ((qS4 _ _ _ _ _ _ _).trans h1) (m := 0) rfl (AllP.of (l' := []) (by kernel_rfl) trivial) fun v objs' hd => ?_
  unfold qMY at hd
  split at hd
  ·skip
   cases hd
   exact h2
  ·cases hd
 ·exact ho _ _ _ _ _ h
def qNB : Ctx := mkC 13 ((qCI (qC1 oNil))) [] lpNil
theorem qTf : CtxOK Tryz.prog qNB := mkC_ok ((qCz _ (qDs _ oNil_ok)))
def qNC : V → List Obj → Option (Bool) := fun v objs => match v, objs with
 | .s (.b y0), [] => some (y0)
 | _, _ => none
theorem qTe (x0 x1 : List Int) (x2 x3 : Int) (x4 x5 : Int) (x6 : Bool) : fnE qNB Tryz.f104 ([.agg [.arr .i8 81 x0, .arr .i8 16 x1, .one [.i .i8 x2]], .agg [.one [.i .i64 x3, .i .i64 x4, .i .i64 x5, .b x6]]]) ([]) qNC = qCS x0 x1 x2 x3 x4 x5 x6 := by kernel_rfl
def qNA {R : Type} (o : Orc) (vs : List V) (objs : List Obj) (K : Bool → V → List Obj → Option R) : Option R := match vs, objs with
 | [.agg [.arr .i8 81 x0, .arr .i8 16 x1, .one [.i .i8 x2]], .agg [.one [.i .i64 x3, .i .i64 x4, .i .i64 x5, .b x6]]], [] => ob (qCS x0 x1 x2 x3 x4 x5 x6) fun y0 => K false (.s (.b y0)) ([])
 | _, _ => o 104 vs objs K
def qGu (o : Orc) : Orc := hook 104 (qNA o) o
theorem qND (o : Orc) (ho : OSound Tryz.prog o) : OSound Tryz.prog (qGu o) := hook_ok ho fun vs objs K r h => by
 unfold qNA at h
 split at h
 ·skip
  obtain ⟨t, h1, h2⟩ := ob_ok h
  refine anyOK_of mixed qTf (fn := Tryz.f104) (b := (Tryz.f104).body.getD .skip) (by kernel_rfl) (by kernel_rfl) (by kernel_rfl) ((qTe _ _ _ _ _ _ _).trans h1) (m := 0) rfl (AllP.of (l' := []) (by kernel_rfl) trivial) fun v objs' hd => ?_
  unfold qNC at hd
  split at hd
  ·skip
   cases hd
   exact h2
  ·cases hd
 ·exact ho _ _ _ _ _ h
def qGv : Ex → List V → List Obj → Option ((Bool) ⊕ (Unit)) := fun e vs objs => match e, vs, objs with
 | .ret, [.s (.b y0)], [] => some (.inl (y0))
 | .exit 0, [.s .bad], [] => some (.inr ())
 | _, _, _ => none
def qGx {R : Type} (vs : List V) (objs : List Obj) (K : Ex → List V → List Obj → Option R) : Option R := match vs, objs with
 | [.s (.ptr 0 0 none 0), .s (.sl 1 0 x0 true), .s (.i .i64 x1)], [.cells 28 [.arr .i8 81 x2, .arr .i8 16 x3, .one [.i .i8 x4]], .sli 39 false (.rows [.i .i64, .i .i64, .i .i64, .b] x5 x6)] => ob (qA4 many x0 x1 x2 x3 x4 x5 x6) fun t0 => sw t0 (fun y0 => K (.ret) ([.s (.b y0)]) ([])) (fun _ => K (.exit 0) ([.s .bad]) ([]))
 | _, _ => none
def qTi : {R : Type} → Nat → List V → List Obj → (Ex → List V → List Obj → Option R) → Option R := fun q vs objs K => bif Nat.beq q 3 then qGx vs objs K else none
def qDv : Ctx := mkC 19 ((qGu (qGi oNil))) [(3, [1, 3, 4], [2])] qTi
theorem qNF : CtxOK Tryz.prog qDv := mkC_ok ((qND _ (qMj _ oNil_ok)))
def qGw (f : Nat) (x0 : Nat) (x1 : Int) (x2 x3 : List Int) (x4 : Int) (x5 : Nat) (x6 : List (List Int)) : Option ((Bool) ⊕ (Unit)) := lrun qDv 0 [1, 3, 4] [2] (loopOf Tryz.f105 3) f ([.s (.ptr 0 0 none 0), .s (.sl 1 0 x0 true), .s (.i .i64 x1)]) ([.cells 28 [.arr .i8 81 x2, .arr .i8 16 x3, .one [.i .i8 x4]], .sli 39 false (.rows [.i .i64, .i .i64, .i .i64, .b] x5 x6)]) qGv
theorem qTh (f : Nat) (x0 : Nat) (x1 : Int) (x2 x3 : List Int) (x4 : Int) (x5 : Nat) (x6 : List (List Int)) : qGw (f + 1) x0 x1 x2 x3 x4 x5 x6 = qCT (qGw f) x0 x1 x2 x3 x4 x5 x6 := by kernel_rfl
theorem qNH : ∀ f, qGw f = qA4 f
 | 0 => rfl
 | f + 1 => by funext x0 x1 x2 x3 x4 x5 x6; rw [qTh, qNH f]; rfl
theorem qTk : LoopSound Tryz.prog qDv 0 (loopOf Tryz.f105 3) :=
 loopSound_by mixed qNF (AllP.of (l' := []) (by kernel_rfl) trivial) (q := 3) (kin := [1, 3, 4]) (kout := [2]) (by kernel_rfl) (by kernel_rfl) fun vs objs K r h => by
  replace h : qGx vs objs K = some r := h
  unfold qGx at h
  split at h
  ·skip
   obtain ⟨t, h1, h2⟩ := ob_ok h
   rw [← qNH] at h1
   refine ⟨_, qGv, t, many, h1, fun e vs' objs' hd => ?_⟩
   unfold qGv at hd
   split at hd
   ·skip
    cases hd
    exact h2
   ·skip
    cases hd
    exact h2
   ·cases hd
  ·cases h
def qNG : V → List Obj → Option (Bool) := fun v objs => match v, objs with
 | .s (.b y0), [] => some (y0)
 | _, _ => none
theorem qTg (x0 x1 : List Int) (x2 : Int) : fnE qDv Tryz.f105 ([.agg [.arr .i8 81 x0, .arr .i8 16 x1, .one [.i .i8 x2]]]) ([]) qNG = qC8 x0 x1 x2 := by kernel_rfl
def qNE {R : Type} (o : Orc) (vs : List V) (objs : List Obj) (K : Bool → V → List Obj → Option R) : Option R := match vs, objs with
 | [.agg [.arr .i8 81 x0, .arr .i8 16 x1, .one [.i .i8 x2]]], [] => ob (qC8 x0 x1 x2) fun y0 => K false (.s (.b y0)) ([])
 | _, _ => o 105 vs objs K
def qNI (o : Orc) : Orc := hook 105 (qNE o) o
theorem qTj (o : Orc) (ho : OSound Tryz.prog o) : OSound Tryz.prog (qNI o) := hook_ok ho fun vs objs K r h => by
 unfold qNE at h
 split at h
 ·skip
  obtain ⟨t, h1, h2⟩ := ob_ok h
  refine anyOK_of mixed qNF (fn := Tryz.f105) (b := (Tryz.f105).body.getD .skip) (by kernel_rfl) (by kernel_rfl) (by kernel_rfl) ((qTg _ _ _).trans h1) (m := 0) rfl (AllP.of (l' := [loopOf Tryz.f105 3]) (by kernel_rfl) ⟨qTk, trivial⟩) fun v objs' hd => ?_
  unfold qNG at hd
  split at hd
  ·skip
   cases hd
   exact h2
  ·cases hd
 ·exact ho _ _ _ _ _ h
def qM7 : Ctx := mkC 27 ((qNI (qCI (qC1 (qGu oNil))))) [] lpNil
theorem qTc : CtxOK Tryz.prog qM7 := mkC_ok ((qTj _ (qCz _ (qDs _ (qND _ oNil_ok)))))
def qM8 : V → List Obj → Option (Bool) := fun v objs => match v, objs with
 | .s (.b y0), [] => some (y0)
 | _, _ => none
theorem qTb (x0 x1 : List Int) (x2 x3 : Int) (x4 x5 : Int) (x6 : Bool) : fnE qM7 Tryz.f60 ([.agg [.arr .i8 81 x0, .arr .i8 16 x1, .one [.i .i8 x2]], .agg [.one [.i .i64 x3, .i .i64 x4, .i .i64 x5, .b x6]]]) ([]) qM8 = qC7 x0 x1 x2 x3 x4 x5 x6 := by kernel_rfl
def qM6 {R : Type} (o : Orc) (vs : List V) (objs : List Obj) (K : Bool → V → List Obj → Option R) : Option R := match vs, objs with
 | [.agg [.arr .i8 81 x0, .arr .i8 16 x1, .one [.i .i8 x2]], .agg [.one [.i .i64 x3, .i .i64 x4, .i .i64 x5, .b x6]]], [] => ob (qC7 x0 x1 x2 x3 x4 x5 x6) fun y0 => K false (.s (.b y0)) ([])
 | _, _ => o 60 vs objs K
def qM9 (o : Orc) : Orc := hook 60 (qM6 o) o
theorem qTd (o : Orc) (ho : OSound Tryz.prog o) : OSound Tryz.prog (qM9 o) := hook_ok ho fun vs objs K r h => by
 unfold qM6 at h
 split at h
 ·skip
  obtain ⟨t, h1, h2⟩ := ob_ok h
  refine anyOK_of mixed qTc (fn := Tryz.f60) (b := (Tryz.f60).body.getD .skip) (by kernel_rfl) (by kernel_rfl) (by kernel_rfl) ((qTb _ _ _ _ _ _ _).trans h1) (m := 0) rfl (AllP.of (l' := []) (by kernel_rfl) trivial) fun v objs' hd => ?_
  unfold qM8 at hd
  split at hd
  ·skip
   cases hd
   exact h2
  ·cases hd
 ·exact ho _ _ _ _ _ h
def qGq : Ex → List V → List Obj → Option (Nat × Nat × List (List Int)) := fun e vs objs => match e, vs, objs with
 | .exit 0, [.s (.sl 0 0 y0 true)], [.sli 39 false (.rows [.i .i64, .i .i64, .i .i64, .b] y1 y2)] => some (y0, y1, y2)
 | _, _, _ => none
def qGt {R : Type} (vs : List V) (objs : List Obj) (K : Ex → List V → List Obj → Option R) : Option R := match vs, objs with
 | [.s (.ptr 0 0 none 0), .s (.sl 1 0 x0 true), .s (.sl 2 0 x1 true), .s (.i .i64 x2)], [.cells 28 [.arr .i8 81 x3, .arr .i8 16 x4, .one [.i .i8 x5]], .sli 39 false (.rows [.i .i64, .i .i64, .i .i64, .b] x6 x7), .sli 39 false (.rows [.i .i64, .i .i64, .i .i64, .b] x8 x9)] => ob (qA3 many x0 x1 x2 x3 x4 x5 x6 x7 x8 x9) fun z => K (.exit 0) ([.s (.sl 0 0 (z.1) true)]) ([.sli 39 false (.rows [.i .i64, .i .i64, .i .i64, .b] (z.2.1) (z.2.2))])
 | _, _ => none
def qTZ : {R : Type} → Nat → List V → List Obj → (Ex → List V → List Obj → Option R) → Option R := fun q vs objs K => bif Nat.beq q 4 then qGt vs objs K else none
def qDu : Ctx := mkC 28 ((qM9 (qGi oNil))) [(4, [1, 3, 4, 5], [3])] qTZ
theorem qM2 : CtxOK Tryz.prog qDu := mkC_ok ((qTd _ (qMj _ oNil_ok)))
def qGr (f : Nat) (x0 x1 : Nat) (x2 : Int) (x3 x4 : List Int) (x5 : Int) (x6 : Nat) (x7 : List (List Int)) (x8 : Nat) (x9 : List (List Int)) : Option (Nat × Nat × List (List Int)) := lrun qDu 0 [1, 3, 4, 5] [3] (loopOf Tryz.f30 4) f ([.s (.ptr 0 0 none 0), .s (.sl 1 0 x0 true), .s (.sl 2 0 x1 true), .s (.i .i64 x2)]) ([.cells 28 [.arr .i8 81 x3, .arr .i8 16 x4, .one [.i .i8 x5]], .sli 39 false (.rows [.i .i64, .i .i64, .i .i64, .b] x6 x7), .sli 39 false (.rows [.i .i64, .i .i64, .i .i64, .b] x8 x9)]) qGq
theorem qTY (f : Nat) (x0 x1 : Nat) (x2 : Int) (x3 x4 : List Int) (x5 : Int) (x6 : Nat) (x7 : List (List Int)) (x8 : Nat) (x9 : List (List Int)) : qGr (f + 1) x0 x1 x2 x3 x4 x5 x6 x7 x8 x9 = qCR (qGr f) x0 x1 x2 x3 x4 x5 x6 x7 x8 x9 := by kernel_rfl
theorem qM4 : ∀ f, qGr f = qA3 f
 | 0 => rfl
 | f + 1 => by funext x0 x1 x2 x3 x4 x5 x6 x7 x8 x9; rw [qTY, qM4 f]; rfl
theorem qTa : LoopSound Tryz.prog qDu 0 (loopOf Tryz.f30 4) :=
 loopSound_by mixed qM2 (AllP.of (l' := []) (by kernel_rfl) trivial) (q := 4) (kin := [1, 3, 4, 5]) (kout := [3]) (by kernel_rfl) (by kernel_rfl) fun vs objs K r h => by
  replace h : qGt vs objs K = some r := h
  unfold qGt at h
  split at h
  ·skip
   obtain ⟨t, h1, h2⟩ := ob_ok h
   rw [← qM4] at h1
   refine ⟨_, qGq, t, many, h1, fun e vs' objs' hd => ?_⟩
   unfold qGq at hd
   split at hd
   ·skip
    cases hd
    exact h2
   ·cases hd
  ·cases h
def qM3 : V → List Obj → Option (Nat × Nat × List (List Int)) := fun v objs => match v, objs with
 | .s (.sl 0 0 y0 true), [.sli 39 false (.rows [.i .i64, .i .i64, .i .i64, .b] y1 y2)] => some (y0, y1, y2)
 | _, _ => none
theorem qTX (x0 x1 : List Int) (x2 : Int) : fnE qDu Tryz.f30 ([.agg [.arr .i8 81 x0, .arr .i8 16 x1, .one [.i .i8 x2]]]) ([]) qM3 = qCQ x0 x1 x2 := by kernel_rfl
def qM1 {R : Type} (o : Orc) (vs : List V) (objs : List Obj) (K : Bool → V → List Obj → Option R) : Option R := match vs, objs with
 | [.agg [.arr .i8 81 x0, .arr .i8 16 x1, .one [.i .i8 x2]]], [] => ob (qCQ x0 x1 x2) fun z => K false (.s (.sl 0 0 (z.1) true)) ([.sli 39 false (.rows [.i .i64, .i .i64, .i .i64, .b] (z.2.1) (z.2.2))])
 | _, _ => o 30 vs objs K
def qGs (o : Orc) : Orc := hook 30 (qM1 o) o
theorem qM5 (o : Orc) (ho : OSound Tryz.prog o) : OSound Tryz.prog (qGs o) := hook_ok ho fun vs objs K r h => by
 unfold qM1 at h
 split at h
 ·skip
  obtain ⟨t, h1, h2⟩ := ob_ok h
  refine anyOK_of mixed qM2 (fn := Tryz.f30) (b := (Tryz.f30).body.getD .skip) (by kernel_rfl) (by kernel_rfl) (by kernel_rfl) ((qTX _ _ _).trans h1) (m := 0) rfl (AllP.of (l' := [loopOf Tryz.f30 4]) (by kernel_rfl) ⟨qTa, trivial⟩) fun v objs' hd => ?_
  unfold qM3 at hd
  split at hd
  ·skip
   cases hd
   exact h2
  ·cases hd
 ·exact ho _ _ _ _ _ h
def qNY : Ctx := mkC 7 ((qGs oNil)) [] lpNil
theorem qTy : CtxOK Tryz.prog qNY := mkC_ok ((qM5 _ oNil_ok))
def qNZ : V → List Obj → Option (Bool) := fun v objs => match v, objs with
 | .s (.b y0), [] => some (y0)
 | _, _ => none
theorem qTx (x0 x1 : List Int) (x2 : Int) : fnE qNY Tryz.f11 ([.agg [.arr .i8 81 x0, .arr .i8 16 x1, .one [.i .i8 x2]]]) ([]) qNZ = qDB x0 x1 x2 := by kernel_rfl
def qNX {R : Type} (o : Orc) (vs : List V) (objs : List Obj) (K : Bool → V → List Obj → Option R) : Option R := match vs, objs with
 | [.agg [.arr .i8 81 x0, .arr .i8 16 x1, .one [.i .i8 x2]]], [] => ob (qDB x0 x1 x2) fun y0 => K false (.s (.b y0)) ([])
 | _, _ => o 11 vs objs K
def qNa (o : Orc) : Orc := hook 11 (qNX o) o
theorem qTz (o : Orc) (ho : OSound Tryz.prog o) : OSound Tryz.prog (qNa o) := hook_ok ho fun vs objs K r h => by
 unfold qNX at h
 split at h
 ·skip
  obtain ⟨t, h1, h2⟩ := ob_ok h
  refine anyOK_of mixed qTy (fn := Tryz.f11) (b := (Tryz.f11).body.getD .skip) (by kernel_rfl) (by kernel_rfl) (by kernel_rfl) ((qTx _ _ _).trans h1) (m := 0) rfl (AllP.of (l' := []) (by kernel_rfl) trivial) fun v objs' hd => ?_
  unfold qNZ at hd
  split at hd
  ·skip
   cases hd
   exact h2
  ·cases hd
 ·exact ho _ _ _ _ _ h
def qNU : Ctx := mkC 12 ((qNa (qCI oNil))) [] lpNil
theorem qTv : CtxOK Tryz.prog qNU := mkC_ok ((qTz _ (qCz _ oNil_ok)))
def qNV : V → List Obj → Option (Bool) := fun v objs => match v, objs with
 | .s (.b y0), [] => some (y0)
 | _, _ => none
theorem qTu (x0 x1 : List Int) (x2 : Int) : fnE qNU Tryz.f13 ([.agg [.arr .i8 81 x0, .arr .i8 16 x1, .one [.i .i8 x2]]]) ([]) qNV = qDA x0 x1 x2 := by kernel_rfl
def qNT {R : Type} (o : Orc) (vs : List V) (objs : List Obj) (K : Bool → V → List Obj → Option R) : Option R := match vs, objs with
 | [.agg [.arr .i8 81 x0, .arr .i8 16 x1, .one [.i .i8 x2]]], [] => ob (qDA x0 x1 x2) fun y0 => K false (.s (.b y0)) ([])
 | _, _ => o 13 vs objs K
def qNW (o : Orc) : Orc := hook 13 (qNT o) o
theorem qTw (o : Orc) (ho : OSound Tryz.prog o) : OSound Tryz.prog (qNW o) := hook_ok ho fun vs objs K r h => by
 unfold qNT at h
 split at h
 ·skip
  obtain ⟨t, h1, h2⟩ := ob_ok h
  refine anyOK_of mixed qTv (fn := Tryz.f13) (b := (Tryz.f13).body.getD .skip) (by kernel_rfl) (by kernel_rfl) (by kernel_rfl) ((qTu _ _ _).trans h1) (m := 0) rfl (AllP.of (l' := []) (by kernel_rfl) trivial) fun v objs' hd => ?_
  unfold qNV at hd
  split at hd
  ·skip
   cases hd
   exact h2
  ·cases hd
 ·exact ho _ _ _ _ _ h
def qGy : Ex → List V → List Obj → Option (Nat × Nat × List (List Int)) := fun e vs objs => match e, vs, objs with
 | .exit 0, [.s (.sl 0 0 y0 true)], [.sli 39 false (.rows [.i .i64, .i .i64, .i .i64, .b] y1 y2)] => some (y0, y1, y2)
 | _, _, _ => none
def qG1 {R : Type} (vs : List V) (objs : List Obj) (K : Ex → List V → List Obj → Option R) : Option R := match vs, objs with
 | [.s (.ptr 0 0 none 0), .s (.sl 1 0 x0 true), .s (.sl 2 0 x1 true), .s (.i .i64 x2)], [.cells 28 [.arr .i8 81 x3, .arr .i8 16 x4, .one [.i .i8 x5]], .sli 39 false (.rows [.i .i64, .i .i64, .i .i64, .b] x6 x7), .sli 39 false (.rows [.i .i64, .i .i64, .i .i64, .b] x8 x9)] => ob (qA5 many x0 x1 x2 x3 x4 x5 x6 x7 x8 x9) fun z => K (.exit 0) ([.s (.sl 0 0 (z.1) true)]) ([.sli 39 false (.rows [.i .i64, .i .i64, .i .i64, .b] (z.2.1) (z.2.2))])
 | _, _ => none
def qTn : {R : Type} → Nat → List V → List Obj → (Ex → List V → List Obj → Option R) → Option R := fun q vs objs K => bif Nat.beq q 4 then qG1 vs objs K else none
def qDw : Ctx := mkC 33 ((qCI (qC1 (qGs oNil)))) [(4, [1, 3, 4, 5], [3])] qTn
theorem qNK : CtxOK Tryz.prog qDw := mkC_ok ((qCz _ (qDs _ (qM5 _ oNil_ok))))
def qGz (f : Nat) (x0 x1 : Nat) (x2 : Int) (x3 x4 : List Int) (x5 : Int) (x6 : Nat) (x7 : List (List Int)) (x8 : Nat) (x9 : List (List Int)) : Option (Nat × Nat × List (List Int)) := lrun qDw 0 [1, 3, 4, 5] [3] (loopOf Tryz.f16 4) f ([.s (.ptr 0 0 none 0), .s (.sl 1 0 x0 true), .s (.sl 2 0 x1 true), .s (.i .i64 x2)]) ([.cells 28 [.arr .i8 81 x3, .arr .i8 16 x4, .one [.i .i8 x5]], .sli 39 false (.rows [.i .i64, .i .i64, .i .i64, .b] x6 x7), .sli 39 false (.rows [.i .i64, .i .i64, .i .i64, .b] x8 x9)]) qGy
theorem qTm (f : Nat) (x0 x1 : Nat) (x2 : Int) (x3 x4 : List Int) (x5 : Int) (x6 : Nat) (x7 : List (List Int)) (x8 : Nat) (x9 : List (List Int)) : qGz (f + 1) x0 x1 x2 x3 x4 x5 x6 x7 x8 x9 = qCV (qGz f) x0 x1 x2 x3 x4 x5 x6 x7 x8 x9 := by kernel_rfl
theorem qNM : ∀ f, qGz f = qA5 f
 | 0 => rfl
 | f + 1 => by funext x0 x1 x2 x3 x4 x5 x6 x7 x8 x9; rw [qTm, qNM f]; rfl
theorem qTo : LoopSound Tryz.prog qDw 0 (loopOf Tryz.f16 4) :=
 loopSound_by mixed qNK (AllP.of (l' := []) (by kernel_rfl) trivial) (q := 4) (kin := [1, 3, 4, 5]) (kout := [3]) (by kernel_rfl) (by kernel_rfl) fun vs objs K r h => by
  replace h : qG1 vs objs K = some r := h
  unfold qG1 at h
  split at h
  ·skip
   obtain ⟨t, h1, h2⟩ := ob_ok h
   rw [← qNM] at h1
   refine ⟨_, qGy, t, many, h1, fun e vs' objs' hd => ?_⟩
   unfold qGy at hd
   split at hd
   ·skip
    cases hd
    exact h2
   ·cases hd
  ·cases h
def qNL : V → List Obj → Option (Nat × Nat × List (List Int)) := fun v objs => match v, objs with
 | .s (.sl 0 0 y0 true), [.sli 39 false (.rows [.i .i64, .i .i64, .i .i64, .b] y1 y2)] => some (y0, y1, y2)
 | _, _ => none
theorem qTl (x0 x1 : List Int) (x2 : Int) : fnE qDw Tryz.f16 ([.agg [.arr .i8 81 x0, .arr .i8 16 x1, .one [.i .i8 x2]]]) ([]) qNL = qCU x0 x1 x2 := by kernel_rfl
def qNJ {R : Type} (o : Orc) (vs : List V) (objs : List Obj) (K : Bool → V → List Obj → Option R) : Option R := match vs, objs with
 | [.agg [.arr .i8 81 x0, .arr .i8 16 x1, .one [.i .i8 x2]]], [] => ob (qCU x0 x1 x2) fun z => K false (.s (.sl 0 0 (z.1) true)) ([.sli 39 false (.rows [.i .i64, .i .i64, .i .i64, .b] (z.2.1) (z.2.2))])
 | _, _ => o 16 vs objs K
def qG0 (o : Orc) : Orc := hook 16 (qNJ o) o
theorem qNN (o : Orc) (ho : OSound Tryz.prog o) : OSound Tryz.prog (qG0 o) := hook_ok ho fun vs objs K r h => by
 unfold qNJ at h
 split at h
 ·skip
  obtain ⟨t, h1, h2⟩ := ob_ok h
  refine anyOK_of mixed qNK (fn := Tryz.f16) (b := (Tryz.f16).body.getD .skip) (by kernel_rfl) (by kernel_rfl) (by kernel_rfl) ((qTl _ _ _).trans h1) (m := 0) rfl (AllP.of (l' := [loopOf Tryz.f16 4]) (by kernel_rfl) ⟨qTo, trivial⟩) fun v objs' hd => ?_
  unfold qNL at hd
  split at hd
  ·skip
   cases hd
   exact h2
  ·cases hd
 ·exact ho _ _ _ _ _ h
def qGn : Ex → List V → List Obj → Option ((Bool × Nat × List (List Int) × Nat × List (List Int)) ⊕ (Nat × List (List Int) × Nat × List (List Int))) := fun e vs objs => match e, vs, objs with
 | .ret, [.s (.b y0)], [.sli 39 true (.rows [.i .i64, .i .i64, .i .i64, .b] y1 y2), .sli 39 true (.rows [.i .i64, .i .i64, .i .i64, .b] y3 y4)] => some (.inl (y0, y1, y2, y3, y4))
 | .exit 0, [.s .bad], [.sli 39 true (.rows [.i .i64, .i .i64, .i .i64, .b] y0 y1), .sli 39 true (.rows [.i .i64, .i .i64, .i .i64, .b] y2 y3)] => some (.inr (y0, y1, y2, y3))
 | _, _, _ => none
def qGp {R : Type} (vs : List V) (objs : List Obj) (K : Ex → List V → List Obj → Option R) : Option R := match vs, objs with
 | [.s (.sl 0 0 x0 true), .s (.sl 1 0 x1 true), .s (.i .i64 x2)], [.sli 39 true (.rows [.i .i64, .i .i64, .i .i64, .b] x3 x4), .sli 39 true (.rows [.i .i64, .i .i64, .i .i64, .b] x5 x6)] => ob (qA2 many x0 x1 x2 x3 x4 x5 x6) fun t0 => sw t0 (fun z => K (.ret) ([.s (.b (z.1))]) ([.sli 39 true (.rows [.i .i64, .i .i64, .i .i64, .b] (z.2.1) (z.2.2.1)), .sli 39 true (.rows [.i .i64, .i .i64, .i .i64, .b] (z.2.2.2.1) (z.2.2.2.2))])) (fun z => K (.exit 0) ([.s .bad]) ([.sli 39 true (.rows [.i .i64, .i .i64, .i .i64, .b] (z.1) (z.2.1)), .sli 39 true (.rows [.i .i64, .i .i64, .i .i64, .b] (z.2.2.1) (z.2.2.2))]))
 | _, _ => none
def qTU : {R : Type} → Nat → List V → List Obj → (Ex → List V → List Obj → Option R) → Option R := fun q vs objs K => bif Nat.beq q 4 then qGp vs objs K else none
def qDt : Ctx := mkC 26 (oNil) [(4, [0, 1, 5], [4])] qTU
theorem qMx : CtxOK Tryz.prog qDt := mkC_ok (oNil_ok)
def qGo (f : Nat) (x0 x1 : Nat) (x2 : Int) (x3 : Nat) (x4 : List (List Int)) (x5 : Nat) (x6 : List (List Int)) : Option ((Bool × Nat × List (List Int) × Nat × List (List Int)) ⊕ (Nat × List (List Int) × Nat × List (List Int))) := lrun qDt 2 [0, 1, 5] [4] (loopOf Tryz.f14 4) f ([.s (.sl 0 0 x0 true), .s (.sl 1 0 x1 true), .s (.i .i64 x2)]) ([.sli 39 true (.rows [.i .i64, .i .i64, .i .i64, .b] x3 x4), .sli 39 true (.rows [.i .i64, .i .i64, .i .i64, .b] x5 x6)]) qGn
theorem qTT (f : Nat) (x0 x1 : Nat) (x2 : Int) (x3 : Nat) (x4 : List (List Int)) (x5 : Nat) (x6 : List (List Int)) : qGo (f + 1) x0 x1 x2 x3 x4 x5 x6 = qCP (qGo f) x0 x1 x2 x3 x4 x5 x6 := by kernel_rfl
theorem qMz : ∀ f, qGo f = qA2 f
 | 0 => rfl
 | f + 1 => by funext x0 x1 x2 x3 x4 x5 x6; rw [qTT, qMz f]; rfl
theorem qTW : LoopSound Tryz.prog qDt 2 (loopOf Tryz.f14 4) :=
 loopSound_by mixed qMx (AllP.of (l' := []) (by kernel_rfl) trivial) (q := 4) (kin := [0, 1, 5]) (kout := [4]) (by kernel_rfl) (by kernel_rfl) fun vs objs K r h => by
  replace h : qGp vs objs K = some r := h
  unfold qGp at h
  split at h
  ·skip
   obtain ⟨t, h1, h2⟩ := ob_ok h
   rw [← qMz] at h1
   refine ⟨_, qGn, t, many, h1, fun e vs' objs' hd => ?_⟩
   unfold qGn at hd
   split at hd
   ·skip
    cases hd
    exact h2
   ·skip
    cases hd
    exact h2
   ·cases hd
  ·cases h
def qMy : V → List Obj → Option (Bool) := fun v objs => match v, objs with
 | .s (.b y0), [] => some (y0)
 | _, _ => none
theorem qTS (x0 x1 x2 : Nat) (x3 : List (List Int)) (x4 : Nat) (x5 : List (List Int)) : fnE qDt Tryz.f14 ([.s (.sl 0 0 x0 true), .s (.sl 1 0 x1 true)]) ([.sli 39 true (.rows [.i .i64, .i .i64, .i .i64, .b] x2 x3), .sli 39 true (.rows [.i .i64, .i .i64, .i .i64, .b] x4 x5)]) (pureD 2 qMy) = qC6 x0 x1 x2 x3 x4 x5 := by kernel_rfl
def qMw {R : Type} (o : Orc) (vs : List V) (objs : List Obj) (K : Bool → V → List Obj → Option R) : Option R := match vs, List.map Obj.toRO objs with
 | [.s (.sl 0 0 x0 true), .s (.sl 1 0 x1 true)], [.sli 39 true (.rows [.i .i64, .i .i64, .i .i64, .b] x2 x3), .sli 39 true (.rows [.i .i64, .i .i64, .i .i64, .b] x4 x5)] => ob (qC6 x0 x1 x2 x3 x4 x5) fun y0 => K true (.s (.b y0)) ([])
 | _, _ => o 14 vs objs K
def qM0 (o : Orc) : Orc := hook 14 (qMw o) o
theorem qTV (o : Orc) (ho : OSound Tryz.prog o) : OSound Tryz.prog (qM0 o) := hook_ok ho fun vs objs K r h => by
 unfold qMw at h
 split at h
 ·skip
  have hq : List.map Obj.toRO objs = _ := (by rename_i hq; first | exact hq | assumption)
  obtain ⟨t, h1, h2⟩ := ob_ok h
  refine purOK_by mixed qMx (m := 2) (fn := Tryz.f14) (b := (Tryz.f14).body.getD .skip) (by kernel_rfl) (by kernel_rfl) (by kernel_rfl) hq (by kernel_rfl) (by kernel_rfl) (AllP.of (l' := [loopOf Tryz.f14 4]) (by kernel_rfl) ⟨qTW, trivial⟩) ((qTS _ _ _ _ _ _).trans h1) fun v objs' hd => ?_
  unfold qMy at hd
  split at hd
  ·skip
   cases hd
   exact h2
  ·cases hd
 ·exact ho _ _ _ _ _ h
end
end Go.Kk.KkMS
