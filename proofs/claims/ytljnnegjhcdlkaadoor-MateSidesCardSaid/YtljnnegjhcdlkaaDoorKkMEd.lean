/- Printed by a tool of this project (KkGen): the program's functions come to the plain ones. -/
import Derived.Test.YtljnnegjhcdlkaaDoorKkMEc
namespace Go.Kk.KkME
open Go.Proofs Go.Kk.Pl
set_option maxRecDepth 100000
set_option maxHeartbeats 4000000
noncomputable def ref05_Checkl4d : Ex → List V → List Obj → Option ((Int × List Int × List Int × Int) ⊕ (List Int × List Int × Int)) := fun e vs objs => match e, vs, objs with
 | .ret, [.s (.ptr 0 0 none 0), .s (.i .i64 y0)], [.cells 28 [.arr .i8 81 y1, .arr .i8 16 y2, .one [.i .i8 y3]]] => some (.inl (y0, y1, y2, y3))
 | .exit 0, [.s (.ptr 0 0 none 0), .s .bad], [.cells 28 [.arr .i8 81 y0, .arr .i8 16 y1, .one [.i .i8 y2]]] => some (.inr (y0, y1, y2))
 | _, _, _ => none
noncomputable def ref05_Checkl12d : Ex → List V → List Obj → Option ((Int × Int × List Int × List Int × Int) ⊕ (Int × List Int × List Int × Int)) := fun e vs objs => match e, vs, objs with
 | .ret, [.s (.ptr 0 0 none 0), .s (.i .i64 y0), .s (.i .i64 y1)], [.cells 28 [.arr .i8 81 y2, .arr .i8 16 y3, .one [.i .i8 y4]]] => some (.inl (y0, y1, y2, y3, y4))
 | .exit 4, [.s (.ptr 0 0 none 0), .s .bad, .s (.i .i64 y0)], [.cells 28 [.arr .i8 81 y1, .arr .i8 16 y2, .one [.i .i8 y3]]] => some (.inr (y0, y1, y2, y3))
 | _, _, _ => none
noncomputable def ref05_Checkl9d : Ex → List V → List Obj → Option ((Int × List Int × List Int × Int) ⊕ (List Int × List Int × Int)) := fun e vs objs => match e, vs, objs with
 | .ret, [.s (.ptr 0 0 none 0), .s (.i .i64 y0)], [.cells 28 [.arr .i8 81 y1, .arr .i8 16 y2, .one [.i .i8 y3]]] => some (.inl (y0, y1, y2, y3))
 | .exit 2, [.s (.ptr 0 0 none 0), .s .bad], [.cells 28 [.arr .i8 81 y0, .arr .i8 16 y1, .one [.i .i8 y2]]] => some (.inr (y0, y1, y2))
 | _, _, _ => none
noncomputable def ref05_Checkl20d : Ex → List V → List Obj → Option ((Int × List Int × List Int × Int) ⊕ (List Int × List Int × Int)) := fun e vs objs => match e, vs, objs with
 | .ret, [.s (.ptr 0 0 none 0), .s (.i .i64 y0)], [.cells 28 [.arr .i8 81 y1, .arr .i8 16 y2, .one [.i .i8 y3]]] => some (.inl (y0, y1, y2, y3))
 | .exit 6, [.s (.ptr 0 0 none 0), .s .bad], [.cells 28 [.arr .i8 81 y0, .arr .i8 16 y1, .one [.i .i8 y2]]] => some (.inr (y0, y1, y2))
 | _, _, _ => none
noncomputable def ref05_Checkl25d : Ex → List V → List Obj → Option ((Int × List Int × List Int × Int) ⊕ (List Int × List Int × Int)) := fun e vs objs => match e, vs, objs with
 | .ret, [.s (.ptr 0 0 none 0), .s (.i .i64 y0)], [.cells 28 [.arr .i8 81 y1, .arr .i8 16 y2, .one [.i .i8 y3]]] => some (.inl (y0, y1, y2, y3))
 | .exit 8, [.s (.ptr 0 0 none 0), .s .bad], [.cells 28 [.arr .i8 81 y0, .arr .i8 16 y1, .one [.i .i8 y2]]] => some (.inr (y0, y1, y2))
 | _, _, _ => none
noncomputable def ref05_Checkl30d : Ex → List V → List Obj → Option ((Int) ⊕ (Unit)) := fun e vs objs => match e, vs, objs with
 | .ret, [.s (.i .i64 y0)], [] => some (.inl (y0))
 | .exit 10, [.s .bad], [] => some (.inr ())
 | _, _, _ => none
noncomputable def ref05_Checkp4 {R : Type} (vs : List V) (objs : List Obj) (K : Ex → List V → List Obj → Option R) : Option R := match vs, objs with
 | [.s (.ptr 0 0 none 0), .s (.i .i64 x0)], [.cells 28 [.arr .i8 81 x1, .arr .i8 16 x2, .one [.i .i8 x3]]] => ob (ref05_Checkl4 many x0 x1 x2 x3) fun t0 => sw t0 (fun z => K (.ret) ([.s (.ptr 0 0 none 0), .s (.i .i64 (z.1))]) ([.cells 28 [.arr .i8 81 (z.2.1), .arr .i8 16 (z.2.2.1), .one [.i .i8 (z.2.2.2)]]])) (fun z => K (.exit 0) ([.s (.ptr 0 0 none 0), .s .bad]) ([.cells 28 [.arr .i8 81 (z.1), .arr .i8 16 (z.2.1), .one [.i .i8 (z.2.2)]]]))
 | _, _ => none
noncomputable def ref05_Checkp12 {R : Type} (vs : List V) (objs : List Obj) (K : Ex → List V → List Obj → Option R) : Option R := match vs, objs with
 | [.s (.ptr 0 0 none 0), .s (.i .i64 x0), .s (.i .i64 x1)], [.cells 28 [.arr .i8 81 x2, .arr .i8 16 x3, .one [.i .i8 x4]]] => ob (ref05_Checkl12 many x0 x1 x2 x3 x4) fun t0 => sw t0 (fun z => K (.ret) ([.s (.ptr 0 0 none 0), .s (.i .i64 (z.1)), .s (.i .i64 (z.2.1))]) ([.cells 28 [.arr .i8 81 (z.2.2.1), .arr .i8 16 (z.2.2.2.1), .one [.i .i8 (z.2.2.2.2)]]])) (fun z => K (.exit 4) ([.s (.ptr 0 0 none 0), .s .bad, .s (.i .i64 (z.1))]) ([.cells 28 [.arr .i8 81 (z.2.1), .arr .i8 16 (z.2.2.1), .one [.i .i8 (z.2.2.2)]]]))
 | _, _ => none
noncomputable def ref05_Checkp9 {R : Type} (vs : List V) (objs : List Obj) (K : Ex → List V → List Obj → Option R) : Option R := match vs, objs with
 | [.s (.ptr 0 0 none 0), .s (.i .i64 x0)], [.cells 28 [.arr .i8 81 x1, .arr .i8 16 x2, .one [.i .i8 x3]]] => ob (ref05_Checkl9 many x0 x1 x2 x3) fun t0 => sw t0 (fun z => K (.ret) ([.s (.ptr 0 0 none 0), .s (.i .i64 (z.1))]) ([.cells 28 [.arr .i8 81 (z.2.1), .arr .i8 16 (z.2.2.1), .one [.i .i8 (z.2.2.2)]]])) (fun z => K (.exit 2) ([.s (.ptr 0 0 none 0), .s .bad]) ([.cells 28 [.arr .i8 81 (z.1), .arr .i8 16 (z.2.1), .one [.i .i8 (z.2.2)]]]))
 | _, _ => none
noncomputable def ref05_Checkp20 {R : Type} (vs : List V) (objs : List Obj) (K : Ex → List V → List Obj → Option R) : Option R := match vs, objs with
 | [.s (.ptr 0 0 none 0), .s (.i .i64 x0)], [.cells 28 [.arr .i8 81 x1, .arr .i8 16 x2, .one [.i .i8 x3]]] => ob (ref05_Checkl20 many x0 x1 x2 x3) fun t0 => sw t0 (fun z => K (.ret) ([.s (.ptr 0 0 none 0), .s (.i .i64 (z.1))]) ([.cells 28 [.arr .i8 81 (z.2.1), .arr .i8 16 (z.2.2.1), .one [.i .i8 (z.2.2.2)]]])) (fun z => K (.exit 6) ([.s (.ptr 0 0 none 0), .s .bad]) ([.cells 28 [.arr .i8 81 (z.1), .arr .i8 16 (z.2.1), .one [.i .i8 (z.2.2)]]]))
 | _, _ => none
noncomputable def ref05_Checkp25 {R : Type} (vs : List V) (objs : List Obj) (K : Ex → List V → List Obj → Option R) : Option R := match vs, objs with
 | [.s (.ptr 0 0 none 0), .s (.i .i64 x0)], [.cells 28 [.arr .i8 81 x1, .arr .i8 16 x2, .one [.i .i8 x3]]] => ob (ref05_Checkl25 many x0 x1 x2 x3) fun t0 => sw t0 (fun z => K (.ret) ([.s (.ptr 0 0 none 0), .s (.i .i64 (z.1))]) ([.cells 28 [.arr .i8 81 (z.2.1), .arr .i8 16 (z.2.2.1), .one [.i .i8 (z.2.2.2)]]])) (fun z => K (.exit 8) ([.s (.ptr 0 0 none 0), .s .bad]) ([.cells 28 [.arr .i8 81 (z.1), .arr .i8 16 (z.2.1), .one [.i .i8 (z.2.2)]]]))
 | _, _ => none
noncomputable def ref05_Checkp30 {R : Type} (vs : List V) (objs : List Obj) (K : Ex → List V → List Obj → Option R) : Option R := match vs, objs with
 | [.s (.ptr 0 0 none 0), .s (.i .i64 x0)], [.cells 28 [.arr .i8 81 x1, .arr .i8 16 x2, .one [.i .i8 x3]]] => ob (ref05_Checkl30 many x0 x1 x2 x3) fun t0 => sw t0 (fun y0 => K (.ret) ([.s (.i .i64 y0)]) ([])) (fun _ => K (.exit 10) ([.s .bad]) ([]))
 | _, _ => none
noncomputable def ref05_Checklp : {R : Type} → Nat → List V → List Obj → (Ex → List V → List Obj → Option R) → Option R := fun q vs objs K => bif Nat.beq q 4 then ref05_Checkp4 vs objs K else bif Nat.beq q 12 then ref05_Checkp12 vs objs K else bif Nat.beq q 9 then ref05_Checkp9 vs objs K else bif Nat.beq q 20 then ref05_Checkp20 vs objs K else bif Nat.beq q 25 then ref05_Checkp25 vs objs K else bif Nat.beq q 30 then ref05_Checkp30 vs objs K else none
noncomputable def ref05_Checkc : Ctx := mkC 103 ((ref05_Ono (ref03_Deado (ref02_Totalo (ref05_Counto (ref05_allo (ref02_Kindo oNil))))))) [(4, [1, 3], [1, 2]), (9, [1, 4], [1, 2]), (12, [1, 4, 5], [1, 2, 4]), (20, [1, 7], [1, 2]), (25, [1, 8], [1, 2]), (30, [1, 9], [2])] ref05_Checklp
theorem ref05_Checkc_ok : CtxOK Tryd.prog ref05_Checkc := mkC_ok ((ref05_Ono_ok _ (ref03_Deado_ok _ (ref02_Totalo_ok _ (ref05_Counto_ok _ (ref05_allo_ok _ (ref02_Kindo_ok _ oNil_ok)))))))
noncomputable def ref05_Checkl4r (f : Nat) (x0 : Int) (x1 x2 : List Int) (x3 : Int) : Option ((Int × List Int × List Int × Int) ⊕ (List Int × List Int × Int)) := lrun ref05_Checkc 0 [1, 3] [1, 2] (loopOf Tryd.f37 4) f ([.s (.ptr 0 0 none 0), .s (.i .i64 x0)]) ([.cells 28 [.arr .i8 81 x1, .arr .i8 16 x2, .one [.i .i8 x3]]]) ref05_Checkl4d
theorem ref05_Checkl4_step (f : Nat) (x0 : Int) (x1 x2 : List Int) (x3 : Int) : ref05_Checkl4r (f + 1) x0 x1 x2 x3 = ref05_Checkl4s (ref05_Checkl4r f) x0 x1 x2 x3 := by kernel_rfl
theorem ref05_Checkl4_eq : ∀ f, ref05_Checkl4r f = ref05_Checkl4 f
 | 0 => rfl
 | f + 1 => by funext x0 x1 x2 x3; rw [ref05_Checkl4_step, ref05_Checkl4_eq f]; rfl
noncomputable def ref05_Checkl12r (f : Nat) (x0 x1 : Int) (x2 x3 : List Int) (x4 : Int) : Option ((Int × Int × List Int × List Int × Int) ⊕ (Int × List Int × List Int × Int)) := lrun ref05_Checkc 0 [1, 4, 5] [1, 2, 4] (loopOf Tryd.f37 12) f ([.s (.ptr 0 0 none 0), .s (.i .i64 x0), .s (.i .i64 x1)]) ([.cells 28 [.arr .i8 81 x2, .arr .i8 16 x3, .one [.i .i8 x4]]]) ref05_Checkl12d
theorem ref05_Checkl12_step (f : Nat) (x0 x1 : Int) (x2 x3 : List Int) (x4 : Int) : ref05_Checkl12r (f + 1) x0 x1 x2 x3 x4 = ref05_Checkl12s (ref05_Checkl12r f) x0 x1 x2 x3 x4 := by kernel_rfl
theorem ref05_Checkl12_eq : ∀ f, ref05_Checkl12r f = ref05_Checkl12 f
 | 0 => rfl
 | f + 1 => by funext x0 x1 x2 x3 x4; rw [ref05_Checkl12_step, ref05_Checkl12_eq f]; rfl
noncomputable def ref05_Checkl9r (f : Nat) (x0 : Int) (x1 x2 : List Int) (x3 : Int) : Option ((Int × List Int × List Int × Int) ⊕ (List Int × List Int × Int)) := lrun ref05_Checkc 0 [1, 4] [1, 2] (loopOf Tryd.f37 9) f ([.s (.ptr 0 0 none 0), .s (.i .i64 x0)]) ([.cells 28 [.arr .i8 81 x1, .arr .i8 16 x2, .one [.i .i8 x3]]]) ref05_Checkl9d
theorem ref05_Checkl9_step (f : Nat) (x0 : Int) (x1 x2 : List Int) (x3 : Int) : ref05_Checkl9r (f + 1) x0 x1 x2 x3 = ref05_Checkl9s (ref05_Checkl9r f) x0 x1 x2 x3 := by kernel_rfl
theorem ref05_Checkl9_eq : ∀ f, ref05_Checkl9r f = ref05_Checkl9 f
 | 0 => rfl
 | f + 1 => by funext x0 x1 x2 x3; rw [ref05_Checkl9_step, ref05_Checkl9_eq f]; rfl
noncomputable def ref05_Checkl20r (f : Nat) (x0 : Int) (x1 x2 : List Int) (x3 : Int) : Option ((Int × List Int × List Int × Int) ⊕ (List Int × List Int × Int)) := lrun ref05_Checkc 0 [1, 7] [1, 2] (loopOf Tryd.f37 20) f ([.s (.ptr 0 0 none 0), .s (.i .i64 x0)]) ([.cells 28 [.arr .i8 81 x1, .arr .i8 16 x2, .one [.i .i8 x3]]]) ref05_Checkl20d
theorem ref05_Checkl20_step (f : Nat) (x0 : Int) (x1 x2 : List Int) (x3 : Int) : ref05_Checkl20r (f + 1) x0 x1 x2 x3 = ref05_Checkl20s (ref05_Checkl20r f) x0 x1 x2 x3 := by kernel_rfl
theorem ref05_Checkl20_eq : ∀ f, ref05_Checkl20r f = ref05_Checkl20 f
 | 0 => rfl
 | f + 1 => by funext x0 x1 x2 x3; rw [ref05_Checkl20_step, ref05_Checkl20_eq f]; rfl
noncomputable def ref05_Checkl25r (f : Nat) (x0 : Int) (x1 x2 : List Int) (x3 : Int) : Option ((Int × List Int × List Int × Int) ⊕ (List Int × List Int × Int)) := lrun ref05_Checkc 0 [1, 8] [1, 2] (loopOf Tryd.f37 25) f ([.s (.ptr 0 0 none 0), .s (.i .i64 x0)]) ([.cells 28 [.arr .i8 81 x1, .arr .i8 16 x2, .one [.i .i8 x3]]]) ref05_Checkl25d
theorem ref05_Checkl25_step (f : Nat) (x0 : Int) (x1 x2 : List Int) (x3 : Int) : ref05_Checkl25r (f + 1) x0 x1 x2 x3 = ref05_Checkl25s (ref05_Checkl25r f) x0 x1 x2 x3 := by kernel_rfl
theorem ref05_Checkl25_eq : ∀ f, ref05_Checkl25r f = ref05_Checkl25 f
 | 0 => rfl
 | f + 1 => by funext x0 x1 x2 x3; rw [ref05_Checkl25_step, ref05_Checkl25_eq f]; rfl
noncomputable def ref05_Checkl30r (f : Nat) (x0 : Int) (x1 x2 : List Int) (x3 : Int) : Option ((Int) ⊕ (Unit)) := lrun ref05_Checkc 0 [1, 9] [2] (loopOf Tryd.f37 30) f ([.s (.ptr 0 0 none 0), .s (.i .i64 x0)]) ([.cells 28 [.arr .i8 81 x1, .arr .i8 16 x2, .one [.i .i8 x3]]]) ref05_Checkl30d
theorem ref05_Checkl30_step (f : Nat) (x0 : Int) (x1 x2 : List Int) (x3 : Int) : ref05_Checkl30r (f + 1) x0 x1 x2 x3 = ref05_Checkl30s (ref05_Checkl30r f) x0 x1 x2 x3 := by kernel_rfl
theorem ref05_Checkl30_eq : ∀ f, ref05_Checkl30r f = ref05_Checkl30 f
 | 0 => rfl
 | f + 1 => by funext x0 x1 x2 x3; rw [ref05_Checkl30_step, ref05_Checkl30_eq f]; rfl
theorem ref05_Checks4 : LoopSound Tryd.prog ref05_Checkc 0 (loopOf Tryd.f37 4) :=
 loopSound_by mixed ref05_Checkc_ok (AllP.of (l' := []) (by kernel_rfl) trivial) (q := 4) (kin := [1, 3]) (kout := [1, 2]) (by kernel_rfl) (by kernel_rfl) fun vs objs K r h => by
  replace h : ref05_Checkp4 vs objs K = some r := h
  unfold ref05_Checkp4 at h
  split at h
  ·skip
   obtain ⟨t, h1, h2⟩ := ob_ok h
   rw [← ref05_Checkl4_eq] at h1
   refine ⟨_, ref05_Checkl4d, t, many, h1, fun e vs' objs' hd => ?_⟩
   unfold ref05_Checkl4d at hd
   split at hd
   ·skip
    cases hd
    exact h2
   ·skip
    cases hd
    exact h2
   ·cases hd
  ·cases h
theorem ref05_Checks12 : LoopSound Tryd.prog ref05_Checkc 0 (loopOf Tryd.f37 12) :=
 loopSound_by mixed ref05_Checkc_ok (AllP.of (l' := []) (by kernel_rfl) trivial) (q := 12) (kin := [1, 4, 5]) (kout := [1, 2, 4]) (by kernel_rfl) (by kernel_rfl) fun vs objs K r h => by
  replace h : ref05_Checkp12 vs objs K = some r := h
  unfold ref05_Checkp12 at h
  split at h
  ·skip
   obtain ⟨t, h1, h2⟩ := ob_ok h
   rw [← ref05_Checkl12_eq] at h1
   refine ⟨_, ref05_Checkl12d, t, many, h1, fun e vs' objs' hd => ?_⟩
   unfold ref05_Checkl12d at hd
   split at hd
   ·skip
    cases hd
    exact h2
   ·skip
    cases hd
    exact h2
   ·cases hd
  ·cases h
theorem ref05_Checks20 : LoopSound Tryd.prog ref05_Checkc 0 (loopOf Tryd.f37 20) :=
 loopSound_by mixed ref05_Checkc_ok (AllP.of (l' := []) (by kernel_rfl) trivial) (q := 20) (kin := [1, 7]) (kout := [1, 2]) (by kernel_rfl) (by kernel_rfl) fun vs objs K r h => by
  replace h : ref05_Checkp20 vs objs K = some r := h
  unfold ref05_Checkp20 at h
  split at h
  ·skip
   obtain ⟨t, h1, h2⟩ := ob_ok h
   rw [← ref05_Checkl20_eq] at h1
   refine ⟨_, ref05_Checkl20d, t, many, h1, fun e vs' objs' hd => ?_⟩
   unfold ref05_Checkl20d at hd
   split at hd
   ·skip
    cases hd
    exact h2
   ·skip
    cases hd
    exact h2
   ·cases hd
  ·cases h
theorem ref05_Checks25 : LoopSound Tryd.prog ref05_Checkc 0 (loopOf Tryd.f37 25) :=
 loopSound_by mixed ref05_Checkc_ok (AllP.of (l' := []) (by kernel_rfl) trivial) (q := 25) (kin := [1, 8]) (kout := [1, 2]) (by kernel_rfl) (by kernel_rfl) fun vs objs K r h => by
  replace h : ref05_Checkp25 vs objs K = some r := h
  unfold ref05_Checkp25 at h
  split at h
  ·skip
   obtain ⟨t, h1, h2⟩ := ob_ok h
   rw [← ref05_Checkl25_eq] at h1
   refine ⟨_, ref05_Checkl25d, t, many, h1, fun e vs' objs' hd => ?_⟩
   unfold ref05_Checkl25d at hd
   split at hd
   ·skip
    cases hd
    exact h2
   ·skip
    cases hd
    exact h2
   ·cases hd
  ·cases h
theorem ref05_Checks30 : LoopSound Tryd.prog ref05_Checkc 0 (loopOf Tryd.f37 30) :=
 loopSound_by mixed ref05_Checkc_ok (AllP.of (l' := []) (by kernel_rfl) trivial) (q := 30) (kin := [1, 9]) (kout := [2]) (by kernel_rfl) (by kernel_rfl) fun vs objs K r h => by
  replace h : ref05_Checkp30 vs objs K = some r := h
  unfold ref05_Checkp30 at h
  split at h
  ·skip
   obtain ⟨t, h1, h2⟩ := ob_ok h
   rw [← ref05_Checkl30_eq] at h1
   refine ⟨_, ref05_Checkl30d, t, many, h1, fun e vs' objs' hd => ?_⟩
   unfold ref05_Checkl30d at hd
   split at hd
   ·skip
    cases hd
    exact h2
   ·skip
    cases hd
    exact h2
   ·cases hd
  ·cases h
theorem ref05_Checks9 : LoopSound Tryd.prog ref05_Checkc 0 (loopOf Tryd.f37 9) :=
 loopSound_by mixed ref05_Checkc_ok (AllP.of (l' := [loopOf Tryd.f37 12]) (by kernel_rfl) ⟨ref05_Checks12, trivial⟩) (q := 9) (kin := [1, 4]) (kout := [1, 2]) (by kernel_rfl) (by kernel_rfl) fun vs objs K r h => by
  replace h : ref05_Checkp9 vs objs K = some r := h
  unfold ref05_Checkp9 at h
  split at h
  ·skip
   obtain ⟨t, h1, h2⟩ := ob_ok h
   rw [← ref05_Checkl9_eq] at h1
   refine ⟨_, ref05_Checkl9d, t, many, h1, fun e vs' objs' hd => ?_⟩
   unfold ref05_Checkl9d at hd
   split at hd
   ·skip
    cases hd
    exact h2
   ·skip
    cases hd
    exact h2
   ·cases hd
  ·cases h
noncomputable def ref05_Checkd : V → List Obj → Option (Int) := fun v objs => match v, objs with
 | .s (.i .i64 y0), [] => some (y0)
 | _, _ => none
theorem ref05_Check_eq (x0 x1 : List Int) (x2 : Int) : fnE ref05_Checkc Tryd.f37 ([.agg [.arr .i8 81 x0, .arr .i8 16 x1, .one [.i .i8 x2]]]) ([]) ref05_Checkd = ref05_Check x0 x1 x2 := by kernel_rfl
noncomputable def ref05_Checka {R : Type} (o : Orc) (vs : List V) (objs : List Obj) (K : Bool → V → List Obj → Option R) : Option R := match vs, objs with
 | [.agg [.arr .i8 81 x0, .arr .i8 16 x1, .one [.i .i8 x2]]], [] => ob (ref05_Check x0 x1 x2) fun y0 => K false (.s (.i .i64 y0)) ([])
 | _, _ => o 37 vs objs K
noncomputable def ref05_Checko (o : Orc) : Orc := hook 37 (ref05_Checka o) o
theorem ref05_Checko_ok (o : Orc) (ho : OSound Tryd.prog o) : OSound Tryd.prog (ref05_Checko o) := hook_ok ho fun vs objs K r h => by
 unfold ref05_Checka at h
 split at h
 ·skip
  obtain ⟨t, h1, h2⟩ := ob_ok h
  refine anyOK_of mixed ref05_Checkc_ok (fn := Tryd.f37) (b := (Tryd.f37).body.getD .skip) (by kernel_rfl) (by kernel_rfl) (by kernel_rfl) ((ref05_Check_eq _ _ _).trans h1) (m := 0) rfl (AllP.of (l' := [loopOf Tryd.f37 4, loopOf Tryd.f37 9, loopOf Tryd.f37 20, loopOf Tryd.f37 25, loopOf Tryd.f37 30]) (by kernel_rfl) ⟨ref05_Checks4, ref05_Checks9, ref05_Checks20, ref05_Checks25, ref05_Checks30, trivial⟩) fun v objs' hd => ?_
  unfold ref05_Checkd at hd
  split at hd
  ·skip
   cases hd
   exact h2
  ·cases hd
 ·exact ho _ _ _ _ _ h
noncomputable def ref05_Takenl3d : Ex → List V → List Obj → Option (List Bool × List Bool) := fun e vs objs => match e, vs, objs with
 | .exit 0, [.s (.ptr 0 0 none 0), .s (.ptr 1 0 none 0)], [.cells 78 [Seg.barr 81 y0], .cells 78 [Seg.barr 81 y1]] => some (y0, y1)
 | _, _, _ => none
noncomputable def ref05_Takenp3 {R : Type} (vs : List V) (objs : List Obj) (K : Ex → List V → List Obj → Option R) : Option R := match vs, objs with
 | [.s (.ptr 0 0 none 0), .s (.ptr 1 0 none 0), .s (.ptr 2 0 none 0), .s (.i .i64 x0)], [.cells 28 [.arr .i8 81 x1, .arr .i8 16 x2, .one [.i .i8 x3]], .cells 78 [Seg.barr 81 x4], .cells 78 [Seg.barr 81 x5]] => ob (ref05_Takenl3 many x0 x1 x2 x3 x4 x5) fun z => K (.exit 0) ([.s (.ptr 0 0 none 0), .s (.ptr 1 0 none 0)]) ([.cells 78 [Seg.barr 81 (z.1)], .cells 78 [Seg.barr 81 (z.2)]])
 | _, _ => none
noncomputable def ref05_Takenlp : {R : Type} → Nat → List V → List Obj → (Ex → List V → List Obj → Option R) → Option R := fun q vs objs K => bif Nat.beq q 3 then ref05_Takenp3 vs objs K else none
noncomputable def ref05_Takenc : Ctx := mkC 18 (oNil) [(3, [1, 2, 3, 4], [2, 3])] ref05_Takenlp
theorem ref05_Takenc_ok : CtxOK Tryd.prog ref05_Takenc := mkC_ok (oNil_ok)
noncomputable def ref05_Takenl3r (f : Nat) (x0 : Int) (x1 x2 : List Int) (x3 : Int) (x4 x5 : List Bool) : Option (List Bool × List Bool) := lrun ref05_Takenc 0 [1, 2, 3, 4] [2, 3] (loopOf Tryd.f56 3) f ([.s (.ptr 0 0 none 0), .s (.ptr 1 0 none 0), .s (.ptr 2 0 none 0), .s (.i .i64 x0)]) ([.cells 28 [.arr .i8 81 x1, .arr .i8 16 x2, .one [.i .i8 x3]], .cells 78 [Seg.barr 81 x4], .cells 78 [Seg.barr 81 x5]]) ref05_Takenl3d
theorem ref05_Takenl3_step (f : Nat) (x0 : Int) (x1 x2 : List Int) (x3 : Int) (x4 x5 : List Bool) : ref05_Takenl3r (f + 1) x0 x1 x2 x3 x4 x5 = ref05_Takenl3s (ref05_Takenl3r f) x0 x1 x2 x3 x4 x5 := by kernel_rfl
theorem ref05_Takenl3_eq : ∀ f, ref05_Takenl3r f = ref05_Takenl3 f
 | 0 => rfl
 | f + 1 => by funext x0 x1 x2 x3 x4 x5; rw [ref05_Takenl3_step, ref05_Takenl3_eq f]; rfl
theorem ref05_Takens3 : LoopSound Tryd.prog ref05_Takenc 0 (loopOf Tryd.f56 3) :=
 loopSound_by mixed ref05_Takenc_ok (AllP.of (l' := []) (by kernel_rfl) trivial) (q := 3) (kin := [1, 2, 3, 4]) (kout := [2, 3]) (by kernel_rfl) (by kernel_rfl) fun vs objs K r h => by
  replace h : ref05_Takenp3 vs objs K = some r := h
  unfold ref05_Takenp3 at h
  split at h
  ·skip
   obtain ⟨t, h1, h2⟩ := ob_ok h
   rw [← ref05_Takenl3_eq] at h1
   refine ⟨_, ref05_Takenl3d, t, many, h1, fun e vs' objs' hd => ?_⟩
   unfold ref05_Takenl3d at hd
   split at hd
   ·skip
    cases hd
    exact h2
   ·cases hd
  ·cases h
noncomputable def ref05_Takend : V → List Obj → Option (List Bool) := fun v objs => match v, objs with
 | .agg [Seg.barr 81 y0], [] => some (y0)
 | _, _ => none
theorem ref05_Taken_eq (x0 x1 : List Int) (x2 : Int) : fnE ref05_Takenc Tryd.f56 ([.agg [.arr .i8 81 x0, .arr .i8 16 x1, .one [.i .i8 x2]]]) ([]) ref05_Takend = ref05_Taken x0 x1 x2 := by kernel_rfl
noncomputable def ref05_Takena {R : Type} (o : Orc) (vs : List V) (objs : List Obj) (K : Bool → V → List Obj → Option R) : Option R := match vs, objs with
 | [.agg [.arr .i8 81 x0, .arr .i8 16 x1, .one [.i .i8 x2]]], [] => ob (ref05_Taken x0 x1 x2) fun y0 => K false (.agg [Seg.barr 81 y0]) ([])
 | _, _ => o 56 vs objs K
noncomputable def ref05_Takeno (o : Orc) : Orc := hook 56 (ref05_Takena o) o
theorem ref05_Takeno_ok (o : Orc) (ho : OSound Tryd.prog o) : OSound Tryd.prog (ref05_Takeno o) := hook_ok ho fun vs objs K r h => by
 unfold ref05_Takena at h
 split at h
 ·skip
  obtain ⟨t, h1, h2⟩ := ob_ok h
  refine anyOK_of mixed ref05_Takenc_ok (fn := Tryd.f56) (b := (Tryd.f56).body.getD .skip) (by kernel_rfl) (by kernel_rfl) (by kernel_rfl) ((ref05_Taken_eq _ _ _).trans h1) (m := 0) rfl (AllP.of (l' := [loopOf Tryd.f56 3]) (by kernel_rfl) ⟨ref05_Takens3, trivial⟩) fun v objs' hd => ?_
  unfold ref05_Takend at hd
  split at hd
  ·skip
   cases hd
   exact h2
  ·cases hd
 ·exact ho _ _ _ _ _ h
noncomputable def ref08_Kingl2d : Ex → List V → List Obj → Option ((Int) ⊕ (Unit)) := fun e vs objs => match e, vs, objs with
 | .ret, [.s (.i .i64 y0)], [] => some (.inl (y0))
 | .exit 0, [.s .bad], [] => some (.inr ())
 | _, _, _ => none
noncomputable def ref08_Kingp2 {R : Type} (vs : List V) (objs : List Obj) (K : Ex → List V → List Obj → Option R) : Option R := match vs, objs with
 | [.s (.i .i64 x0), .s (.ptr 0 0 none 0), .s (.i .i64 x1)], [.cells 28 [.arr .i8 81 x2, .arr .i8 16 x3, .one [.i .i8 x4]]] => ob (ref08_Kingl2 many x0 x1 x2 x3 x4) fun t0 => sw t0 (fun y0 => K (.ret) ([.s (.i .i64 y0)]) ([])) (fun _ => K (.exit 0) ([.s .bad]) ([]))
 | _, _ => none
noncomputable def ref08_Kinglp : {R : Type} → Nat → List V → List Obj → (Ex → List V → List Obj → Option R) → Option R := fun q vs objs K => bif Nat.beq q 2 then ref08_Kingp2 vs objs K else none
noncomputable def ref08_Kingc : Ctx := mkC 20 (oNil) [(2, [1, 2, 5], [4])] ref08_Kinglp
theorem ref08_Kingc_ok : CtxOK Tryd.prog ref08_Kingc := mkC_ok (oNil_ok)
noncomputable def ref08_Kingl2r (f : Nat) (x0 x1 : Int) (x2 x3 : List Int) (x4 : Int) : Option ((Int) ⊕ (Unit)) := lrun ref08_Kingc 0 [1, 2, 5] [4] (loopOf Tryd.f59 2) f ([.s (.i .i64 x0), .s (.ptr 0 0 none 0), .s (.i .i64 x1)]) ([.cells 28 [.arr .i8 81 x2, .arr .i8 16 x3, .one [.i .i8 x4]]]) ref08_Kingl2d
theorem ref08_Kingl2_step (f : Nat) (x0 x1 : Int) (x2 x3 : List Int) (x4 : Int) : ref08_Kingl2r (f + 1) x0 x1 x2 x3 x4 = ref08_Kingl2s (ref08_Kingl2r f) x0 x1 x2 x3 x4 := by kernel_rfl
theorem ref08_Kingl2_eq : ∀ f, ref08_Kingl2r f = ref08_Kingl2 f
 | 0 => rfl
 | f + 1 => by funext x0 x1 x2 x3 x4; rw [ref08_Kingl2_step, ref08_Kingl2_eq f]; rfl
theorem ref08_Kings2 : LoopSound Tryd.prog ref08_Kingc 0 (loopOf Tryd.f59 2) :=
 loopSound_by mixed ref08_Kingc_ok (AllP.of (l' := []) (by kernel_rfl) trivial) (q := 2) (kin := [1, 2, 5]) (kout := [4]) (by kernel_rfl) (by kernel_rfl) fun vs objs K r h => by
  replace h : ref08_Kingp2 vs objs K = some r := h
  unfold ref08_Kingp2 at h
  split at h
  ·skip
   obtain ⟨t, h1, h2⟩ := ob_ok h
   rw [← ref08_Kingl2_eq] at h1
   refine ⟨_, ref08_Kingl2d, t, many, h1, fun e vs' objs' hd => ?_⟩
   unfold ref08_Kingl2d at hd
   split at hd
   ·skip
    cases hd
    exact h2
   ·skip
    cases hd
    exact h2
   ·cases hd
  ·cases h
noncomputable def ref08_Kingd : V → List Obj → Option (Int) := fun v objs => match v, objs with
 | .s (.i .i64 y0), [] => some (y0)
 | _, _ => none
theorem ref08_King_eq (x0 x1 : List Int) (x2 x3 : Int) : fnE ref08_Kingc Tryd.f59 ([.agg [.arr .i8 81 x0, .arr .i8 16 x1, .one [.i .i8 x2]], .s (.i .i64 x3)]) ([]) ref08_Kingd = ref08_King x0 x1 x2 x3 := by kernel_rfl
noncomputable def ref08_Kinga {R : Type} (o : Orc) (vs : List V) (objs : List Obj) (K : Bool → V → List Obj → Option R) : Option R := match vs, objs with
 | [.agg [.arr .i8 81 x0, .arr .i8 16 x1, .one [.i .i8 x2]], .s (.i .i64 x3)], [] => ob (ref08_King x0 x1 x2 x3) fun y0 => K false (.s (.i .i64 y0)) ([])
 | _, _ => o 59 vs objs K
noncomputable def ref08_Kingo (o : Orc) : Orc := hook 59 (ref08_Kinga o) o
theorem ref08_Kingo_ok (o : Orc) (ho : OSound Tryd.prog o) : OSound Tryd.prog (ref08_Kingo o) := hook_ok ho fun vs objs K r h => by
 unfold ref08_Kinga at h
 split at h
 ·skip
  obtain ⟨t, h1, h2⟩ := ob_ok h
  refine anyOK_of mixed ref08_Kingc_ok (fn := Tryd.f59) (b := (Tryd.f59).body.getD .skip) (by kernel_rfl) (by kernel_rfl) (by kernel_rfl) ((ref08_King_eq _ _ _ _).trans h1) (m := 0) rfl (AllP.of (l' := [loopOf Tryd.f59 2]) (by kernel_rfl) ⟨ref08_Kings2, trivial⟩) fun v objs' hd => ?_
  unfold ref08_Kingd at hd
  split at hd
  ·skip
   cases hd
   exact h2
  ·cases hd
 ·exact ho _ _ _ _ _ h
noncomputable def ref03_sizec : Ctx := mkC 8 (oNil) [] lpNil
theorem ref03_sizec_ok : CtxOK Tryd.prog ref03_sizec := mkC_ok (oNil_ok)
noncomputable def ref03_sized : V → List Obj → Option (Int) := fun v objs => match v, objs with
 | .s (.i .i64 y0), [] => some (y0)
 | _, _ => none
theorem ref03_size_eq (x0 : Int) : fnE ref03_sizec Tryd.f114 ([.s (.i .i64 x0)]) ([]) ref03_sized = ref03_size x0 := by kernel_rfl
noncomputable def ref03_sizea {R : Type} (o : Orc) (vs : List V) (objs : List Obj) (K : Bool → V → List Obj → Option R) : Option R := match vs, objs with
 | [.s (.i .i64 x0)], [] => ob (ref03_size x0) fun y0 => K false (.s (.i .i64 y0)) ([])
 | _, _ => o 114 vs objs K
noncomputable def ref03_sizeo (o : Orc) : Orc := hook 114 (ref03_sizea o) o
theorem ref03_sizeo_ok (o : Orc) (ho : OSound Tryd.prog o) : OSound Tryd.prog (ref03_sizeo o) := hook_ok ho fun vs objs K r h => by
 unfold ref03_sizea at h
 split at h
 ·skip
  obtain ⟨t, h1, h2⟩ := ob_ok h
  refine anyOK_of mixed ref03_sizec_ok (fn := Tryd.f114) (b := (Tryd.f114).body.getD .skip) (by kernel_rfl) (by kernel_rfl) (by kernel_rfl) ((ref03_size_eq _).trans h1) (m := 0) rfl (AllP.of (l' := []) (by kernel_rfl) trivial) fun v objs' hd => ?_
  unfold ref03_sized at hd
  split at hd
  ·skip
   cases hd
   exact h2
  ·cases hd
 ·exact ho _ _ _ _ _ h
noncomputable def ref03_Stepc : Ctx := mkC 125 ((ref02_Kindo (ref02_Sideo (ref03_sizeo oNil)))) [] lpNil
theorem ref03_Stepc_ok : CtxOK Tryd.prog ref03_Stepc := mkC_ok ((ref02_Kindo_ok _ (ref02_Sideo_ok _ (ref03_sizeo_ok _ oNil_ok))))
noncomputable def ref03_Stepd : V → List Obj → Option (Bool) := fun v objs => match v, objs with
 | .s (.b y0), [] => some (y0)
 | _, _ => none
theorem ref03_Step_eq (x0 x1 x2 : Int) : fnE ref03_Stepc Tryd.f92 ([.s (.i .i64 x0), .s (.i .i64 x1), .s (.i .i64 x2)]) ([]) ref03_Stepd = ref03_Step x0 x1 x2 := by kernel_rfl
noncomputable def ref03_Stepa {R : Type} (o : Orc) (vs : List V) (objs : List Obj) (K : Bool → V → List Obj → Option R) : Option R := match vs, objs with
 | [.s (.i .i64 x0), .s (.i .i64 x1), .s (.i .i64 x2)], [] => ob (ref03_Step x0 x1 x2) fun y0 => K false (.s (.b y0)) ([])
 | _, _ => o 92 vs objs K
noncomputable def ref03_Stepo (o : Orc) : Orc := hook 92 (ref03_Stepa o) o
theorem ref03_Stepo_ok (o : Orc) (ho : OSound Tryd.prog o) : OSound Tryd.prog (ref03_Stepo o) := hook_ok ho fun vs objs K r h => by
 unfold ref03_Stepa at h
 split at h
 ·skip
  obtain ⟨t, h1, h2⟩ := ob_ok h
  refine anyOK_of mixed ref03_Stepc_ok (fn := Tryd.f92) (b := (Tryd.f92).body.getD .skip) (by kernel_rfl) (by kernel_rfl) (by kernel_rfl) ((ref03_Step_eq _ _ _).trans h1) (m := 0) rfl (AllP.of (l' := []) (by kernel_rfl) trivial) fun v objs' hd => ?_
  unfold ref03_Stepd at hd
  split at hd
  ·skip
   cases hd
   exact h2
  ·cases hd
 ·exact ho _ _ _ _ _ h
noncomputable def ref04_Linec : Ctx := mkC 51 (oNil) [] lpNil
theorem ref04_Linec_ok : CtxOK Tryd.prog ref04_Linec := mkC_ok (oNil_ok)
noncomputable def ref04_Lined : V → List Obj → Option (Int) := fun v objs => match v, objs with
 | .s (.i .i64 y0), [] => some (y0)
 | _, _ => none
theorem ref04_Line_eq (x0 x1 : Int) : fnE ref04_Linec Tryd.f93 ([.s (.i .i64 x0), .s (.i .i64 x1)]) ([]) ref04_Lined = ref04_Line x0 x1 := by kernel_rfl
noncomputable def ref04_Linea {R : Type} (o : Orc) (vs : List V) (objs : List Obj) (K : Bool → V → List Obj → Option R) : Option R := match vs, objs with
 | [.s (.i .i64 x0), .s (.i .i64 x1)], [] => ob (ref04_Line x0 x1) fun y0 => K false (.s (.i .i64 y0)) ([])
 | _, _ => o 93 vs objs K
noncomputable def ref04_Lineo (o : Orc) : Orc := hook 93 (ref04_Linea o) o
theorem ref04_Lineo_ok (o : Orc) (ho : OSound Tryd.prog o) : OSound Tryd.prog (ref04_Lineo o) := hook_ok ho fun vs objs K r h => by
 unfold ref04_Linea at h
 split at h
 ·skip
  obtain ⟨t, h1, h2⟩ := ob_ok h
  refine anyOK_of mixed ref04_Linec_ok (fn := Tryd.f93) (b := (Tryd.f93).body.getD .skip) (by kernel_rfl) (by kernel_rfl) (by kernel_rfl) ((ref04_Line_eq _ _).trans h1) (m := 0) rfl (AllP.of (l' := []) (by kernel_rfl) trivial) fun v objs' hd => ?_
  unfold ref04_Lined at hd
  split at hd
  ·skip
   cases hd
   exact h2
  ·cases hd
 ·exact ho _ _ _ _ _ h
noncomputable def ref04_signc : Ctx := mkC 7 (oNil) [] lpNil
theorem ref04_signc_ok : CtxOK Tryd.prog ref04_signc := mkC_ok (oNil_ok)
noncomputable def ref04_signd : V → List Obj → Option (Int) := fun v objs => match v, objs with
 | .s (.i .i64 y0), [] => some (y0)
 | _, _ => none
theorem ref04_sign_eq (x0 : Int) : fnE ref04_signc Tryd.f123 ([.s (.i .i64 x0)]) ([]) ref04_signd = ref04_sign x0 := by kernel_rfl
noncomputable def ref04_signa {R : Type} (o : Orc) (vs : List V) (objs : List Obj) (K : Bool → V → List Obj → Option R) : Option R := match vs, objs with
 | [.s (.i .i64 x0)], [] => ob (ref04_sign x0) fun y0 => K false (.s (.i .i64 y0)) ([])
 | _, _ => o 123 vs objs K
noncomputable def ref04_signo (o : Orc) : Orc := hook 123 (ref04_signa o) o
theorem ref04_signo_ok (o : Orc) (ho : OSound Tryd.prog o) : OSound Tryd.prog (ref04_signo o) := hook_ok ho fun vs objs K r h => by
 unfold ref04_signa at h
 split at h
 ·skip
  obtain ⟨t, h1, h2⟩ := ob_ok h
  refine anyOK_of mixed ref04_signc_ok (fn := Tryd.f123) (b := (Tryd.f123).body.getD .skip) (by kernel_rfl) (by kernel_rfl) (by kernel_rfl) ((ref04_sign_eq _).trans h1) (m := 0) rfl (AllP.of (l' := []) (by kernel_rfl) trivial) fun v objs' hd => ?_
  unfold ref04_signd at hd
  split at hd
  ·skip
   cases hd
   exact h2
  ·cases hd
 ·exact ho _ _ _ _ _ h
noncomputable def ref04_Betweenl6d : Ex → List V → List Obj → Option (Nat × Nat × List Int) := fun e vs objs => match e, vs, objs with
 | .exit 0, [.s (.sl 0 0 y0 true)], [.sli 3 false (.arr .i64 y1 y2)] => some (y0, y1, y2)
 | _, _, _ => none
noncomputable def ref04_Betweenp6 {R : Type} (vs : List V) (objs : List Obj) (K : Ex → List V → List Obj → Option R) : Option R := match vs, objs with
 | [.s (.i .i64 x0), .s (.sl 0 0 x1 true), .s (.i .i64 x2), .s (.i .i64 x3)], [.sli 3 false (.arr .i64 x4 x5)] => ob (ref04_Betweenl6 many x0 x1 x2 x3 x4 x5) fun z => K (.exit 0) ([.s (.sl 0 0 (z.1) true)]) ([.sli 3 false (.arr .i64 (z.2.1) (z.2.2))])
 | _, _ => none
noncomputable def ref04_Betweenlp : {R : Type} → Nat → List V → List Obj → (Ex → List V → List Obj → Option R) → Option R := fun q vs objs K => bif Nat.beq q 6 then ref04_Betweenp6 vs objs K else none
noncomputable def ref04_Betweenc : Ctx := mkC 41 ((ref04_signo (ref04_Lineo oNil))) [(6, [1, 5, 6, 7], [5])] ref04_Betweenlp
theorem ref04_Betweenc_ok : CtxOK Tryd.prog ref04_Betweenc := mkC_ok ((ref04_signo_ok _ (ref04_Lineo_ok _ oNil_ok)))
noncomputable def ref04_Betweenl6r (f : Nat) (x0 : Int) (x1 : Nat) (x2 x3 : Int) (x4 : Nat) (x5 : List Int) : Option (Nat × Nat × List Int) := lrun ref04_Betweenc 0 [1, 5, 6, 7] [5] (loopOf Tryd.f115 6) f ([.s (.i .i64 x0), .s (.sl 0 0 x1 true), .s (.i .i64 x2), .s (.i .i64 x3)]) ([.sli 3 false (.arr .i64 x4 x5)]) ref04_Betweenl6d
theorem ref04_Betweenl6_step (f : Nat) (x0 : Int) (x1 : Nat) (x2 x3 : Int) (x4 : Nat) (x5 : List Int) : ref04_Betweenl6r (f + 1) x0 x1 x2 x3 x4 x5 = ref04_Betweenl6s (ref04_Betweenl6r f) x0 x1 x2 x3 x4 x5 := by kernel_rfl
theorem ref04_Betweenl6_eq : ∀ f, ref04_Betweenl6r f = ref04_Betweenl6 f
 | 0 => rfl
 | f + 1 => by funext x0 x1 x2 x3 x4 x5; rw [ref04_Betweenl6_step, ref04_Betweenl6_eq f]; rfl
theorem ref04_Betweens6 : LoopSound Tryd.prog ref04_Betweenc 0 (loopOf Tryd.f115 6) :=
 loopSound_by mixed ref04_Betweenc_ok (AllP.of (l' := []) (by kernel_rfl) trivial) (q := 6) (kin := [1, 5, 6, 7]) (kout := [5]) (by kernel_rfl) (by kernel_rfl) fun vs objs K r h => by
  replace h : ref04_Betweenp6 vs objs K = some r := h
  unfold ref04_Betweenp6 at h
  split at h
  ·skip
   obtain ⟨t, h1, h2⟩ := ob_ok h
   rw [← ref04_Betweenl6_eq] at h1
   refine ⟨_, ref04_Betweenl6d, t, many, h1, fun e vs' objs' hd => ?_⟩
   unfold ref04_Betweenl6d at hd
   split at hd
   ·skip
    cases hd
    exact h2
   ·cases hd
  ·cases h
noncomputable def ref04_Betweend : V → List Obj → Option (Nat × Nat × List Int) := fun v objs => match v, objs with
 | .s (.sl 0 0 y0 true), [.sli 3 false (.arr .i64 y1 y2)] => some (y0, y1, y2)
 | _, _ => none
theorem ref04_Between_eq (x0 x1 : Int) : fnE ref04_Betweenc Tryd.f115 ([.s (.i .i64 x0), .s (.i .i64 x1)]) ([]) ref04_Betweend = ref04_Between x0 x1 := by kernel_rfl
noncomputable def ref04_Betweena {R : Type} (o : Orc) (vs : List V) (objs : List Obj) (K : Bool → V → List Obj → Option R) : Option R := match vs, objs with
 | [.s (.i .i64 x0), .s (.i .i64 x1)], [] => ob (ref04_Between x0 x1) fun z => K false (.s (.sl 0 0 (z.1) true)) ([.sli 3 false (.arr .i64 (z.2.1) (z.2.2))])
 | _, _ => o 115 vs objs K
noncomputable def ref04_Betweeno (o : Orc) : Orc := hook 115 (ref04_Betweena o) o
theorem ref04_Betweeno_ok (o : Orc) (ho : OSound Tryd.prog o) : OSound Tryd.prog (ref04_Betweeno o) := hook_ok ho fun vs objs K r h => by
 unfold ref04_Betweena at h
 split at h
 ·skip
  obtain ⟨t, h1, h2⟩ := ob_ok h
  refine anyOK_of mixed ref04_Betweenc_ok (fn := Tryd.f115) (b := (Tryd.f115).body.getD .skip) (by kernel_rfl) (by kernel_rfl) (by kernel_rfl) ((ref04_Between_eq _ _).trans h1) (m := 0) rfl (AllP.of (l' := [loopOf Tryd.f115 6]) (by kernel_rfl) ⟨ref04_Betweens6, trivial⟩) fun v objs' hd => ?_
  unfold ref04_Betweend at hd
  split at hd
  ·skip
   cases hd
   exact h2
  ·cases hd
 ·exact ho _ _ _ _ _ h
noncomputable def ref04_Freel3d : Ex → List V → List Obj → Option ((Bool) ⊕ (Unit)) := fun e vs objs => match e, vs, objs with
 | .ret, [.s (.b y0)], [] => some (.inl (y0))
 | .exit 0, [.s .bad], [] => some (.inr ())
 | _, _, _ => none
noncomputable def ref04_Freep3 {R : Type} (vs : List V) (objs : List Obj) (K : Ex → List V → List Obj → Option R) : Option R := match vs, objs with
 | [.s (.ptr 0 0 none 0), .s (.sl 1 0 x0 true), .s (.i .i64 x1)], [.cells 78 [Seg.barr 81 x2], .sli 3 false (.arr .i64 x3 x4)] => ob (ref04_Freel3 many x0 x1 x2 x3 x4) fun t0 => sw t0 (fun y0 => K (.ret) ([.s (.b y0)]) ([])) (fun _ => K (.exit 0) ([.s .bad]) ([]))
 | _, _ => none
noncomputable def ref04_Freelp : {R : Type} → Nat → List V → List Obj → (Ex → List V → List Obj → Option R) → Option R := fun q vs objs K => bif Nat.beq q 3 then ref04_Freep3 vs objs K else none
noncomputable def ref04_Freec : Ctx := mkC 24 ((ref04_Betweeno oNil)) [(3, [5, 7, 8], [6])] ref04_Freelp
theorem ref04_Freec_ok : CtxOK Tryd.prog ref04_Freec := mkC_ok ((ref04_Betweeno_ok _ oNil_ok))
noncomputable def ref04_Freel3r (f : Nat) (x0 : Nat) (x1 : Int) (x2 : List Bool) (x3 : Nat) (x4 : List Int) : Option ((Bool) ⊕ (Unit)) := lrun ref04_Freec 0 [5, 7, 8] [6] (loopOf Tryd.f94 3) f ([.s (.ptr 0 0 none 0), .s (.sl 1 0 x0 true), .s (.i .i64 x1)]) ([.cells 78 [Seg.barr 81 x2], .sli 3 false (.arr .i64 x3 x4)]) ref04_Freel3d
theorem ref04_Freel3_step (f : Nat) (x0 : Nat) (x1 : Int) (x2 : List Bool) (x3 : Nat) (x4 : List Int) : ref04_Freel3r (f + 1) x0 x1 x2 x3 x4 = ref04_Freel3s (ref04_Freel3r f) x0 x1 x2 x3 x4 := by kernel_rfl
theorem ref04_Freel3_eq : ∀ f, ref04_Freel3r f = ref04_Freel3 f
 | 0 => rfl
 | f + 1 => by funext x0 x1 x2 x3 x4; rw [ref04_Freel3_step, ref04_Freel3_eq f]; rfl
theorem ref04_Frees3 : LoopSound Tryd.prog ref04_Freec 0 (loopOf Tryd.f94 3) :=
 loopSound_by mixed ref04_Freec_ok (AllP.of (l' := []) (by kernel_rfl) trivial) (q := 3) (kin := [5, 7, 8]) (kout := [6]) (by kernel_rfl) (by kernel_rfl) fun vs objs K r h => by
  replace h : ref04_Freep3 vs objs K = some r := h
  unfold ref04_Freep3 at h
  split at h
  ·skip
   obtain ⟨t, h1, h2⟩ := ob_ok h
   rw [← ref04_Freel3_eq] at h1
   refine ⟨_, ref04_Freel3d, t, many, h1, fun e vs' objs' hd => ?_⟩
   unfold ref04_Freel3d at hd
   split at hd
   ·skip
    cases hd
    exact h2
   ·skip
    cases hd
    exact h2
   ·cases hd
  ·cases h
noncomputable def ref04_Freed : V → List Obj → Option (Bool) := fun v objs => match v, objs with
 | .s (.b y0), [] => some (y0)
 | _, _ => none
theorem ref04_Free_eq (x0 x1 : Int) (x2 : List Bool) : fnE ref04_Freec Tryd.f94 ([.s (.i .i64 x0), .s (.i .i64 x1), .agg [Seg.barr 81 x2]]) ([]) ref04_Freed = ref04_Free x0 x1 x2 := by kernel_rfl
noncomputable def ref04_Freea {R : Type} (o : Orc) (vs : List V) (objs : List Obj) (K : Bool → V → List Obj → Option R) : Option R := match vs, objs with
 | [.s (.i .i64 x0), .s (.i .i64 x1), .agg [Seg.barr 81 x2]], [] => ob (ref04_Free x0 x1 x2) fun y0 => K false (.s (.b y0)) ([])
 | _, _ => o 94 vs objs K
noncomputable def ref04_Freeo (o : Orc) : Orc := hook 94 (ref04_Freea o) o
theorem ref04_Freeo_ok (o : Orc) (ho : OSound Tryd.prog o) : OSound Tryd.prog (ref04_Freeo o) := hook_ok ho fun vs objs K r h => by
 unfold ref04_Freea at h
 split at h
 ·skip
  obtain ⟨t, h1, h2⟩ := ob_ok h
  refine anyOK_of mixed ref04_Freec_ok (fn := Tryd.f94) (b := (Tryd.f94).body.getD .skip) (by kernel_rfl) (by kernel_rfl) (by kernel_rfl) ((ref04_Free_eq _ _ _).trans h1) (m := 0) rfl (AllP.of (l' := [loopOf Tryd.f94 3]) (by kernel_rfl) ⟨ref04_Frees3, trivial⟩) fun v objs' hd => ?_
  unfold ref04_Freed at hd
  split at hd
  ·skip
   cases hd
   exact h2
  ·cases hd
 ·exact ho _ _ _ _ _ h
noncomputable def ref04_Reachesc : Ctx := mkC 63 ((ref04_Freeo (ref02_Kindo (ref02_Sideo (ref04_Lineo (ref03_Stepo oNil)))))) [] lpNil
theorem ref04_Reachesc_ok : CtxOK Tryd.prog ref04_Reachesc := mkC_ok ((ref04_Freeo_ok _ (ref02_Kindo_ok _ (ref02_Sideo_ok _ (ref04_Lineo_ok _ (ref03_Stepo_ok _ oNil_ok))))))
noncomputable def ref04_Reachesd : V → List Obj → Option (Bool) := fun v objs => match v, objs with
 | .s (.b y0), [] => some (y0)
 | _, _ => none
theorem ref04_Reaches_eq (x0 x1 x2 : Int) (x3 : List Bool) : fnE ref04_Reachesc Tryd.f55 ([.s (.i .i64 x0), .s (.i .i64 x1), .s (.i .i64 x2), .agg [Seg.barr 81 x3]]) ([]) ref04_Reachesd = ref04_Reaches x0 x1 x2 x3 := by kernel_rfl
noncomputable def ref04_Reachesa {R : Type} (o : Orc) (vs : List V) (objs : List Obj) (K : Bool → V → List Obj → Option R) : Option R := match vs, objs with
 | [.s (.i .i64 x0), .s (.i .i64 x1), .s (.i .i64 x2), .agg [Seg.barr 81 x3]], [] => ob (ref04_Reaches x0 x1 x2 x3) fun y0 => K false (.s (.b y0)) ([])
 | _, _ => o 55 vs objs K
noncomputable def ref04_Reacheso (o : Orc) : Orc := hook 55 (ref04_Reachesa o) o
theorem ref04_Reacheso_ok (o : Orc) (ho : OSound Tryd.prog o) : OSound Tryd.prog (ref04_Reacheso o) := hook_ok ho fun vs objs K r h => by
 unfold ref04_Reachesa at h
 split at h
 ·skip
  obtain ⟨t, h1, h2⟩ := ob_ok h
  refine anyOK_of mixed ref04_Reachesc_ok (fn := Tryd.f55) (b := (Tryd.f55).body.getD .skip) (by kernel_rfl) (by kernel_rfl) (by kernel_rfl) ((ref04_Reaches_eq _ _ _ _).trans h1) (m := 0) rfl (AllP.of (l' := []) (by kernel_rfl) trivial) fun v objs' hd => ?_
  unfold ref04_Reachesd at hd
  split at hd
  ·skip
   cases hd
   exact h2
  ·cases hd
 ·exact ho _ _ _ _ _ h
noncomputable def ref08_InCheckl6d : Ex → List V → List Obj → Option ((Bool) ⊕ (Unit)) := fun e vs objs => match e, vs, objs with
 | .ret, [.s (.b y0)], [] => some (.inl (y0))
 | .exit 0, [.s .bad], [] => some (.inr ())
 | _, _, _ => none
noncomputable def ref08_InCheckp6 {R : Type} (vs : List V) (objs : List Obj) (K : Ex → List V → List Obj → Option R) : Option R := match vs, objs with
 | [.s (.i .i64 x0), .s (.ptr 0 0 none 0), .s (.ptr 1 0 none 0), .s (.i .i64 x1), .s (.i .i64 x2)], [.cells 28 [.arr .i8 81 x3, .arr .i8 16 x4, .one [.i .i8 x5]], .cells 78 [Seg.barr 81 x6]] => ob (ref08_InCheckl6 many x0 x1 x2 x3 x4 x5 x6) fun t0 => sw t0 (fun y0 => K (.ret) ([.s (.b y0)]) ([])) (fun _ => K (.exit 0) ([.s .bad]) ([]))
 | _, _ => none
noncomputable def ref08_InChecklp : {R : Type} → Nat → List V → List Obj → (Ex → List V → List Obj → Option R) → Option R := fun q vs objs K => bif Nat.beq q 6 then ref08_InCheckp6 vs objs K else none
noncomputable def ref08_InCheckc : Ctx := mkC 39 ((ref04_Reacheso (ref02_Sideo (ref08_Kingo (ref05_Takeno oNil))))) [(6, [1, 2, 5, 6, 7], [4])] ref08_InChecklp
theorem ref08_InCheckc_ok : CtxOK Tryd.prog ref08_InCheckc := mkC_ok ((ref04_Reacheso_ok _ (ref02_Sideo_ok _ (ref08_Kingo_ok _ (ref05_Takeno_ok _ oNil_ok)))))
noncomputable def ref08_InCheckl6r (f : Nat) (x0 x1 x2 : Int) (x3 x4 : List Int) (x5 : Int) (x6 : List Bool) : Option ((Bool) ⊕ (Unit)) := lrun ref08_InCheckc 0 [1, 2, 5, 6, 7] [4] (loopOf Tryd.f22 6) f ([.s (.i .i64 x0), .s (.ptr 0 0 none 0), .s (.ptr 1 0 none 0), .s (.i .i64 x1), .s (.i .i64 x2)]) ([.cells 28 [.arr .i8 81 x3, .arr .i8 16 x4, .one [.i .i8 x5]], .cells 78 [Seg.barr 81 x6]]) ref08_InCheckl6d
theorem ref08_InCheckl6_step (f : Nat) (x0 x1 x2 : Int) (x3 x4 : List Int) (x5 : Int) (x6 : List Bool) : ref08_InCheckl6r (f + 1) x0 x1 x2 x3 x4 x5 x6 = ref08_InCheckl6s (ref08_InCheckl6r f) x0 x1 x2 x3 x4 x5 x6 := by kernel_rfl
theorem ref08_InCheckl6_eq : ∀ f, ref08_InCheckl6r f = ref08_InCheckl6 f
 | 0 => rfl
 | f + 1 => by funext x0 x1 x2 x3 x4 x5 x6; rw [ref08_InCheckl6_step, ref08_InCheckl6_eq f]; rfl
theorem ref08_InChecks6 : LoopSound Tryd.prog ref08_InCheckc 0 (loopOf Tryd.f22 6) :=
 loopSound_by mixed ref08_InCheckc_ok (AllP.of (l' := []) (by kernel_rfl) trivial) (q := 6) (kin := [1, 2, 5, 6, 7]) (kout := [4]) (by kernel_rfl) (by kernel_rfl) fun vs objs K r h => by
  replace h : ref08_InCheckp6 vs objs K = some r := h
  unfold ref08_InCheckp6 at h
  split at h
  ·skip
   obtain ⟨t, h1, h2⟩ := ob_ok h
   rw [← ref08_InCheckl6_eq] at h1
   refine ⟨_, ref08_InCheckl6d, t, many, h1, fun e vs' objs' hd => ?_⟩
   unfold ref08_InCheckl6d at hd
   split at hd
   ·skip
    cases hd
    exact h2
   ·skip
    cases hd
    exact h2
   ·cases hd
  ·cases h
noncomputable def ref08_InCheckd : V → List Obj → Option (Bool) := fun v objs => match v, objs with
 | .s (.b y0), [] => some (y0)
 | _, _ => none
theorem ref08_InCheck_eq (x0 x1 : List Int) (x2 x3 : Int) : fnE ref08_InCheckc Tryd.f22 ([.agg [.arr .i8 81 x0, .arr .i8 16 x1, .one [.i .i8 x2]], .s (.i .i64 x3)]) ([]) ref08_InCheckd = ref08_InCheck x0 x1 x2 x3 := by kernel_rfl
noncomputable def ref08_InChecka {R : Type} (o : Orc) (vs : List V) (objs : List Obj) (K : Bool → V → List Obj → Option R) : Option R := match vs, objs with
 | [.agg [.arr .i8 81 x0, .arr .i8 16 x1, .one [.i .i8 x2]], .s (.i .i64 x3)], [] => ob (ref08_InCheck x0 x1 x2 x3) fun y0 => K false (.s (.b y0)) ([])
 | _, _ => o 22 vs objs K
noncomputable def ref08_InChecko (o : Orc) : Orc := hook 22 (ref08_InChecka o) o
theorem ref08_InChecko_ok (o : Orc) (ho : OSound Tryd.prog o) : OSound Tryd.prog (ref08_InChecko o) := hook_ok ho fun vs objs K r h => by
 unfold ref08_InChecka at h
 split at h
 ·skip
  obtain ⟨t, h1, h2⟩ := ob_ok h
  refine anyOK_of mixed ref08_InCheckc_ok (fn := Tryd.f22) (b := (Tryd.f22).body.getD .skip) (by kernel_rfl) (by kernel_rfl) (by kernel_rfl) ((ref08_InCheck_eq _ _ _ _).trans h1) (m := 0) rfl (AllP.of (l' := [loopOf Tryd.f22 6]) (by kernel_rfl) ⟨ref08_InChecks6, trivial⟩) fun v objs' hd => ?_
  unfold ref08_InCheckd at hd
  split at hd
  ·skip
   cases hd
   exact h2
  ·cases hd
 ·exact ho _ _ _ _ _ h
noncomputable def ref08_Checkc : Ctx := mkC 15 ((ref08_InChecko (ref05_Checko oNil))) [] lpNil
theorem ref08_Checkc_ok : CtxOK Tryd.prog ref08_Checkc := mkC_ok ((ref08_InChecko_ok _ (ref05_Checko_ok _ oNil_ok)))
noncomputable def ref08_Checkd : V → List Obj → Option (Int) := fun v objs => match v, objs with
 | .s (.i .i64 y0), [] => some (y0)
 | _, _ => none
theorem ref08_Check_eq (x0 x1 : List Int) (x2 : Int) : fnE ref08_Checkc Tryd.f11 ([.agg [.arr .i8 81 x0, .arr .i8 16 x1, .one [.i .i8 x2]]]) ([]) ref08_Checkd = ref08_Check x0 x1 x2 := by kernel_rfl
noncomputable def ref08_Checka {R : Type} (o : Orc) (vs : List V) (objs : List Obj) (K : Bool → V → List Obj → Option R) : Option R := match vs, objs with
 | [.agg [.arr .i8 81 x0, .arr .i8 16 x1, .one [.i .i8 x2]]], [] => ob (ref08_Check x0 x1 x2) fun y0 => K false (.s (.i .i64 y0)) ([])
 | _, _ => o 11 vs objs K
noncomputable def ref08_Checko (o : Orc) : Orc := hook 11 (ref08_Checka o) o
theorem ref08_Checko_ok (o : Orc) (ho : OSound Tryd.prog o) : OSound Tryd.prog (ref08_Checko o) := hook_ok ho fun vs objs K r h => by
 unfold ref08_Checka at h
 split at h
 ·skip
  obtain ⟨t, h1, h2⟩ := ob_ok h
  refine anyOK_of mixed ref08_Checkc_ok (fn := Tryd.f11) (b := (Tryd.f11).body.getD .skip) (by kernel_rfl) (by kernel_rfl) (by kernel_rfl) ((ref08_Check_eq _ _ _).trans h1) (m := 0) rfl (AllP.of (l' := []) (by kernel_rfl) trivial) fun v objs' hd => ?_
  unfold ref08_Checkd at hd
  split at hd
  ·skip
   cases hd
   exact h2
  ·cases hd
 ·exact ho _ _ _ _ _ h
noncomputable def law12_MateSides_v1l7d : Ex → List V → List Obj → Option (List Int × List Int × Int × List Int × List Int × Int) := fun e vs objs => match e, vs, objs with
 | .exit 0, [.s (.ptr 0 0 none 0), .s (.ptr 1 0 none 0)], [.cells 28 [.arr .i8 81 y0, .arr .i8 16 y1, .one [.i .i8 y2]], .cells 28 [.arr .i8 81 y3, .arr .i8 16 y4, .one [.i .i8 y5]]] => some (y0, y1, y2, y3, y4, y5)
 | _, _, _ => none
noncomputable def law12_MateSides_v1p7 {R : Type} (vs : List V) (objs : List Obj) (K : Ex → List V → List Obj → Option R) : Option R := match vs, objs with
 | [.s (.ptr 0 0 none 0), .s (.ptr 1 0 none 0), .s (.i .i64 x0)], [.cells 28 [.arr .i8 81 x1, .arr .i8 16 x2, .one [.i .i8 x3]], .cells 28 [.arr .i8 81 x4, .arr .i8 16 x5, .one [.i .i8 x6]]] => ob (law12_MateSides_v1l7 many x0 x1 x2 x3 x4 x5 x6) fun z => K (.exit 0) ([.s (.ptr 0 0 none 0), .s (.ptr 1 0 none 0)]) ([.cells 28 [.arr .i8 81 (z.1), .arr .i8 16 (z.2.1), .one [.i .i8 (z.2.2.1)]], .cells 28 [.arr .i8 81 (z.2.2.2.1), .arr .i8 16 (z.2.2.2.2.1), .one [.i .i8 (z.2.2.2.2.2)]]])
 | _, _ => none
noncomputable def law12_MateSides_v1lp : {R : Type} → Nat → List V → List Obj → (Ex → List V → List Obj → Option R) → Option R := fun q vs objs K => bif Nat.beq q 7 then law12_MateSides_v1p7 vs objs K else none
noncomputable def law12_MateSides_v1c : Ctx := mkC 95 ((mate_Checks_v1o (mate_Matedo (mate_Stucko (board_Newo (mate_InOne_v1o (ref08_Checko (law12_mates_v1o oNil)))))))) [(7, [1, 3, 26], [1, 3])] law12_MateSides_v1lp
theorem law12_MateSides_v1c_ok : CtxOK Tryd.prog law12_MateSides_v1c := mkC_ok ((mate_Checks_v1o_ok _ (mate_Matedo_ok _ (mate_Stucko_ok _ (board_Newo_ok _ (mate_InOne_v1o_ok _ (ref08_Checko_ok _ (law12_mates_v1o_ok _ oNil_ok))))))))
noncomputable def law12_MateSides_v1l7r (f : Nat) (x0 : Int) (x1 x2 : List Int) (x3 : Int) (x4 x5 : List Int) (x6 : Int) : Option (List Int × List Int × Int × List Int × List Int × Int) := lrun law12_MateSides_v1c 0 [1, 3, 26] [1, 3] (loopOf Tryd.f9 7) f ([.s (.ptr 0 0 none 0), .s (.ptr 1 0 none 0), .s (.i .i64 x0)]) ([.cells 28 [.arr .i8 81 x1, .arr .i8 16 x2, .one [.i .i8 x3]], .cells 28 [.arr .i8 81 x4, .arr .i8 16 x5, .one [.i .i8 x6]]]) law12_MateSides_v1l7d
theorem law12_MateSides_v1l7_step (f : Nat) (x0 : Int) (x1 x2 : List Int) (x3 : Int) (x4 x5 : List Int) (x6 : Int) : law12_MateSides_v1l7r (f + 1) x0 x1 x2 x3 x4 x5 x6 = law12_MateSides_v1l7s (law12_MateSides_v1l7r f) x0 x1 x2 x3 x4 x5 x6 := by kernel_rfl
theorem law12_MateSides_v1l7_eq : ∀ f, law12_MateSides_v1l7r f = law12_MateSides_v1l7 f
 | 0 => rfl
 | f + 1 => by funext x0 x1 x2 x3 x4 x5 x6; rw [law12_MateSides_v1l7_step, law12_MateSides_v1l7_eq f]; rfl
theorem law12_MateSides_v1s7 : LoopSound Tryd.prog law12_MateSides_v1c 0 (loopOf Tryd.f9 7) :=
 loopSound_by mixed law12_MateSides_v1c_ok (AllP.of (l' := []) (by kernel_rfl) trivial) (q := 7) (kin := [1, 3, 26]) (kout := [1, 3]) (by kernel_rfl) (by kernel_rfl) fun vs objs K r h => by
  replace h : law12_MateSides_v1p7 vs objs K = some r := h
  unfold law12_MateSides_v1p7 at h
  split at h
  ·skip
   obtain ⟨t, h1, h2⟩ := ob_ok h
   rw [← law12_MateSides_v1l7_eq] at h1
   refine ⟨_, law12_MateSides_v1l7d, t, many, h1, fun e vs' objs' hd => ?_⟩
   unfold law12_MateSides_v1l7d at hd
   split at hd
   ·skip
    cases hd
    exact h2
   ·cases hd
  ·cases h
noncomputable def law12_MateSides_v1d : V → List Obj → Option (Bool) := fun v objs => match v, objs with
 | .s (.b y0), [] => some (y0)
 | _, _ => none
theorem law12_MateSides_v1_eq (x0 x1 : List Int) (x2 : Int) : fnE law12_MateSides_v1c Tryd.f9 ([.agg [.arr .i8 81 x0, .arr .i8 16 x1, .one [.i .i8 x2]]]) ([]) law12_MateSides_v1d = law12_MateSides_v1 x0 x1 x2 := by kernel_rfl
noncomputable def law12_MateSides_v1a {R : Type} (o : Orc) (vs : List V) (objs : List Obj) (K : Bool → V → List Obj → Option R) : Option R := match vs, objs with
 | [.agg [.arr .i8 81 x0, .arr .i8 16 x1, .one [.i .i8 x2]]], [] => ob (law12_MateSides_v1 x0 x1 x2) fun y0 => K false (.s (.b y0)) ([])
 | _, _ => o 9 vs objs K
noncomputable def law12_MateSides_v1o (o : Orc) : Orc := hook 9 (law12_MateSides_v1a o) o
theorem law12_MateSides_v1_ok {vs : List V} {objs : List Obj} (x0 x1 : List Int) (x2 : Int) {R : Type} {K : Bool → V → List Obj → Option R} {r : R} (hv : vs = [.agg [.arr .i8 81 x0, .arr .i8 16 x1, .one [.i .i8 x2]]]) (ho : objs = []) (h : ob (law12_MateSides_v1 x0 x1 x2) (fun y0 => K false (.s (.b y0)) ([])) = some r) :
  ∃ p v objs', K p v objs' = some r ∧ AnyOK Tryd.prog 9 vs objs p v objs' := by
 subst hv
 subst ho
 obtain ⟨t, h1, h2⟩ := ob_ok h
 refine anyOK_of mixed law12_MateSides_v1c_ok (fn := Tryd.f9) (b := (Tryd.f9).body.getD .skip) (by kernel_rfl) (by kernel_rfl) (by kernel_rfl) ((law12_MateSides_v1_eq _ _ _).trans h1) (m := 0) rfl (AllP.of (l' := [loopOf Tryd.f9 7]) (by kernel_rfl) ⟨law12_MateSides_v1s7, trivial⟩) fun v objs' hd => ?_
 unfold law12_MateSides_v1d at hd
 split at hd
 ·skip
  cases hd
  exact h2
 ·cases hd
theorem law12_MateSides_v1o_ok (o : Orc) (ho : OSound Tryd.prog o) : OSound Tryd.prog (law12_MateSides_v1o o) := hook_ok ho fun vs objs K r h => by
 unfold law12_MateSides_v1a at h
 split at h
 ·skip
  obtain ⟨t, h1, h2⟩ := ob_ok h
  refine anyOK_of mixed law12_MateSides_v1c_ok (fn := Tryd.f9) (b := (Tryd.f9).body.getD .skip) (by kernel_rfl) (by kernel_rfl) (by kernel_rfl) ((law12_MateSides_v1_eq _ _ _).trans h1) (m := 0) rfl (AllP.of (l' := [loopOf Tryd.f9 7]) (by kernel_rfl) ⟨law12_MateSides_v1s7, trivial⟩) fun v objs' hd => ?_
  unfold law12_MateSides_v1d at hd
  split at hd
  ·skip
   cases hd
   exact h2
  ·cases hd
 ·exact ho _ _ _ _ _ h
end Go.Kk.KkME
