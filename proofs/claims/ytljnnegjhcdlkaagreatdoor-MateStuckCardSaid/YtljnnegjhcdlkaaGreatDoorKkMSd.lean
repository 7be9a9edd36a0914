/- Printed by a tool of this project (KkGen): the program's functions come to the plain ones. -/
import Derived.Test.YtljnnegjhcdlkaaGreatDoorKkMSc
namespace Go.Kk.KkMS
open Go.Proofs Go.Kk.Pl
set_option maxRecDepth 100000
set_option maxHeartbeats 4000000
noncomputable def ref05_Checkl4d : Ex → List V → List Obj → Option ((Int × List Int × List Int × Int) ⊕ (List Int × List Int × Int)) := fun e vs objs => match e, vs, objs with
 | .ret, [.s (.ptr 0 0 none 0), .s (.i .i64 y0)], [.cells 28 [.arr .i8 81 y1, .arr .i8 16 y2, .one [.i .i8 y3]]] => some (.inl (y0, y1, y2, y3))
 | .exit 0, [.s (.ptr 0 0 none 0), .s .bad], [.cells 28 [.arr .i8 81 y0, .arr .i8 16 y1, .one [.i .i8 y2]]] => some (.inr (y0, y1, y2))
 | _, _, _ => none
noncomputable def ref05_Checkl12d : Ex → List V → List Obj → Option ((Int × Int × List Int × List Int × Int) ⊕ (Int × List Int × List Int × Int)) := fun e vs objs => match e, vs, objs with
 | .ret, [.s (.ptr 0 0 none 0), .s (.i .i64 y0), .s (.i .i64 y1)], [.cells 28 [.arr .i8 81 y2, .arr .i8 16 y3, .one [.i .i8 y4]]] => some (.inl (y0, y1, y2, y3, y4))
 | .exit 4, [.s (.ptr 0 0 none 0), .s .bad, .s (.i .i64 y0)], [.cells 28 [.arr .i8 81 y1, .arr .i8 16 y2, .one [.i .i8 y3]]] => some (.inr (y0, y1, y2, y3))
 | _, _, _ => none
noncomputable def ref05_Checkl9d : Ex → List V → List Obj → Option ((Int × List Int × List Int × Int) ⊕ (List Int × List Int × Int)) := fun e vs objs => match e, vs, objs with
 | .ret, [.s (.ptr 0 0 none 0), .s (.i .i64 y0)], [.cells 28 [.arr .i8 81 y1, .arr .i8 16 y2, .one [.i .i8 y3]]] => some (.inl (y0, y1, y2, y3))
 | .exit 2, [.s (.ptr 0 0 none 0), .s .bad], [.cells 28 [.arr .i8 81 y0, .arr .i8 16 y1, .one [.i .i8 y2]]] => some (.inr (y0, y1, y2))
 | _, _, _ => none
noncomputable def ref05_Checkl20d : Ex → List V → List Obj → Option ((Int × List Int × List Int × Int) ⊕ (List Int × List Int × Int)) := fun e vs objs => match e, vs, objs with
 | .ret, [.s (.ptr 0 0 none 0), .s (.i .i64 y0)], [.cells 28 [.arr .i8 81 y1, .arr .i8 16 y2, .one [.i .i8 y3]]] => some (.inl (y0, y1, y2, y3))
 | .exit 6, [.s (.ptr 0 0 none 0), .s .bad], [.cells 28 [.arr .i8 81 y0, .arr .i8 16 y1, .one [.i .i8 y2]]] => some (.inr (y0, y1, y2))
 | _, _, _ => none
noncomputable def ref05_Checkl25d : Ex → List V → List Obj → Option ((Int × List Int × List Int × Int) ⊕ (List Int × List Int × Int)) := fun e vs objs => match e, vs, objs with
 | .ret, [.s (.ptr 0 0 none 0), .s (.i .i64 y0)], [.cells 28 [.arr .i8 81 y1, .arr .i8 16 y2, .one [.i .i8 y3]]] => some (.inl (y0, y1, y2, y3))
 | .exit 8, [.s (.ptr 0 0 none 0), .s .bad], [.cells 28 [.arr .i8 81 y0, .arr .i8 16 y1, .one [.i .i8 y2]]] => some (.inr (y0, y1, y2))
 | _, _, _ => none
noncomputable def ref05_Checkl30d : Ex → List V → List Obj → Option ((Int) ⊕ (Unit)) := fun e vs objs => match e, vs, objs with
 | .ret, [.s (.i .i64 y0)], [] => some (.inl (y0))
 | .exit 10, [.s .bad], [] => some (.inr ())
 | _, _, _ => none
noncomputable def ref05_Checkp4 {R : Type} (vs : List V) (objs : List Obj) (K : Ex → List V → List Obj → Option R) : Option R := match vs, objs with
 | [.s (.ptr 0 0 none 0), .s (.i .i64 x0)], [.cells 28 [.arr .i8 81 x1, .arr .i8 16 x2, .one [.i .i8 x3]]] => ob (ref05_Checkl4 many x0 x1 x2 x3) fun t0 => sw t0 (fun z => K (.ret) ([.s (.ptr 0 0 none 0), .s (.i .i64 (z.1))]) ([.cells 28 [.arr .i8 81 (z.2.1), .arr .i8 16 (z.2.2.1), .one [.i .i8 (z.2.2.2)]]])) (fun z => K (.exit 0) ([.s (.ptr 0 0 none 0), .s .bad]) ([.cells 28 [.arr .i8 81 (z.1), .arr .i8 16 (z.2.1), .one [.i .i8 (z.2.2)]]]))
 | _, _ => none
noncomputable def ref05_Checkp12 {R : Type} (vs : List V) (objs : List Obj) (K : Ex → List V → List Obj → Option R) : Option R := match vs, objs with
 | [.s (.ptr 0 0 none 0), .s (.i .i64 x0), .s (.i .i64 x1)], [.cells 28 [.arr .i8 81 x2, .arr .i8 16 x3, .one [.i .i8 x4]]] => ob (ref05_Checkl12 many x0 x1 x2 x3 x4) fun t0 => sw t0 (fun z => K (.ret) ([.s (.ptr 0 0 none 0), .s (.i .i64 (z.1)), .s (.i .i64 (z.2.1))]) ([.cells 28 [.arr .i8 81 (z.2.2.1), .arr .i8 16 (z.2.2.2.1), .one [.i .i8 (z.2.2.2.2)]]])) (fun z => K (.exit 4) ([.s (.ptr 0 0 none 0), .s .bad, .s (.i .i64 (z.1))]) ([.cells 28 [.arr .i8 81 (z.2.1), .arr .i8 16 (z.2.2.1), .one [.i .i8 (z.2.2.2)]]]))
 | _, _ => none
noncomputable def ref05_Checkp9 {R : Type} (vs : List V) (objs : List Obj) (K : Ex → List V → List Obj → Option R) : Option R := match vs, objs with
 | [.s (.ptr 0 0 none 0), .s (.i .i64 x0)], [.cells 28 [.arr .i8 81 x1, .arr .i8 16 x2, .one [.i .i8 x3]]] => ob (ref05_Checkl9 many x0 x1 x2 x3) fun t0 => sw t0 (fun z => K (.ret) ([.s (.ptr 0 0 none 0), .s (.i .i64 (z.1))]) ([.cells 28 [.arr .i8 81 (z.2.1), .arr .i8 16 (z.2.2.1), .one [.i .i8 (z.2.2.2)]]])) (fun z => K (.exit 2) ([.s (.ptr 0 0 none 0), .s .bad]) ([.cells 28 [.arr .i8 81 (z.1), .arr .i8 16 (z.2.1), .one [.i .i8 (z.2.2)]]]))
 | _, _ => none
noncomputable def ref05_Checkp20 {R : Type} (vs : List V) (objs : List Obj) (K : Ex → List V → List Obj → Option R) : Option R := match vs, objs with
 | [.s (.ptr 0 0 none 0), .s (.i .i64 x0)], [.cells 28 [.arr .i8 81 x1, .arr .i8 16 x2, .one [.i .i8 x3]]] => ob (ref05_Checkl20 many x0 x1 x2 x3) fun t0 => sw t0 (fun z => K (.ret) ([.s (.ptr 0 0 none 0), .s (.i .i64 (z.1))]) ([.cells 28 [.arr .i8 81 (z.2.1), .arr .i8 16 (z.2.2.1), .one [.i .i8 (z.2.2.2)]]])) (fun z => K (.exit 6) ([.s (.ptr 0 0 none 0), .s .bad]) ([.cells 28 [.arr .i8 81 (z.1), .arr .i8 16 (z.2.1), .one [.i .i8 (z.2.2)]]]))
 | _, _ => none
noncomputable def ref05_Checkp25 {R : Type} (vs : List V) (objs : List Obj) (K : Ex → List V → List Obj → Option R) : Option R := match vs, objs with
 | [.s (.ptr 0 0 none 0), .s (.i .i64 x0)], [.cells 28 [.arr .i8 81 x1, .arr .i8 16 x2, .one [.i .i8 x3]]] => ob (ref05_Checkl25 many x0 x1 x2 x3) fun t0 => sw t0 (fun z => K (.ret) ([.s (.ptr 0 0 none 0), .s (.i .i64 (z.1))]) ([.cells 28 [.arr .i8 81 (z.2.1), .arr .i8 16 (z.2.2.1), .one [.i .i8 (z.2.2.2)]]])) (fun z => K (.exit 8) ([.s (.ptr 0 0 none 0), .s .bad]) ([.cells 28 [.arr .i8 81 (z.1), .arr .i8 16 (z.2.1), .one [.i .i8 (z.2.2)]]]))
 | _, _ => none
noncomputable def ref05_Checkp30 {R : Type} (vs : List V) (objs : List Obj) (K : Ex → List V → List Obj → Option R) : Option R := match vs, objs with
 | [.s (.ptr 0 0 none 0), .s (.i .i64 x0)], [.cells 28 [.arr .i8 81 x1, .arr .i8 16 x2, .one [.i .i8 x3]]] => ob (ref05_Checkl30 many x0 x1 x2 x3) fun t0 => sw t0 (fun y0 => K (.ret) ([.s (.i .i64 y0)]) ([])) (fun _ => K (.exit 10) ([.s .bad]) ([]))
 | _, _ => none
noncomputable def ref05_Checklp : {R : Type} → Nat → List V → List Obj → (Ex → List V → List Obj → Option R) → Option R := fun q vs objs K => bif Nat.beq q 4 then ref05_Checkp4 vs objs K else bif Nat.beq q 12 then ref05_Checkp12 vs objs K else bif Nat.beq q 9 then ref05_Checkp9 vs objs K else bif Nat.beq q 20 then ref05_Checkp20 vs objs K else bif Nat.beq q 25 then ref05_Checkp25 vs objs K else bif Nat.beq q 30 then ref05_Checkp30 vs objs K else none
noncomputable def ref05_Checkc : Ctx := mkC 103 ((ref05_Ono (ref03_Deado (ref02_Totalo (ref05_Counto (ref05_allo (ref02_Kindo oNil))))))) [(4, [1, 3], [1, 2]), (9, [1, 4], [1, 2]), (12, [1, 4, 5], [1, 2, 4]), (20, [1, 7], [1, 2]), (25, [1, 8], [1, 2]), (30, [1, 9], [2])] ref05_Checklp
theorem ref05_Checkc_ok : CtxOK Tryz.prog ref05_Checkc := mkC_ok ((ref05_Ono_ok _ (ref03_Deado_ok _ (ref02_Totalo_ok _ (ref05_Counto_ok _ (ref05_allo_ok _ (ref02_Kindo_ok _ oNil_ok)))))))
noncomputable def ref05_Checkl4r (f : Nat) (x0 : Int) (x1 x2 : List Int) (x3 : Int) : Option ((Int × List Int × List Int × Int) ⊕ (List Int × List Int × Int)) := lrun ref05_Checkc 0 [1, 3] [1, 2] (loopOf Tryz.f28 4) f ([.s (.ptr 0 0 none 0), .s (.i .i64 x0)]) ([.cells 28 [.arr .i8 81 x1, .arr .i8 16 x2, .one [.i .i8 x3]]]) ref05_Checkl4d
theorem ref05_Checkl4_step (f : Nat) (x0 : Int) (x1 x2 : List Int) (x3 : Int) : ref05_Checkl4r (f + 1) x0 x1 x2 x3 = ref05_Checkl4s (ref05_Checkl4r f) x0 x1 x2 x3 := by kernel_rfl
theorem ref05_Checkl4_eq : ∀ f, ref05_Checkl4r f = ref05_Checkl4 f
 | 0 => rfl
 | f + 1 => by funext x0 x1 x2 x3; rw [ref05_Checkl4_step, ref05_Checkl4_eq f]; rfl
noncomputable def ref05_Checkl12r (f : Nat) (x0 x1 : Int) (x2 x3 : List Int) (x4 : Int) : Option ((Int × Int × List Int × List Int × Int) ⊕ (Int × List Int × List Int × Int)) := lrun ref05_Checkc 0 [1, 4, 5] [1, 2, 4] (loopOf Tryz.f28 12) f ([.s (.ptr 0 0 none 0), .s (.i .i64 x0), .s (.i .i64 x1)]) ([.cells 28 [.arr .i8 81 x2, .arr .i8 16 x3, .one [.i .i8 x4]]]) ref05_Checkl12d
theorem ref05_Checkl12_step (f : Nat) (x0 x1 : Int) (x2 x3 : List Int) (x4 : Int) : ref05_Checkl12r (f + 1) x0 x1 x2 x3 x4 = ref05_Checkl12s (ref05_Checkl12r f) x0 x1 x2 x3 x4 := by kernel_rfl
theorem ref05_Checkl12_eq : ∀ f, ref05_Checkl12r f = ref05_Checkl12 f
 | 0 => rfl
 | f + 1 => by funext x0 x1 x2 x3 x4; rw [ref05_Checkl12_step, ref05_Checkl12_eq f]; rfl
noncomputable def ref05_Checkl9r (f : Nat) (x0 : Int) (x1 x2 : List Int) (x3 : Int) : Option ((Int × List Int × List Int × Int) ⊕ (List Int × List Int × Int)) := lrun ref05_Checkc 0 [1, 4] [1, 2] (loopOf Tryz.f28 9) f ([.s (.ptr 0 0 none 0), .s (.i .i64 x0)]) ([.cells 28 [.arr .i8 81 x1, .arr .i8 16 x2, .one [.i .i8 x3]]]) ref05_Checkl9d
theorem ref05_Checkl9_step (f : Nat) (x0 : Int) (x1 x2 : List Int) (x3 : Int) : ref05_Checkl9r (f + 1) x0 x1 x2 x3 = ref05_Checkl9s (ref05_Checkl9r f) x0 x1 x2 x3 := by kernel_rfl
theorem ref05_Checkl9_eq : ∀ f, ref05_Checkl9r f = ref05_Checkl9 f
 | 0 => rfl
 | f + 1 => by funext x0 x1 x2 x3; rw [ref05_Checkl9_step, ref05_Checkl9_eq f]; rfl
noncomputable def ref05_Checkl20r (f : Nat) (x0 : Int) (x1 x2 : List Int) (x3 : Int) : Option ((Int × List Int × List Int × Int) ⊕ (List Int × List Int × Int)) := lrun ref05_Checkc 0 [1, 7] [1, 2] (loopOf Tryz.f28 20) f ([.s (.ptr 0 0 none 0), .s (.i .i64 x0)]) ([.cells 28 [.arr .i8 81 x1, .arr .i8 16 x2, .one [.i .i8 x3]]]) ref05_Checkl20d
theorem ref05_Checkl20_step (f : Nat) (x0 : Int) (x1 x2 : List Int) (x3 : Int) : ref05_Checkl20r (f + 1) x0 x1 x2 x3 = ref05_Checkl20s (ref05_Checkl20r f) x0 x1 x2 x3 := by kernel_rfl
theorem ref05_Checkl20_eq : ∀ f, ref05_Checkl20r f = ref05_Checkl20 f
 | 0 => rfl
 | f + 1 => by funext x0 x1 x2 x3; rw [ref05_Checkl20_step, ref05_Checkl20_eq f]; rfl
noncomputable def ref05_Checkl25r (f : Nat) (x0 : Int) (x1 x2 : List Int) (x3 : Int) : Option ((Int × List Int × List Int × Int) ⊕ (List Int × List Int × Int)) := lrun ref05_Checkc 0 [1, 8] [1, 2] (loopOf Tryz.f28 25) f ([.s (.ptr 0 0 none 0), .s (.i .i64 x0)]) ([.cells 28 [.arr .i8 81 x1, .arr .i8 16 x2, .one [.i .i8 x3]]]) ref05_Checkl25d
theorem ref05_Checkl25_step (f : Nat) (x0 : Int) (x1 x2 : List Int) (x3 : Int) : ref05_Checkl25r (f + 1) x0 x1 x2 x3 = ref05_Checkl25s (ref05_Checkl25r f) x0 x1 x2 x3 := by kernel_rfl
theorem ref05_Checkl25_eq : ∀ f, ref05_Checkl25r f = ref05_Checkl25 f
 | 0 => rfl
 | f + 1 => by funext x0 x1 x2 x3; rw [ref05_Checkl25_step, ref05_Checkl25_eq f]; rfl
noncomputable def ref05_Checkl30r (f : Nat) (x0 : Int) (x1 x2 : List Int) (x3 : Int) : Option ((Int) ⊕ (Unit)) := lrun ref05_Checkc 0 [1, 9] [2] (loopOf Tryz.f28 30) f ([.s (.ptr 0 0 none 0), .s (.i .i64 x0)]) ([.cells 28 [.arr .i8 81 x1, .arr .i8 16 x2, .one [.i .i8 x3]]]) ref05_Checkl30d
theorem ref05_Checkl30_step (f : Nat) (x0 : Int) (x1 x2 : List Int) (x3 : Int) : ref05_Checkl30r (f + 1) x0 x1 x2 x3 = ref05_Checkl30s (ref05_Checkl30r f) x0 x1 x2 x3 := by kernel_rfl
theorem ref05_Checkl30_eq : ∀ f, ref05_Checkl30r f = ref05_Checkl30 f
 | 0 => rfl
 | f + 1 => by funext x0 x1 x2 x3; rw [ref05_Checkl30_step, ref05_Checkl30_eq f]; rfl
theorem ref05_Checks4 : LoopSound Tryz.prog ref05_Checkc 0 (loopOf Tryz.f28 4) :=
 loopSound_by mixed ref05_Checkc_ok (AllP.of (l' := []) (by kernel_rfl) trivial) (q := 4) (kin := [1, 3]) (kout := [1, 2]) (by kernel_rfl) (by kernel_rfl) fun vs objs K r h => by
  replace h : ref05_Checkp4 vs objs K = some r := h
  unfold ref05_Checkp4 at h
  split at h
  ·skip
   obtain ⟨t, h1, h2⟩ := ob_ok h
   rw [← ref05_Checkl4_eq] at h1
   refine ⟨_, ref05_Checkl4d, t, many, h1, fun e vs' objs' hd => ?_⟩
   unfold ref05_Checkl4d at hd
   split at hd
   ·skip
    cases hd
    exact h2
   ·skip
    cases hd
    exact h2
   ·cases hd
  ·cases h
theorem ref05_Checks12 : LoopSound Tryz.prog ref05_Checkc 0 (loopOf Tryz.f28 12) :=
 loopSound_by mixed ref05_Checkc_ok (AllP.of (l' := []) (by kernel_rfl) trivial) (q := 12) (kin := [1, 4, 5]) (kout := [1, 2, 4]) (by kernel_rfl) (by kernel_rfl) fun vs objs K r h => by
  replace h : ref05_Checkp12 vs objs K = some r := h
  unfold ref05_Checkp12 at h
  split at h
  ·skip
   obtain ⟨t, h1, h2⟩ := ob_ok h
   rw [← ref05_Checkl12_eq] at h1
   refine ⟨_, ref05_Checkl12d, t, many, h1, fun e vs' objs' hd => ?_⟩
   unfold ref05_Checkl12d at hd
   split at hd
   ·skip
    cases hd
    exact h2
   ·skip
    cases hd
    exact h2
   ·cases hd
  ·cases h
theorem ref05_Checks20 : LoopSound Tryz.prog ref05_Checkc 0 (loopOf Tryz.f28 20) :=
 loopSound_by mixed ref05_Checkc_ok (AllP.of (l' := []) (by kernel_rfl) trivial) (q := 20) (kin := [1, 7]) (kout := [1, 2]) (by kernel_rfl) (by kernel_rfl) fun vs objs K r h => by
  replace h : ref05_Checkp20 vs objs K = some r := h
  unfold ref05_Checkp20 at h
  split at h
  ·skip
   obtain ⟨t, h1, h2⟩ := ob_ok h
   rw [← ref05_Checkl20_eq] at h1
   refine ⟨_, ref05_Checkl20d, t, many, h1, fun e vs' objs' hd => ?_⟩
   unfold ref05_Checkl20d at hd
   split at hd
   ·skip
    cases hd
    exact h2
   ·skip
    cases hd
    exact h2
   ·cases hd
  ·cases h
theorem ref05_Checks25 : LoopSound Tryz.prog ref05_Checkc 0 (loopOf Tryz.f28 25) :=
 loopSound_by mixed ref05_Checkc_ok (AllP.of (l' := []) (by kernel_rfl) trivial) (q := 25) (kin := [1, 8]) (kout := [1, 2]) (by kernel_rfl) (by kernel_rfl) fun vs objs K r h => by
  replace h : ref05_Checkp25 vs objs K = some r := h
  unfold ref05_Checkp25 at h
  split at h
  ·skip
   obtain ⟨t, h1, h2⟩ := ob_ok h
   rw [← ref05_Checkl25_eq] at h1
   refine ⟨_, ref05_Checkl25d, t, many, h1, fun e vs' objs' hd => ?_⟩
   unfold ref05_Checkl25d at hd
   split at hd
   ·skip
    cases hd
    exact h2
   ·skip
    cases hd
    exact h2
   ·cases hd
  ·cases h
theorem ref05_Checks30 : LoopSound Tryz.prog ref05_Checkc 0 (loopOf Tryz.f28 30) :=
 loopSound_by mixed ref05_Checkc_ok (AllP.of (l' := []) (by kernel_rfl) trivial) (q := 30) (kin := [1, 9]) (kout := [2]) (by kernel_rfl) (by kernel_rfl) fun vs objs K r h => by
  replace h : ref05_Checkp30 vs objs K = some r := h
  unfold ref05_Checkp30 at h
  split at h
  ·skip
   obtain ⟨t, h1, h2⟩ := ob_ok h
   rw [← ref05_Checkl30_eq] at h1
   refine ⟨_, ref05_Checkl30d, t, many, h1, fun e vs' objs' hd => ?_⟩
   unfold ref05_Checkl30d at hd
   split at hd
   ·skip
    cases hd
    exact h2
   ·skip
    cases hd
    exact h2
   ·cases hd
  ·cases h
theorem ref05_Checks9 : LoopSound Tryz.prog ref05_Checkc 0 (loopOf Tryz.f28 9) :=
 loopSound_by mixed ref05_Checkc_ok (AllP.of (l' := [loopOf Tryz.f28 12]) (by kernel_rfl) ⟨ref05_Checks12, trivial⟩) (q := 9) (kin := [1, 4]) (kout := [1, 2]) (by kernel_rfl) (by kernel_rfl) fun vs objs K r h => by
  replace h : ref05_Checkp9 vs objs K = some r := h
  unfold ref05_Checkp9 at h
  split at h
  ·skip
   obtain ⟨t, h1, h2⟩ := ob_ok h
   rw [← ref05_Checkl9_eq] at h1
   refine ⟨_, ref05_Checkl9d, t, many, h1, fun e vs' objs' hd => ?_⟩
   unfold ref05_Checkl9d at hd
   split at hd
   ·skip
    cases hd
    exact h2
   ·skip
    cases hd
    exact h2
   ·cases hd
  ·cases h
noncomputable def ref05_Checkd : V → List Obj → Option (Int) := fun v objs => match v, objs with
 | .s (.i .i64 y0), [] => some (y0)
 | _, _ => none
theorem ref05_Check_eq (x0 x1 : List Int) (x2 : Int) : fnE ref05_Checkc Tryz.f28 ([.agg [.arr .i8 81 x0, .arr .i8 16 x1, .one [.i .i8 x2]]]) ([]) ref05_Checkd = ref05_Check x0 x1 x2 := by kernel_rfl
noncomputable def ref05_Checka {R : Type} (o : Orc) (vs : List V) (objs : List Obj) (K : Bool → V → List Obj → Option R) : Option R := match vs, objs with
 | [.agg [.arr .i8 81 x0, .arr .i8 16 x1, .one [.i .i8 x2]]], [] => ob (ref05_Check x0 x1 x2) fun y0 => K false (.s (.i .i64 y0)) ([])
 | _, _ => o 28 vs objs K
noncomputable def ref05_Checko (o : Orc) : Orc := hook 28 (ref05_Checka o) o
theorem ref05_Checko_ok (o : Orc) (ho : OSound Tryz.prog o) : OSound Tryz.prog (ref05_Checko o) := hook_ok ho fun vs objs K r h => by
 unfold ref05_Checka at h
 split at h
 ·skip
  obtain ⟨t, h1, h2⟩ := ob_ok h
  refine anyOK_of mixed ref05_Checkc_ok (fn := Tryz.f28) (b := (Tryz.f28).body.getD .skip) (by kernel_rfl) (by kernel_rfl) (by kernel_rfl) ((ref05_Check_eq _ _ _).trans h1) (m := 0) rfl (AllP.of (l' := [loopOf Tryz.f28 4, loopOf Tryz.f28 9, loopOf Tryz.f28 20, loopOf Tryz.f28 25, loopOf Tryz.f28 30]) (by kernel_rfl) ⟨ref05_Checks4, ref05_Checks9, ref05_Checks20, ref05_Checks25, ref05_Checks30, trivial⟩) fun v objs' hd => ?_
  unfold ref05_Checkd at hd
  split at hd
  ·skip
   cases hd
   exact h2
  ·cases hd
 ·exact ho _ _ _ _ _ h
noncomputable def ref05_Takenl3d : Ex → List V → List Obj → Option (List Bool × List Bool) := fun e vs objs => match e, vs, objs with
 | .exit 0, [.s (.ptr 0 0 none 0), .s (.ptr 1 0 none 0)], [.cells 70 [Seg.barr 81 y0], .cells 70 [Seg.barr 81 y1]] => some (y0, y1)
 | _, _, _ => none
noncomputable def ref05_Takenp3 {R : Type} (vs : List V) (objs : List Obj) (K : Ex → List V → List Obj → Option R) : Option R := match vs, objs with
 | [.s (.ptr 0 0 none 0), .s (.ptr 1 0 none 0), .s (.ptr 2 0 none 0), .s (.i .i64 x0)], [.cells 28 [.arr .i8 81 x1, .arr .i8 16 x2, .one [.i .i8 x3]], .cells 70 [Seg.barr 81 x4], .cells 70 [Seg.barr 81 x5]] => ob (ref05_Takenl3 many x0 x1 x2 x3 x4 x5) fun z => K (.exit 0) ([.s (.ptr 0 0 none 0), .s (.ptr 1 0 none 0)]) ([.cells 70 [Seg.barr 81 (z.1)], .cells 70 [Seg.barr 81 (z.2)]])
 | _, _ => none
noncomputable def ref05_Takenlp : {R : Type} → Nat → List V → List Obj → (Ex → List V → List Obj → Option R) → Option R := fun q vs objs K => bif Nat.beq q 3 then ref05_Takenp3 vs objs K else none
noncomputable def ref05_Takenc : Ctx := mkC 18 (oNil) [(3, [1, 2, 3, 4], [2, 3])] ref05_Takenlp
theorem ref05_Takenc_ok : CtxOK Tryz.prog ref05_Takenc := mkC_ok (oNil_ok)
noncomputable def ref05_Takenl3r (f : Nat) (x0 : Int) (x1 x2 : List Int) (x3 : Int) (x4 x5 : List Bool) : Option (List Bool × List Bool) := lrun ref05_Takenc 0 [1, 2, 3, 4] [2, 3] (loopOf Tryz.f36 3) f ([.s (.ptr 0 0 none 0), .s (.ptr 1 0 none 0), .s (.ptr 2 0 none 0), .s (.i .i64 x0)]) ([.cells 28 [.arr .i8 81 x1, .arr .i8 16 x2, .one [.i .i8 x3]], .cells 70 [Seg.barr 81 x4], .cells 70 [Seg.barr 81 x5]]) ref05_Takenl3d
theorem ref05_Takenl3_step (f : Nat) (x0 : Int) (x1 x2 : List Int) (x3 : Int) (x4 x5 : List Bool) : ref05_Takenl3r (f + 1) x0 x1 x2 x3 x4 x5 = ref05_Takenl3s (ref05_Takenl3r f) x0 x1 x2 x3 x4 x5 := by kernel_rfl
theorem ref05_Takenl3_eq : ∀ f, ref05_Takenl3r f = ref05_Takenl3 f
 | 0 => rfl
 | f + 1 => by funext x0 x1 x2 x3 x4 x5; rw [ref05_Takenl3_step, ref05_Takenl3_eq f]; rfl
theorem ref05_Takens3 : LoopSound Tryz.prog ref05_Takenc 0 (loopOf Tryz.f36 3) :=
 loopSound_by mixed ref05_Takenc_ok (AllP.of (l' := []) (by kernel_rfl) trivial) (q := 3) (kin := [1, 2, 3, 4]) (kout := [2, 3]) (by kernel_rfl) (by kernel_rfl) fun vs objs K r h => by
  replace h : ref05_Takenp3 vs objs K = some r := h
  unfold ref05_Takenp3 at h
  split at h
  ·skip
   obtain ⟨t, h1, h2⟩ := ob_ok h
   rw [← ref05_Takenl3_eq] at h1
   refine ⟨_, ref05_Takenl3d, t, many, h1, fun e vs' objs' hd => ?_⟩
   unfold ref05_Takenl3d at hd
   split at hd
   ·skip
    cases hd
    exact h2
   ·cases hd
  ·cases h
noncomputable def ref05_Takend : V → List Obj → Option (List Bool) := fun v objs => match v, objs with
 | .agg [Seg.barr 81 y0], [] => some (y0)
 | _, _ => none
theorem ref05_Taken_eq (x0 x1 : List Int) (x2 : Int) : fnE ref05_Takenc Tryz.f36 ([.agg [.arr .i8 81 x0, .arr .i8 16 x1, .one [.i .i8 x2]]]) ([]) ref05_Takend = ref05_Taken x0 x1 x2 := by kernel_rfl
noncomputable def ref05_Takena {R : Type} (o : Orc) (vs : List V) (objs : List Obj) (K : Bool → V → List Obj → Option R) : Option R := match vs, objs with
 | [.agg [.arr .i8 81 x0, .arr .i8 16 x1, .one [.i .i8 x2]]], [] => ob (ref05_Taken x0 x1 x2) fun y0 => K false (.agg [Seg.barr 81 y0]) ([])
 | _, _ => o 36 vs objs K
noncomputable def ref05_Takeno (o : Orc) : Orc := hook 36 (ref05_Takena o) o
theorem ref05_Takeno_ok (o : Orc) (ho : OSound Tryz.prog o) : OSound Tryz.prog (ref05_Takeno o) := hook_ok ho fun vs objs K r h => by
 unfold ref05_Takena at h
 split at h
 ·skip
  obtain ⟨t, h1, h2⟩ := ob_ok h
  refine anyOK_of mixed ref05_Takenc_ok (fn := Tryz.f36) (b := (Tryz.f36).body.getD .skip) (by kernel_rfl) (by kernel_rfl) (by kernel_rfl) ((ref05_Taken_eq _ _ _).trans h1) (m := 0) rfl (AllP.of (l' := [loopOf Tryz.f36 3]) (by kernel_rfl) ⟨ref05_Takens3, trivial⟩) fun v objs' hd => ?_
  unfold ref05_Takend at hd
  split at hd
  ·skip
   cases hd
   exact h2
  ·cases hd
 ·exact ho _ _ _ _ _ h
noncomputable def ref08_Kingl2d : Ex → List V → List Obj → Option ((Int) ⊕ (Unit)) := fun e vs objs => match e, vs, objs with
 | .ret, [.s (.i .i64 y0)], [] => some (.inl (y0))
 | .exit 0, [.s .bad], [] => some (.inr ())
 | _, _, _ => none
noncomputable def ref08_Kingp2 {R : Type} (vs : List V) (objs : List Obj) (K : Ex → List V → List Obj → Option R) : Option R := match vs, objs with
 | [.s (.i .i64 x0), .s (.ptr 0 0 none 0), .s (.i .i64 x1)], [.cells 28 [.arr .i8 81 x2, .arr .i8 16 x3, .one [.i .i8 x4]]] => ob (ref08_Kingl2 many x0 x1 x2 x3 x4) fun t0 => sw t0 (fun y0 => K (.ret) ([.s (.i .i64 y0)]) ([])) (fun _ => K (.exit 0) ([.s .bad]) ([]))
 | _, _ => none
noncomputable def ref08_Kinglp : {R : Type} → Nat → List V → List Obj → (Ex → List V → List Obj → Option R) → Option R := fun q vs objs K => bif Nat.beq q 2 then ref08_Kingp2 vs objs K else none
noncomputable def ref08_Kingc : Ctx := mkC 20 (oNil) [(2, [1, 2, 5], [4])] ref08_Kinglp
theorem ref08_Kingc_ok : CtxOK Tryz.prog ref08_Kingc := mkC_ok (oNil_ok)
noncomputable def ref08_Kingl2r (f : Nat) (x0 x1 : Int) (x2 x3 : List Int) (x4 : Int) : Option ((Int) ⊕ (Unit)) := lrun ref08_Kingc 0 [1, 2, 5] [4] (loopOf Tryz.f37 2) f ([.s (.i .i64 x0), .s (.ptr 0 0 none 0), .s (.i .i64 x1)]) ([.cells 28 [.arr .i8 81 x2, .arr .i8 16 x3, .one [.i .i8 x4]]]) ref08_Kingl2d
theorem ref08_Kingl2_step (f : Nat) (x0 x1 : Int) (x2 x3 : List Int) (x4 : Int) : ref08_Kingl2r (f + 1) x0 x1 x2 x3 x4 = ref08_Kingl2s (ref08_Kingl2r f) x0 x1 x2 x3 x4 := by kernel_rfl
theorem ref08_Kingl2_eq : ∀ f, ref08_Kingl2r f = ref08_Kingl2 f
 | 0 => rfl
 | f + 1 => by funext x0 x1 x2 x3 x4; rw [ref08_Kingl2_step, ref08_Kingl2_eq f]; rfl
theorem ref08_Kings2 : LoopSound Tryz.prog ref08_Kingc 0 (loopOf Tryz.f37 2) :=
 loopSound_by mixed ref08_Kingc_ok (AllP.of (l' := []) (by kernel_rfl) trivial) (q := 2) (kin := [1, 2, 5]) (kout := [4]) (by kernel_rfl) (by kernel_rfl) fun vs objs K r h => by
  replace h : ref08_Kingp2 vs objs K = some r := h
  unfold ref08_Kingp2 at h
  split at h
  ·skip
   obtain ⟨t, h1, h2⟩ := ob_ok h
   rw [← ref08_Kingl2_eq] at h1
   refine ⟨_, ref08_Kingl2d, t, many, h1, fun e vs' objs' hd => ?_⟩
   unfold ref08_Kingl2d at hd
   split at hd
   ·skip
    cases hd
    exact h2
   ·skip
    cases hd
    exact h2
   ·cases hd
  ·cases h
noncomputable def ref08_Kingd : V → List Obj → Option (Int) := fun v objs => match v, objs with
 | .s (.i .i64 y0), [] => some (y0)
 | _, _ => none
theorem ref08_King_eq (x0 x1 : List Int) (x2 x3 : Int) : fnE ref08_Kingc Tryz.f37 ([.agg [.arr .i8 81 x0, .arr .i8 16 x1, .one [.i .i8 x2]], .s (.i .i64 x3)]) ([]) ref08_Kingd = ref08_King x0 x1 x2 x3 := by kernel_rfl
noncomputable def ref08_Kinga {R : Type} (o : Orc) (vs : List V) (objs : List Obj) (K : Bool → V → List Obj → Option R) : Option R := match vs, objs with
 | [.agg [.arr .i8 81 x0, .arr .i8 16 x1, .one [.i .i8 x2]], .s (.i .i64 x3)], [] => ob (ref08_King x0 x1 x2 x3) fun y0 => K false (.s (.i .i64 y0)) ([])
 | _, _ => o 37 vs objs K
noncomputable def ref08_Kingo (o : Orc) : Orc := hook 37 (ref08_Kinga o) o
theorem ref08_Kingo_ok (o : Orc) (ho : OSound Tryz.prog o) : OSound Tryz.prog (ref08_Kingo o) := hook_ok ho fun vs objs K r h => by
 unfold ref08_Kinga at h
 split at h
 ·skip
  obtain ⟨t, h1, h2⟩ := ob_ok h
  refine anyOK_of mixed ref08_Kingc_ok (fn := Tryz.f37) (b := (Tryz.f37).body.getD .skip) (by kernel_rfl) (by kernel_rfl) (by kernel_rfl) ((ref08_King_eq _ _ _ _).trans h1) (m := 0) rfl (AllP.of (l' := [loopOf Tryz.f37 2]) (by kernel_rfl) ⟨ref08_Kings2, trivial⟩) fun v objs' hd => ?_
  unfold ref08_Kingd at hd
  split at hd
  ·skip
   cases hd
   exact h2
  ·cases hd
 ·exact ho _ _ _ _ _ h
noncomputable def ref03_sizec : Ctx := mkC 8 (oNil) [] lpNil
theorem ref03_sizec_ok : CtxOK Tryz.prog ref03_sizec := mkC_ok (oNil_ok)
noncomputable def ref03_sized : V → List Obj → Option (Int) := fun v objs => match v, objs with
 | .s (.i .i64 y0), [] => some (y0)
 | _, _ => none
theorem ref03_size_eq (x0 : Int) : fnE ref03_sizec Tryz.f108 ([.s (.i .i64 x0)]) ([]) ref03_sized = ref03_size x0 := by kernel_rfl
noncomputable def ref03_sizea {R : Type} (o : Orc) (vs : List V) (objs : List Obj) (K : Bool → V → List Obj → Option R) : Option R := match vs, objs with
 | [.s (.i .i64 x0)], [] => ob (ref03_size x0) fun y0 => K false (.s (.i .i64 y0)) ([])
 | _, _ => o 108 vs objs K
noncomputable def ref03_sizeo (o : Orc) : Orc := hook 108 (ref03_sizea o) o
theorem ref03_sizeo_ok (o : Orc) (ho : OSound Tryz.prog o) : OSound Tryz.prog (ref03_sizeo o) := hook_ok ho fun vs objs K r h => by
 unfold ref03_sizea at h
 split at h
 ·skip
  obtain ⟨t, h1, h2⟩ := ob_ok h
  refine anyOK_of mixed ref03_sizec_ok (fn := Tryz.f108) (b := (Tryz.f108).body.getD .skip) (by kernel_rfl) (by kernel_rfl) (by kernel_rfl) ((ref03_size_eq _).trans h1) (m := 0) rfl (AllP.of (l' := []) (by kernel_rfl) trivial) fun v objs' hd => ?_
  unfold ref03_sized at hd
  split at hd
  ·skip
   cases hd
   exact h2
  ·cases hd
 ·exact ho _ _ _ _ _ h
noncomputable def ref03_Stepc : Ctx := mkC 125 ((ref02_Kindo (ref02_Sideo (ref03_sizeo oNil)))) [] lpNil
theorem ref03_Stepc_ok : CtxOK Tryz.prog ref03_Stepc := mkC_ok ((ref02_Kindo_ok _ (ref02_Sideo_ok _ (ref03_sizeo_ok _ oNil_ok))))
noncomputable def ref03_Stepd : V → List Obj → Option (Bool) := fun v objs => match v, objs with
 | .s (.b y0), [] => some (y0)
 | _, _ => none
theorem ref03_Step_eq (x0 x1 x2 : Int) : fnE ref03_Stepc Tryz.f75 ([.s (.i .i64 x0), .s (.i .i64 x1), .s (.i .i64 x2)]) ([]) ref03_Stepd = ref03_Step x0 x1 x2 := by kernel_rfl
noncomputable def ref03_Stepa {R : Type} (o : Orc) (vs : List V) (objs : List Obj) (K : Bool → V → List Obj → Option R) : Option R := match vs, objs with
 | [.s (.i .i64 x0), .s (.i .i64 x1), .s (.i .i64 x2)], [] => ob (ref03_Step x0 x1 x2) fun y0 => K false (.s (.b y0)) ([])
 | _, _ => o 75 vs objs K
noncomputable def ref03_Stepo (o : Orc) : Orc := hook 75 (ref03_Stepa o) o
theorem ref03_Stepo_ok (o : Orc) (ho : OSound Tryz.prog o) : OSound Tryz.prog (ref03_Stepo o) := hook_ok ho fun vs objs K r h => by
 unfold ref03_Stepa at h
 split at h
 ·skip
  obtain ⟨t, h1, h2⟩ := ob_ok h
  refine anyOK_of mixed ref03_Stepc_ok (fn := Tryz.f75) (b := (Tryz.f75).body.getD .skip) (by kernel_rfl) (by kernel_rfl) (by kernel_rfl) ((ref03_Step_eq _ _ _).trans h1) (m := 0) rfl (AllP.of (l' := []) (by kernel_rfl) trivial) fun v objs' hd => ?_
  unfold ref03_Stepd at hd
  split at hd
  ·skip
   cases hd
   exact h2
  ·cases hd
 ·exact ho _ _ _ _ _ h
noncomputable def ref04_Linec : Ctx := mkC 51 (oNil) [] lpNil
theorem ref04_Linec_ok : CtxOK Tryz.prog ref04_Linec := mkC_ok (oNil_ok)
noncomputable def ref04_Lined : V → List Obj → Option (Int) := fun v objs => match v, objs with
 | .s (.i .i64 y0), [] => some (y0)
 | _, _ => none
theorem ref04_Line_eq (x0 x1 : Int) : fnE ref04_Linec Tryz.f76 ([.s (.i .i64 x0), .s (.i .i64 x1)]) ([]) ref04_Lined = ref04_Line x0 x1 := by kernel_rfl
noncomputable def ref04_Linea {R : Type} (o : Orc) (vs : List V) (objs : List Obj) (K : Bool → V → List Obj → Option R) : Option R := match vs, objs with
 | [.s (.i .i64 x0), .s (.i .i64 x1)], [] => ob (ref04_Line x0 x1) fun y0 => K false (.s (.i .i64 y0)) ([])
 | _, _ => o 76 vs objs K
noncomputable def ref04_Lineo (o : Orc) : Orc := hook 76 (ref04_Linea o) o
theorem ref04_Lineo_ok (o : Orc) (ho : OSound Tryz.prog o) : OSound Tryz.prog (ref04_Lineo o) := hook_ok ho fun vs objs K r h => by
 unfold ref04_Linea at h
 split at h
 ·skip
  obtain ⟨t, h1, h2⟩ := ob_ok h
  refine anyOK_of mixed ref04_Linec_ok (fn := Tryz.f76) (b := (Tryz.f76).body.getD .skip) (by kernel_rfl) (by kernel_rfl) (by kernel_rfl) ((ref04_Line_eq _ _).trans h1) (m := 0) rfl (AllP.of (l' := []) (by kernel_rfl) trivial) fun v objs' hd => ?_
  unfold ref04_Lined at hd
  split at hd
  ·skip
   cases hd
   exact h2
  ·cases hd
 ·exact ho _ _ _ _ _ h
noncomputable def ref04_signc : Ctx := mkC 7 (oNil) [] lpNil
theorem ref04_signc_ok : CtxOK Tryz.prog ref04_signc := mkC_ok (oNil_ok)
noncomputable def ref04_signd : V → List Obj → Option (Int) := fun v objs => match v, objs with
 | .s (.i .i64 y0), [] => some (y0)
 | _, _ => none
theorem ref04_sign_eq (x0 : Int) : fnE ref04_signc Tryz.f125 ([.s (.i .i64 x0)]) ([]) ref04_signd = ref04_sign x0 := by kernel_rfl
noncomputable def ref04_signa {R : Type} (o : Orc) (vs : List V) (objs : List Obj) (K : Bool → V → List Obj → Option R) : Option R := match vs, objs with
 | [.s (.i .i64 x0)], [] => ob (ref04_sign x0) fun y0 => K false (.s (.i .i64 y0)) ([])
 | _, _ => o 125 vs objs K
noncomputable def ref04_signo (o : Orc) : Orc := hook 125 (ref04_signa o) o
theorem ref04_signo_ok (o : Orc) (ho : OSound Tryz.prog o) : OSound Tryz.prog (ref04_signo o) := hook_ok ho fun vs objs K r h => by
 unfold ref04_signa at h
 split at h
 ·skip
  obtain ⟨t, h1, h2⟩ := ob_ok h
  refine anyOK_of mixed ref04_signc_ok (fn := Tryz.f125) (b := (Tryz.f125).body.getD .skip) (by kernel_rfl) (by kernel_rfl) (by kernel_rfl) ((ref04_sign_eq _).trans h1) (m := 0) rfl (AllP.of (l' := []) (by kernel_rfl) trivial) fun v objs' hd => ?_
  unfold ref04_signd at hd
  split at hd
  ·skip
   cases hd
   exact h2
  ·cases hd
 ·exact ho _ _ _ _ _ h
noncomputable def ref04_Betweenl6d : Ex → List V → List Obj → Option (Nat × Nat × List Int) := fun e vs objs => match e, vs, objs with
 | .exit 0, [.s (.sl 0 0 y0 true)], [.sli 3 false (.arr .i64 y1 y2)] => some (y0, y1, y2)
 | _, _, _ => none
noncomputable def ref04_Betweenp6 {R : Type} (vs : List V) (objs : List Obj) (K : Ex → List V → List Obj → Option R) : Option R := match vs, objs with
 | [.s (.i .i64 x0), .s (.sl 0 0 x1 true), .s (.i .i64 x2), .s (.i .i64 x3)], [.sli 3 false (.arr .i64 x4 x5)] => ob (ref04_Betweenl6 many x0 x1 x2 x3 x4 x5) fun z => K (.exit 0) ([.s (.sl 0 0 (z.1) true)]) ([.sli 3 false (.arr .i64 (z.2.1) (z.2.2))])
 | _, _ => none
noncomputable def ref04_Betweenlp : {R : Type} → Nat → List V → List Obj → (Ex → List V → List Obj → Option R) → Option R := fun q vs objs K => bif Nat.beq q 6 then ref04_Betweenp6 vs objs K else none
noncomputable def ref04_Betweenc : Ctx := mkC 41 ((ref04_signo (ref04_Lineo oNil))) [(6, [1, 5, 6, 7], [5])] ref04_Betweenlp
theorem ref04_Betweenc_ok : CtxOK Tryz.prog ref04_Betweenc := mkC_ok ((ref04_signo_ok _ (ref04_Lineo_ok _ oNil_ok)))
noncomputable def ref04_Betweenl6r (f : Nat) (x0 : Int) (x1 : Nat) (x2 x3 : Int) (x4 : Nat) (x5 : List Int) : Option (Nat × Nat × List Int) := lrun ref04_Betweenc 0 [1, 5, 6, 7] [5] (loopOf Tryz.f109 6) f ([.s (.i .i64 x0), .s (.sl 0 0 x1 true), .s (.i .i64 x2), .s (.i .i64 x3)]) ([.sli 3 false (.arr .i64 x4 x5)]) ref04_Betweenl6d
theorem ref04_Betweenl6_step (f : Nat) (x0 : Int) (x1 : Nat) (x2 x3 : Int) (x4 : Nat) (x5 : List Int) : ref04_Betweenl6r (f + 1) x0 x1 x2 x3 x4 x5 = ref04_Betweenl6s (ref04_Betweenl6r f) x0 x1 x2 x3 x4 x5 := by kernel_rfl
theorem ref04_Betweenl6_eq : ∀ f, ref04_Betweenl6r f = ref04_Betweenl6 f
 | 0 => rfl
 | f + 1 => by funext x0 x1 x2 x3 x4 x5; rw [ref04_Betweenl6_step, ref04_Betweenl6_eq f]; rfl
theorem ref04_Betweens6 : LoopSound Tryz.prog ref04_Betweenc 0 (loopOf Tryz.f109 6) :=
 loopSound_by mixed ref04_Betweenc_ok (AllP.of (l' := []) (by kernel_rfl) trivial) (q := 6) (kin := [1, 5, 6, 7]) (kout := [5]) (by kernel_rfl) (by kernel_rfl) fun vs objs K r h => by
  replace h : ref04_Betweenp6 vs objs K = some r := h
  unfold ref04_Betweenp6 at h
  split at h
  ·skip
   obtain ⟨t, h1, h2⟩ := ob_ok h
   rw [← ref04_Betweenl6_eq] at h1
   refine ⟨_, ref04_Betweenl6d, t, many, h1, fun e vs' objs' hd => ?_⟩
   unfold ref04_Betweenl6d at hd
   split at hd
   ·skip
    cases hd
    exact h2
   ·cases hd
  ·cases h
noncomputable def ref04_Betweend : V → List Obj → Option (Nat × Nat × List Int) := fun v objs => match v, objs with
 | .s (.sl 0 0 y0 true), [.sli 3 false (.arr .i64 y1 y2)] => some (y0, y1, y2)
 | _, _ => none
theorem ref04_Between_eq (x0 x1 : Int) : fnE ref04_Betweenc Tryz.f109 ([.s (.i .i64 x0), .s (.i .i64 x1)]) ([]) ref04_Betweend = ref04_Between x0 x1 := by kernel_rfl
noncomputable def ref04_Betweena {R : Type} (o : Orc) (vs : List V) (objs : List Obj) (K : Bool → V → List Obj → Option R) : Option R := match vs, objs with
 | [.s (.i .i64 x0), .s (.i .i64 x1)], [] => ob (ref04_Between x0 x1) fun z => K false (.s (.sl 0 0 (z.1) true)) ([.sli 3 false (.arr .i64 (z.2.1) (z.2.2))])
 | _, _ => o 109 vs objs K
noncomputable def ref04_Betweeno (o : Orc) : Orc := hook 109 (ref04_Betweena o) o
theorem ref04_Betweeno_ok (o : Orc) (ho : OSound Tryz.prog o) : OSound Tryz.prog (ref04_Betweeno o) := hook_ok ho fun vs objs K r h => by
 unfold ref04_Betweena at h
 split at h
 ·skip
  obtain ⟨t, h1, h2⟩ := ob_ok h
  refine anyOK_of mixed ref04_Betweenc_ok (fn := Tryz.f109) (b := (Tryz.f109).body.getD .skip) (by kernel_rfl) (by kernel_rfl) (by kernel_rfl) ((ref04_Between_eq _ _).trans h1) (m := 0) rfl (AllP.of (l' := [loopOf Tryz.f109 6]) (by kernel_rfl) ⟨ref04_Betweens6, trivial⟩) fun v objs' hd => ?_
  unfold ref04_Betweend at hd
  split at hd
  ·skip
   cases hd
   exact h2
  ·cases hd
 ·exact ho _ _ _ _ _ h
noncomputable def ref04_Freel3d : Ex → List V → List Obj → Option ((Bool) ⊕ (Unit)) := fun e vs objs => match e, vs, objs with
 | .ret, [.s (.b y0)], [] => some (.inl (y0))
 | .exit 0, [.s .bad], [] => some (.inr ())
 | _, _, _ => none
noncomputable def ref04_Freep3 {R : Type} (vs : List V) (objs : List Obj) (K : Ex → List V → List Obj → Option R) : Option R := match vs, objs with
 | [.s (.ptr 0 0 none 0), .s (.sl 1 0 x0 true), .s (.i .i64 x1)], [.cells 70 [Seg.barr 81 x2], .sli 3 false (.arr .i64 x3 x4)] => ob (ref04_Freel3 many x0 x1 x2 x3 x4) fun t0 => sw t0 (fun y0 => K (.ret) ([.s (.b y0)]) ([])) (fun _ => K (.exit 0) ([.s .bad]) ([]))
 | _, _ => none
noncomputable def ref04_Freelp : {R : Type} → Nat → List V → List Obj → (Ex → List V → List Obj → Option R) → Option R := fun q vs objs K => bif Nat.beq q 3 then ref04_Freep3 vs objs K else none
noncomputable def ref04_Freec : Ctx := mkC 24 ((ref04_Betweeno oNil)) [(3, [5, 7, 8], [6])] ref04_Freelp
theorem ref04_Freec_ok : CtxOK Tryz.prog ref04_Freec := mkC_ok ((ref04_Betweeno_ok _ oNil_ok))
noncomputable def ref04_Freel3r (f : Nat) (x0 : Nat) (x1 : Int) (x2 : List Bool) (x3 : Nat) (x4 : List Int) : Option ((Bool) ⊕ (Unit)) := lrun ref04_Freec 0 [5, 7, 8] [6] (loopOf Tryz.f77 3) f ([.s (.ptr 0 0 none 0), .s (.sl 1 0 x0 true), .s (.i .i64 x1)]) ([.cells 70 [Seg.barr 81 x2], .sli 3 false (.arr .i64 x3 x4)]) ref04_Freel3d
theorem ref04_Freel3_step (f : Nat) (x0 : Nat) (x1 : Int) (x2 : List Bool) (x3 : Nat) (x4 : List Int) : ref04_Freel3r (f + 1) x0 x1 x2 x3 x4 = ref04_Freel3s (ref04_Freel3r f) x0 x1 x2 x3 x4 := by kernel_rfl
theorem ref04_Freel3_eq : ∀ f, ref04_Freel3r f = ref04_Freel3 f
 | 0 => rfl
 | f + 1 => by funext x0 x1 x2 x3 x4; rw [ref04_Freel3_step, ref04_Freel3_eq f]; rfl
theorem ref04_Frees3 : LoopSound Tryz.prog ref04_Freec 0 (loopOf Tryz.f77 3) :=
 loopSound_by mixed ref04_Freec_ok (AllP.of (l' := []) (by kernel_rfl) trivial) (q := 3) (kin := [5, 7, 8]) (kout := [6]) (by kernel_rfl) (by kernel_rfl) fun vs objs K r h => by
  replace h : ref04_Freep3 vs objs K = some r := h
  unfold ref04_Freep3 at h
  split at h
  ·skip
   obtain ⟨t, h1, h2⟩ := ob_ok h
   rw [← ref04_Freel3_eq] at h1
   refine ⟨_, ref04_Freel3d, t, many, h1, fun e vs' objs' hd => ?_⟩
   unfold ref04_Freel3d at hd
   split at hd
   ·skip
    cases hd
    exact h2
   ·skip
    cases hd
    exact h2
   ·cases hd
  ·cases h
noncomputable def ref04_Freed : V → List Obj → Option (Bool) := fun v objs => match v, objs with
 | .s (.b y0), [] => some (y0)
 | _, _ => none
theorem ref04_Free_eq (x0 x1 : Int) (x2 : List Bool) : fnE ref04_Freec Tryz.f77 ([.s (.i .i64 x0), .s (.i .i64 x1), .agg [Seg.barr 81 x2]]) ([]) ref04_Freed = ref04_Free x0 x1 x2 := by kernel_rfl
noncomputable def ref04_Freea {R : Type} (o : Orc) (vs : List V) (objs : List Obj) (K : Bool → V → List Obj → Option R) : Option R := match vs, objs with
 | [.s (.i .i64 x0), .s (.i .i64 x1), .agg [Seg.barr 81 x2]], [] => ob (ref04_Free x0 x1 x2) fun y0 => K false (.s (.b y0)) ([])
 | _, _ => o 77 vs objs K
noncomputable def ref04_Freeo (o : Orc) : Orc := hook 77 (ref04_Freea o) o
theorem ref04_Freeo_ok (o : Orc) (ho : OSound Tryz.prog o) : OSound Tryz.prog (ref04_Freeo o) := hook_ok ho fun vs objs K r h => by
 unfold ref04_Freea at h
 split at h
 ·skip
  obtain ⟨t, h1, h2⟩ := ob_ok h
  refine anyOK_of mixed ref04_Freec_ok (fn := Tryz.f77) (b := (Tryz.f77).body.getD .skip) (by kernel_rfl) (by kernel_rfl) (by kernel_rfl) ((ref04_Free_eq _ _ _).trans h1) (m := 0) rfl (AllP.of (l' := [loopOf Tryz.f77 3]) (by kernel_rfl) ⟨ref04_Frees3, trivial⟩) fun v objs' hd => ?_
  unfold ref04_Freed at hd
  split at hd
  ·skip
   cases hd
   exact h2
  ·cases hd
 ·exact ho _ _ _ _ _ h
noncomputable def ref04_Reachesc : Ctx := mkC 63 ((ref04_Freeo (ref02_Kindo (ref02_Sideo (ref04_Lineo (ref03_Stepo oNil)))))) [] lpNil
theorem ref04_Reachesc_ok : CtxOK Tryz.prog ref04_Reachesc := mkC_ok ((ref04_Freeo_ok _ (ref02_Kindo_ok _ (ref02_Sideo_ok _ (ref04_Lineo_ok _ (ref03_Stepo_ok _ oNil_ok))))))
noncomputable def ref04_Reachesd : V → List Obj → Option (Bool) := fun v objs => match v, objs with
 | .s (.b y0), [] => some (y0)
 | _, _ => none
theorem ref04_Reaches_eq (x0 x1 x2 : Int) (x3 : List Bool) : fnE ref04_Reachesc Tryz.f39 ([.s (.i .i64 x0), .s (.i .i64 x1), .s (.i .i64 x2), .agg [Seg.barr 81 x3]]) ([]) ref04_Reachesd = ref04_Reaches x0 x1 x2 x3 := by kernel_rfl
noncomputable def ref04_Reachesa {R : Type} (o : Orc) (vs : List V) (objs : List Obj) (K : Bool → V → List Obj → Option R) : Option R := match vs, objs with
 | [.s (.i .i64 x0), .s (.i .i64 x1), .s (.i .i64 x2), .agg [Seg.barr 81 x3]], [] => ob (ref04_Reaches x0 x1 x2 x3) fun y0 => K false (.s (.b y0)) ([])
 | _, _ => o 39 vs objs K
noncomputable def ref04_Reacheso (o : Orc) : Orc := hook 39 (ref04_Reachesa o) o
theorem ref04_Reacheso_ok (o : Orc) (ho : OSound Tryz.prog o) : OSound Tryz.prog (ref04_Reacheso o) := hook_ok ho fun vs objs K r h => by
 unfold ref04_Reachesa at h
 split at h
 ·skip
  obtain ⟨t, h1, h2⟩ := ob_ok h
  refine anyOK_of mixed ref04_Reachesc_ok (fn := Tryz.f39) (b := (Tryz.f39).body.getD .skip) (by kernel_rfl) (by kernel_rfl) (by kernel_rfl) ((ref04_Reaches_eq _ _ _ _).trans h1) (m := 0) rfl (AllP.of (l' := []) (by kernel_rfl) trivial) fun v objs' hd => ?_
  unfold ref04_Reachesd at hd
  split at hd
  ·skip
   cases hd
   exact h2
  ·cases hd
 ·exact ho _ _ _ _ _ h
noncomputable def ref08_InCheckl6d : Ex → List V → List Obj → Option ((Bool) ⊕ (Unit)) := fun e vs objs => match e, vs, objs with
 | .ret, [.s (.b y0)], [] => some (.inl (y0))
 | .exit 0, [.s .bad], [] => some (.inr ())
 | _, _, _ => none
noncomputable def ref08_InCheckp6 {R : Type} (vs : List V) (objs : List Obj) (K : Ex → List V → List Obj → Option R) : Option R := match vs, objs with
 | [.s (.i .i64 x0), .s (.ptr 0 0 none 0), .s (.ptr 1 0 none 0), .s (.i .i64 x1), .s (.i .i64 x2)], [.cells 28 [.arr .i8 81 x3, .arr .i8 16 x4, .one [.i .i8 x5]], .cells 70 [Seg.barr 81 x6]] => ob (ref08_InCheckl6 many x0 x1 x2 x3 x4 x5 x6) fun t0 => sw t0 (fun y0 => K (.ret) ([.s (.b y0)]) ([])) (fun _ => K (.exit 0) ([.s .bad]) ([]))
 | _, _ => none
noncomputable def ref08_InChecklp : {R : Type} → Nat → List V → List Obj → (Ex → List V → List Obj → Option R) → Option R := fun q vs objs K => bif Nat.beq q 6 then ref08_InCheckp6 vs objs K else none
noncomputable def ref08_InCheckc : Ctx := mkC 39 ((ref04_Reacheso (ref02_Sideo (ref08_Kingo (ref05_Takeno oNil))))) [(6, [1, 2, 5, 6, 7], [4])] ref08_InChecklp
theorem ref08_InCheckc_ok : CtxOK Tryz.prog ref08_InCheckc := mkC_ok ((ref04_Reacheso_ok _ (ref02_Sideo_ok _ (ref08_Kingo_ok _ (ref05_Takeno_ok _ oNil_ok)))))
noncomputable def ref08_InCheckl6r (f : Nat) (x0 x1 x2 : Int) (x3 x4 : List Int) (x5 : Int) (x6 : List Bool) : Option ((Bool) ⊕ (Unit)) := lrun ref08_InCheckc 0 [1, 2, 5, 6, 7] [4] (loopOf Tryz.f24 6) f ([.s (.i .i64 x0), .s (.ptr 0 0 none 0), .s (.ptr 1 0 none 0), .s (.i .i64 x1), .s (.i .i64 x2)]) ([.cells 28 [.arr .i8 81 x3, .arr .i8 16 x4, .one [.i .i8 x5]], .cells 70 [Seg.barr 81 x6]]) ref08_InCheckl6d
theorem ref08_InCheckl6_step (f : Nat) (x0 x1 x2 : Int) (x3 x4 : List Int) (x5 : Int) (x6 : List Bool) : ref08_InCheckl6r (f + 1) x0 x1 x2 x3 x4 x5 x6 = ref08_InCheckl6s (ref08_InCheckl6r f) x0 x1 x2 x3 x4 x5 x6 := by kernel_rfl
theorem ref08_InCheckl6_eq : ∀ f, ref08_InCheckl6r f = ref08_InCheckl6 f
 | 0 => rfl
 | f + 1 => by funext x0 x1 x2 x3 x4 x5 x6; rw [ref08_InCheckl6_step, ref08_InCheckl6_eq f]; rfl
theorem ref08_InChecks6 : LoopSound Tryz.prog ref08_InCheckc 0 (loopOf Tryz.f24 6) :=
 loopSound_by mixed ref08_InCheckc_ok (AllP.of (l' := []) (by kernel_rfl) trivial) (q := 6) (kin := [1, 2, 5, 6, 7]) (kout := [4]) (by kernel_rfl) (by kernel_rfl) fun vs objs K r h => by
  replace h : ref08_InCheckp6 vs objs K = some r := h
  unfold ref08_InCheckp6 at h
  split at h
  ·skip
   obtain ⟨t, h1, h2⟩ := ob_ok h
   rw [← ref08_InCheckl6_eq] at h1
   refine ⟨_, ref08_InCheckl6d, t, many, h1, fun e vs' objs' hd => ?_⟩
   unfold ref08_InCheckl6d at hd
   split at hd
   ·skip
    cases hd
    exact h2
   ·skip
    cases hd
    exact h2
   ·cases hd
  ·cases h
noncomputable def ref08_InCheckd : V → List Obj → Option (Bool) := fun v objs => match v, objs with
 | .s (.b y0), [] => some (y0)
 | _, _ => none
theorem ref08_InCheck_eq (x0 x1 : List Int) (x2 x3 : Int) : fnE ref08_InCheckc Tryz.f24 ([.agg [.arr .i8 81 x0, .arr .i8 16 x1, .one [.i .i8 x2]], .s (.i .i64 x3)]) ([]) ref08_InCheckd = ref08_InCheck x0 x1 x2 x3 := by kernel_rfl
noncomputable def ref08_InChecka {R : Type} (o : Orc) (vs : List V) (objs : List Obj) (K : Bool → V → List Obj → Option R) : Option R := match vs, objs with
 | [.agg [.arr .i8 81 x0, .arr .i8 16 x1, .one [.i .i8 x2]], .s (.i .i64 x3)], [] => ob (ref08_InCheck x0 x1 x2 x3) fun y0 => K false (.s (.b y0)) ([])
 | _, _ => o 24 vs objs K
noncomputable def ref08_InChecko (o : Orc) : Orc := hook 24 (ref08_InChecka o) o
theorem ref08_InChecko_ok (o : Orc) (ho : OSound Tryz.prog o) : OSound Tryz.prog (ref08_InChecko o) := hook_ok ho fun vs objs K r h => by
 unfold ref08_InChecka at h
 split at h
 ·skip
  obtain ⟨t, h1, h2⟩ := ob_ok h
  refine anyOK_of mixed ref08_InCheckc_ok (fn := Tryz.f24) (b := (Tryz.f24).body.getD .skip) (by kernel_rfl) (by kernel_rfl) (by kernel_rfl) ((ref08_InCheck_eq _ _ _ _).trans h1) (m := 0) rfl (AllP.of (l' := [loopOf Tryz.f24 6]) (by kernel_rfl) ⟨ref08_InChecks6, trivial⟩) fun v objs' hd => ?_
  unfold ref08_InCheckd at hd
  split at hd
  ·skip
   cases hd
   exact h2
  ·cases hd
 ·exact ho _ _ _ _ _ h
noncomputable def ref08_Checkc : Ctx := mkC 15 ((ref08_InChecko (ref05_Checko oNil))) [] lpNil
theorem ref08_Checkc_ok : CtxOK Tryz.prog ref08_Checkc := mkC_ok ((ref08_InChecko_ok _ (ref05_Checko_ok _ oNil_ok)))
noncomputable def ref08_Checkd : V → List Obj → Option (Int) := fun v objs => match v, objs with
 | .s (.i .i64 y0), [] => some (y0)
 | _, _ => none
theorem ref08_Check_eq (x0 x1 : List Int) (x2 : Int) : fnE ref08_Checkc Tryz.f8 ([.agg [.arr .i8 81 x0, .arr .i8 16 x1, .one [.i .i8 x2]]]) ([]) ref08_Checkd = ref08_Check x0 x1 x2 := by kernel_rfl
noncomputable def ref08_Checka {R : Type} (o : Orc) (vs : List V) (objs : List Obj) (K : Bool → V → List Obj → Option R) : Option R := match vs, objs with
 | [.agg [.arr .i8 81 x0, .arr .i8 16 x1, .one [.i .i8 x2]]], [] => ob (ref08_Check x0 x1 x2) fun y0 => K false (.s (.i .i64 y0)) ([])
 | _, _ => o 8 vs objs K
noncomputable def ref08_Checko (o : Orc) : Orc := hook 8 (ref08_Checka o) o
theorem ref08_Checko_ok (o : Orc) (ho : OSound Tryz.prog o) : OSound Tryz.prog (ref08_Checko o) := hook_ok ho fun vs objs K r h => by
 unfold ref08_Checka at h
 split at h
 ·skip
  obtain ⟨t, h1, h2⟩ := ob_ok h
  refine anyOK_of mixed ref08_Checkc_ok (fn := Tryz.f8) (b := (Tryz.f8).body.getD .skip) (by kernel_rfl) (by kernel_rfl) (by kernel_rfl) ((ref08_Check_eq _ _ _).trans h1) (m := 0) rfl (AllP.of (l' := []) (by kernel_rfl) trivial) fun v objs' hd => ?_
  unfold ref08_Checkd at hd
  split at hd
  ·skip
   cases hd
   exact h2
  ·cases hd
 ·exact ho _ _ _ _ _ h
noncomputable def ref07_Checkc : Ctx := mkC 44 (oNil) [] lpNil
theorem ref07_Checkc_ok : CtxOK Tryz.prog ref07_Checkc := mkC_ok (oNil_ok)
noncomputable def ref07_Checkd : V → List Obj → Option (Int) := fun v objs => match v, objs with
 | .s (.i .i64 y0), [] => some (y0)
 | _, _ => none
theorem ref07_Check_eq (x0 x1 x2 : Int) (x3 : Bool) : fnE ref07_Checkc Tryz.f129 ([.agg [.one [.i .i64 x0, .i .i64 x1, .i .i64 x2, .b x3]]]) ([]) ref07_Checkd = ref07_Check x0 x1 x2 x3 := by kernel_rfl
noncomputable def ref07_Checka {R : Type} (o : Orc) (vs : List V) (objs : List Obj) (K : Bool → V → List Obj → Option R) : Option R := match vs, objs with
 | [.agg [.one [.i .i64 x0, .i .i64 x1, .i .i64 x2, .b x3]]], [] => ob (ref07_Check x0 x1 x2 x3) fun y0 => K false (.s (.i .i64 y0)) ([])
 | _, _ => o 129 vs objs K
noncomputable def ref07_Checko (o : Orc) : Orc := hook 129 (ref07_Checka o) o
theorem ref07_Checko_ok (o : Orc) (ho : OSound Tryz.prog o) : OSound Tryz.prog (ref07_Checko o) := hook_ok ho fun vs objs K r h => by
 unfold ref07_Checka at h
 split at h
 ·skip
  obtain ⟨t, h1, h2⟩ := ob_ok h
  refine anyOK_of mixed ref07_Checkc_ok (fn := Tryz.f129) (b := (Tryz.f129).body.getD .skip) (by kernel_rfl) (by kernel_rfl) (by kernel_rfl) ((ref07_Check_eq _ _ _ _).trans h1) (m := 0) rfl (AllP.of (l' := []) (by kernel_rfl) trivial) fun v objs' hd => ?_
  unfold ref07_Checkd at hd
  split at hd
  ·skip
   cases hd
   exact h2
  ·cases hd
 ·exact ho _ _ _ _ _ h
noncomputable def ref02_Upc : Ctx := mkC 15 (oNil) [] lpNil
theorem ref02_Upc_ok : CtxOK Tryz.prog ref02_Upc := mkC_ok (oNil_ok)
noncomputable def ref02_Upd : V → List Obj → Option (Int) := fun v objs => match v, objs with
 | .s (.i .i64 y0), [] => some (y0)
 | _, _ => none
theorem ref02_Up_eq (x0 : Int) : fnE ref02_Upc Tryz.f130 ([.s (.i .i64 x0)]) ([]) ref02_Upd = ref02_Up x0 := by kernel_rfl
noncomputable def ref02_Upa {R : Type} (o : Orc) (vs : List V) (objs : List Obj) (K : Bool → V → List Obj → Option R) : Option R := match vs, objs with
 | [.s (.i .i64 x0)], [] => ob (ref02_Up x0) fun y0 => K false (.s (.i .i64 y0)) ([])
 | _, _ => o 130 vs objs K
noncomputable def ref02_Upo (o : Orc) : Orc := hook 130 (ref02_Upa o) o
theorem ref02_Upo_ok (o : Orc) (ho : OSound Tryz.prog o) : OSound Tryz.prog (ref02_Upo o) := hook_ok ho fun vs objs K r h => by
 unfold ref02_Upa at h
 split at h
 ·skip
  obtain ⟨t, h1, h2⟩ := ob_ok h
  refine anyOK_of mixed ref02_Upc_ok (fn := Tryz.f130) (b := (Tryz.f130).body.getD .skip) (by kernel_rfl) (by kernel_rfl) (by kernel_rfl) ((ref02_Up_eq _).trans h1) (m := 0) rfl (AllP.of (l' := []) (by kernel_rfl) trivial) fun v objs' hd => ?_
  unfold ref02_Upd at hd
  split at hd
  ·skip
   cases hd
   exact h2
  ·cases hd
 ·exact ho _ _ _ _ _ h
noncomputable def ref09_Canc : Ctx := mkC 75 ((ref02_Upo (ref02_Kindo (ref02_Sideo (ref07_Checko oNil))))) [] lpNil
theorem ref09_Canc_ok : CtxOK Tryz.prog ref09_Canc := mkC_ok ((ref02_Upo_ok _ (ref02_Kindo_ok _ (ref02_Sideo_ok _ (ref07_Checko_ok _ oNil_ok)))))
noncomputable def ref09_Cand : V → List Obj → Option (Bool) := fun v objs => match v, objs with
 | .s (.b y0), [] => some (y0)
 | _, _ => none
theorem ref09_Can_eq (x0 x1 : List Int) (x2 x3 : Int) (x4 x5 : Int) (x6 : Bool) : fnE ref09_Canc Tryz.f122 ([.agg [.arr .i8 81 x0, .arr .i8 16 x1, .one [.i .i8 x2]], .agg [.one [.i .i64 x3, .i .i64 x4, .i .i64 x5, .b x6]]]) ([]) ref09_Cand = ref09_Can x0 x1 x2 x3 x4 x5 x6 := by kernel_rfl
noncomputable def ref09_Cana {R : Type} (o : Orc) (vs : List V) (objs : List Obj) (K : Bool → V → List Obj → Option R) : Option R := match vs, objs with
 | [.agg [.arr .i8 81 x0, .arr .i8 16 x1, .one [.i .i8 x2]], .agg [.one [.i .i64 x3, .i .i64 x4, .i .i64 x5, .b x6]]], [] => ob (ref09_Can x0 x1 x2 x3 x4 x5 x6) fun y0 => K false (.s (.b y0)) ([])
 | _, _ => o 122 vs objs K
noncomputable def ref09_Cano (o : Orc) : Orc := hook 122 (ref09_Cana o) o
theorem ref09_Cano_ok (o : Orc) (ho : OSound Tryz.prog o) : OSound Tryz.prog (ref09_Cano o) := hook_ok ho fun vs objs K r h => by
 unfold ref09_Cana at h
 split at h
 ·skip
  obtain ⟨t, h1, h2⟩ := ob_ok h
  refine anyOK_of mixed ref09_Canc_ok (fn := Tryz.f122) (b := (Tryz.f122).body.getD .skip) (by kernel_rfl) (by kernel_rfl) (by kernel_rfl) ((ref09_Can_eq _ _ _ _ _ _ _).trans h1) (m := 0) rfl (AllP.of (l' := []) (by kernel_rfl) trivial) fun v objs' hd => ?_
  unfold ref09_Cand at hd
  split at hd
  ·skip
   cases hd
   exact h2
  ·cases hd
 ·exact ho _ _ _ _ _ h
noncomputable def ref10_Mayc : Ctx := mkC 35 ((ref03_Faro (ref02_Sideo (ref02_Upo (ref02_Kindo oNil))))) [] lpNil
theorem ref10_Mayc_ok : CtxOK Tryz.prog ref10_Mayc := mkC_ok ((ref03_Faro_ok _ (ref02_Sideo_ok _ (ref02_Upo_ok _ (ref02_Kindo_ok _ oNil_ok)))))
noncomputable def ref10_Mayd : V → List Obj → Option (Bool) := fun v objs => match v, objs with
 | .s (.b y0), [] => some (y0)
 | _, _ => none
theorem ref10_May_eq (x0 x1 x2 : Int) : fnE ref10_Mayc Tryz.f123 ([.s (.i .i64 x0), .s (.i .i64 x1), .s (.i .i64 x2)]) ([]) ref10_Mayd = ref10_May x0 x1 x2 := by kernel_rfl
noncomputable def ref10_Maya {R : Type} (o : Orc) (vs : List V) (objs : List Obj) (K : Bool → V → List Obj → Option R) : Option R := match vs, objs with
 | [.s (.i .i64 x0), .s (.i .i64 x1), .s (.i .i64 x2)], [] => ob (ref10_May x0 x1 x2) fun y0 => K false (.s (.b y0)) ([])
 | _, _ => o 123 vs objs K
noncomputable def ref10_Mayo (o : Orc) : Orc := hook 123 (ref10_Maya o) o
theorem ref10_Mayo_ok (o : Orc) (ho : OSound Tryz.prog o) : OSound Tryz.prog (ref10_Mayo o) := hook_ok ho fun vs objs K r h => by
 unfold ref10_Maya at h
 split at h
 ·skip
  obtain ⟨t, h1, h2⟩ := ob_ok h
  refine anyOK_of mixed ref10_Mayc_ok (fn := Tryz.f123) (b := (Tryz.f123).body.getD .skip) (by kernel_rfl) (by kernel_rfl) (by kernel_rfl) ((ref10_May_eq _ _ _).trans h1) (m := 0) rfl (AllP.of (l' := []) (by kernel_rfl) trivial) fun v objs' hd => ?_
  unfold ref10_Mayd at hd
  split at hd
  ·skip
   cases hd
   exact h2
  ·cases hd
 ·exact ho _ _ _ _ _ h
noncomputable def ref10_Mustc : Ctx := mkC 14 ((ref03_Deado (ref02_Upo (ref02_Kindo oNil)))) [] lpNil
theorem ref10_Mustc_ok : CtxOK Tryz.prog ref10_Mustc := mkC_ok ((ref03_Deado_ok _ (ref02_Upo_ok _ (ref02_Kindo_ok _ oNil_ok))))
noncomputable def ref10_Mustd : V → List Obj → Option (Bool) := fun v objs => match v, objs with
 | .s (.b y0), [] => some (y0)
 | _, _ => none
theorem ref10_Must_eq (x0 x1 : Int) : fnE ref10_Mustc Tryz.f124 ([.s (.i .i64 x0), .s (.i .i64 x1)]) ([]) ref10_Mustd = ref10_Must x0 x1 := by kernel_rfl
noncomputable def ref10_Musta {R : Type} (o : Orc) (vs : List V) (objs : List Obj) (K : Bool → V → List Obj → Option R) : Option R := match vs, objs with
 | [.s (.i .i64 x0), .s (.i .i64 x1)], [] => ob (ref10_Must x0 x1) fun y0 => K false (.s (.b y0)) ([])
 | _, _ => o 124 vs objs K
noncomputable def ref10_Musto (o : Orc) : Orc := hook 124 (ref10_Musta o) o
theorem ref10_Musto_ok (o : Orc) (ho : OSound Tryz.prog o) : OSound Tryz.prog (ref10_Musto o) := hook_ok ho fun vs objs K r h => by
 unfold ref10_Musta at h
 split at h
 ·skip
  obtain ⟨t, h1, h2⟩ := ob_ok h
  refine anyOK_of mixed ref10_Mustc_ok (fn := Tryz.f124) (b := (Tryz.f124).body.getD .skip) (by kernel_rfl) (by kernel_rfl) (by kernel_rfl) ((ref10_Must_eq _ _).trans h1) (m := 0) rfl (AllP.of (l' := []) (by kernel_rfl) trivial) fun v objs' hd => ?_
  unfold ref10_Mustd at hd
  split at hd
  ·skip
   cases hd
   exact h2
  ·cases hd
 ·exact ho _ _ _ _ _ h
noncomputable def ref10_Movesc : Ctx := mkC 70 ((ref10_Musto (ref10_Mayo (ref04_Reacheso (ref05_Takeno (ref05_Ono (ref03_Deado (ref09_Cano oNil)))))))) [] lpNil
theorem ref10_Movesc_ok : CtxOK Tryz.prog ref10_Movesc := mkC_ok ((ref10_Musto_ok _ (ref10_Mayo_ok _ (ref04_Reacheso_ok _ (ref05_Takeno_ok _ (ref05_Ono_ok _ (ref03_Deado_ok _ (ref09_Cano_ok _ oNil_ok))))))))
noncomputable def ref10_Movesd : V → List Obj → Option (Bool) := fun v objs => match v, objs with
 | .s (.b y0), [] => some (y0)
 | _, _ => none
theorem ref10_Moves_eq (x0 x1 : List Int) (x2 x3 : Int) (x4 x5 : Int) (x6 : Bool) : fnE ref10_Movesc Tryz.f103 ([.agg [.arr .i8 81 x0, .arr .i8 16 x1, .one [.i .i8 x2]], .agg [.one [.i .i64 x3, .i .i64 x4, .i .i64 x5, .b x6]]]) ([]) ref10_Movesd = ref10_Moves x0 x1 x2 x3 x4 x5 x6 := by kernel_rfl
noncomputable def ref10_Movesa {R : Type} (o : Orc) (vs : List V) (objs : List Obj) (K : Bool → V → List Obj → Option R) : Option R := match vs, objs with
 | [.agg [.arr .i8 81 x0, .arr .i8 16 x1, .one [.i .i8 x2]], .agg [.one [.i .i64 x3, .i .i64 x4, .i .i64 x5, .b x6]]], [] => ob (ref10_Moves x0 x1 x2 x3 x4 x5 x6) fun y0 => K false (.s (.b y0)) ([])
 | _, _ => o 103 vs objs K
noncomputable def ref10_Moveso (o : Orc) : Orc := hook 103 (ref10_Movesa o) o
theorem ref10_Moveso_ok (o : Orc) (ho : OSound Tryz.prog o) : OSound Tryz.prog (ref10_Moveso o) := hook_ok ho fun vs objs K r h => by
 unfold ref10_Movesa at h
 split at h
 ·skip
  obtain ⟨t, h1, h2⟩ := ob_ok h
  refine anyOK_of mixed ref10_Movesc_ok (fn := Tryz.f103) (b := (Tryz.f103).body.getD .skip) (by kernel_rfl) (by kernel_rfl) (by kernel_rfl) ((ref10_Moves_eq _ _ _ _ _ _ _).trans h1) (m := 0) rfl (AllP.of (l' := []) (by kernel_rfl) trivial) fun v objs' hd => ?_
  unfold ref10_Movesd at hd
  split at hd
  ·skip
   cases hd
   exact h2
  ·cases hd
 ·exact ho _ _ _ _ _ h
noncomputable def ref10_Alll10d : Ex → List V → List Obj → Option (Nat × Int × List Int × List Int × Int × Nat × List (List Int) × List Bool) := fun e vs objs => match e, vs, objs with
 | .exit 2, [.s (.ptr 0 0 none 0), .s (.sl 1 0 y0 true), .s (.ptr 2 0 none 0), .s (.i .i64 y1)], [.cells 28 [.arr .i8 81 y2, .arr .i8 16 y3, .one [.i .i8 y4]], .sli 39 false (.rows [.i .i64, .i .i64, .i .i64, .b] y5 y6), .cells 70 [Seg.barr 81 y7]] => some (y0, y1, y2, y3, y4, y5, y6, y7)
 | _, _, _ => none
noncomputable def ref10_Alll6d : Ex → List V → List Obj → Option (Nat × List Int × List Int × Int × Nat × List (List Int)) := fun e vs objs => match e, vs, objs with
 | .exit 0, [.s (.ptr 0 0 none 0), .s (.sl 1 0 y0 true)], [.cells 28 [.arr .i8 81 y1, .arr .i8 16 y2, .one [.i .i8 y3]], .sli 39 false (.rows [.i .i64, .i .i64, .i .i64, .b] y4 y5)] => some (y0, y1, y2, y3, y4, y5)
 | _, _, _ => none
noncomputable def ref10_Alll23d : Ex → List V → List Obj → Option (Nat × Int × List Int × List Int × Int × Nat × List (List Int)) := fun e vs objs => match e, vs, objs with
 | .exit 6, [.s (.ptr 0 0 none 0), .s (.sl 1 0 y0 true), .s (.i .i64 y1)], [.cells 28 [.arr .i8 81 y2, .arr .i8 16 y3, .one [.i .i8 y4]], .sli 39 false (.rows [.i .i64, .i .i64, .i .i64, .b] y5 y6)] => some (y0, y1, y2, y3, y4, y5, y6)
 | _, _, _ => none
noncomputable def ref10_Alll20d : Ex → List V → List Obj → Option (Nat × Nat × List (List Int)) := fun e vs objs => match e, vs, objs with
 | .exit 4, [.s (.sl 0 0 y0 true)], [.sli 39 false (.rows [.i .i64, .i .i64, .i .i64, .b] y1 y2)] => some (y0, y1, y2)
 | _, _, _ => none
noncomputable def ref10_Allp10 {R : Type} (vs : List V) (objs : List Obj) (K : Ex → List V → List Obj → Option R) : Option R := match vs, objs with
 | [.s (.ptr 0 0 none 0), .s (.sl 1 0 x0 true), .s (.ptr 2 0 none 0), .s (.i .i64 x1), .s (.i .i64 x2)], [.cells 28 [.arr .i8 81 x3, .arr .i8 16 x4, .one [.i .i8 x5]], .sli 39 false (.rows [.i .i64, .i .i64, .i .i64, .b] x6 x7), .cells 70 [Seg.barr 81 x8]] => ob (ref10_Alll10 many x0 x1 x2 x3 x4 x5 x6 x7 x8) fun z => K (.exit 2) ([.s (.ptr 0 0 none 0), .s (.sl 1 0 (z.1) true), .s (.ptr 2 0 none 0), .s (.i .i64 (z.2.1))]) ([.cells 28 [.arr .i8 81 (z.2.2.1), .arr .i8 16 (z.2.2.2.1), .one [.i .i8 (z.2.2.2.2.1)]], .sli 39 false (.rows [.i .i64, .i .i64, .i .i64, .b] (z.2.2.2.2.2.1) (z.2.2.2.2.2.2.1)), .cells 70 [Seg.barr 81 (z.2.2.2.2.2.2.2)]])
 | _, _ => none
noncomputable def ref10_Allp6 {R : Type} (vs : List V) (objs : List Obj) (K : Ex → List V → List Obj → Option R) : Option R := match vs, objs with
 | [.s (.ptr 0 0 none 0), .s (.sl 1 0 x0 true), .s (.ptr 2 0 none 0), .s (.i .i64 x1)], [.cells 28 [.arr .i8 81 x2, .arr .i8 16 x3, .one [.i .i8 x4]], .sli 39 false (.rows [.i .i64, .i .i64, .i .i64, .b] x5 x6), .cells 70 [Seg.barr 81 x7]] => ob (ref10_Alll6 many x0 x1 x2 x3 x4 x5 x6 x7) fun z => K (.exit 0) ([.s (.ptr 0 0 none 0), .s (.sl 1 0 (z.1) true)]) ([.cells 28 [.arr .i8 81 (z.2.1), .arr .i8 16 (z.2.2.1), .one [.i .i8 (z.2.2.2.1)]], .sli 39 false (.rows [.i .i64, .i .i64, .i .i64, .b] (z.2.2.2.2.1) (z.2.2.2.2.2))])
 | _, _ => none
noncomputable def ref10_Allp23 {R : Type} (vs : List V) (objs : List Obj) (K : Ex → List V → List Obj → Option R) : Option R := match vs, objs with
 | [.s (.ptr 0 0 none 0), .s (.sl 1 0 x0 true), .s (.i .i64 x1), .s (.i .i64 x2)], [.cells 28 [.arr .i8 81 x3, .arr .i8 16 x4, .one [.i .i8 x5]], .sli 39 false (.rows [.i .i64, .i .i64, .i .i64, .b] x6 x7)] => ob (ref10_Alll23 many x0 x1 x2 x3 x4 x5 x6 x7) fun z => K (.exit 6) ([.s (.ptr 0 0 none 0), .s (.sl 1 0 (z.1) true), .s (.i .i64 (z.2.1))]) ([.cells 28 [.arr .i8 81 (z.2.2.1), .arr .i8 16 (z.2.2.2.1), .one [.i .i8 (z.2.2.2.2.1)]], .sli 39 false (.rows [.i .i64, .i .i64, .i .i64, .b] (z.2.2.2.2.2.1) (z.2.2.2.2.2.2))])
 | _, _ => none
noncomputable def ref10_Allp20 {R : Type} (vs : List V) (objs : List Obj) (K : Ex → List V → List Obj → Option R) : Option R := match vs, objs with
 | [.s (.ptr 0 0 none 0), .s (.sl 1 0 x0 true), .s (.i .i64 x1)], [.cells 28 [.arr .i8 81 x2, .arr .i8 16 x3, .one [.i .i8 x4]], .sli 39 false (.rows [.i .i64, .i .i64, .i .i64, .b] x5 x6)] => ob (ref10_Alll20 many x0 x1 x2 x3 x4 x5 x6) fun z => K (.exit 4) ([.s (.sl 0 0 (z.1) true)]) ([.sli 39 false (.rows [.i .i64, .i .i64, .i .i64, .b] (z.2.1) (z.2.2))])
 | _, _ => none
noncomputable def ref10_Alllp : {R : Type} → Nat → List V → List Obj → (Ex → List V → List Obj → Option R) → Option R := fun q vs objs K => bif Nat.beq q 10 then ref10_Allp10 vs objs K else bif Nat.beq q 6 then ref10_Allp6 vs objs K else bif Nat.beq q 23 then ref10_Allp23 vs objs K else bif Nat.beq q 20 then ref10_Allp20 vs objs K else none
noncomputable def ref10_Allc : Ctx := mkC 98 ((ref10_Moveso (ref04_Reacheso (ref02_Sideo (ref05_Takeno oNil))))) [(6, [1, 3, 4, 5], [1, 3]), (10, [1, 3, 4, 5, 6], [1, 3, 4, 5]), (20, [1, 3, 8], [3]), (23, [1, 3, 8, 9], [1, 3, 8])] ref10_Alllp
theorem ref10_Allc_ok : CtxOK Tryz.prog ref10_Allc := mkC_ok ((ref10_Moveso_ok _ (ref04_Reacheso_ok _ (ref02_Sideo_ok _ (ref05_Takeno_ok _ oNil_ok)))))
noncomputable def ref10_Alll10r (f : Nat) (x0 : Nat) (x1 x2 : Int) (x3 x4 : List Int) (x5 : Int) (x6 : Nat) (x7 : List (List Int)) (x8 : List Bool) : Option (Nat × Int × List Int × List Int × Int × Nat × List (List Int) × List Bool) := lrun ref10_Allc 0 [1, 3, 4, 5, 6] [1, 3, 4, 5] (loopOf Tryz.f59 10) f ([.s (.ptr 0 0 none 0), .s (.sl 1 0 x0 true), .s (.ptr 2 0 none 0), .s (.i .i64 x1), .s (.i .i64 x2)]) ([.cells 28 [.arr .i8 81 x3, .arr .i8 16 x4, .one [.i .i8 x5]], .sli 39 false (.rows [.i .i64, .i .i64, .i .i64, .b] x6 x7), .cells 70 [Seg.barr 81 x8]]) ref10_Alll10d
theorem ref10_Alll10_step (f : Nat) (x0 : Nat) (x1 x2 : Int) (x3 x4 : List Int) (x5 : Int) (x6 : Nat) (x7 : List (List Int)) (x8 : List Bool) : ref10_Alll10r (f + 1) x0 x1 x2 x3 x4 x5 x6 x7 x8 = ref10_Alll10s (ref10_Alll10r f) x0 x1 x2 x3 x4 x5 x6 x7 x8 := by kernel_rfl
theorem ref10_Alll10_eq : ∀ f, ref10_Alll10r f = ref10_Alll10 f
 | 0 => rfl
 | f + 1 => by funext x0 x1 x2 x3 x4 x5 x6 x7 x8; rw [ref10_Alll10_step, ref10_Alll10_eq f]; rfl
noncomputable def ref10_Alll6r (f : Nat) (x0 : Nat) (x1 : Int) (x2 x3 : List Int) (x4 : Int) (x5 : Nat) (x6 : List (List Int)) (x7 : List Bool) : Option (Nat × List Int × List Int × Int × Nat × List (List Int)) := lrun ref10_Allc 0 [1, 3, 4, 5] [1, 3] (loopOf Tryz.f59 6) f ([.s (.ptr 0 0 none 0), .s (.sl 1 0 x0 true), .s (.ptr 2 0 none 0), .s (.i .i64 x1)]) ([.cells 28 [.arr .i8 81 x2, .arr .i8 16 x3, .one [.i .i8 x4]], .sli 39 false (.rows [.i .i64, .i .i64, .i .i64, .b] x5 x6), .cells 70 [Seg.barr 81 x7]]) ref10_Alll6d
theorem ref10_Alll6_step (f : Nat) (x0 : Nat) (x1 : Int) (x2 x3 : List Int) (x4 : Int) (x5 : Nat) (x6 : List (List Int)) (x7 : List Bool) : ref10_Alll6r (f + 1) x0 x1 x2 x3 x4 x5 x6 x7 = ref10_Alll6s (ref10_Alll6r f) x0 x1 x2 x3 x4 x5 x6 x7 := by kernel_rfl
theorem ref10_Alll6_eq : ∀ f, ref10_Alll6r f = ref10_Alll6 f
 | 0 => rfl
 | f + 1 => by funext x0 x1 x2 x3 x4 x5 x6 x7; rw [ref10_Alll6_step, ref10_Alll6_eq f]; rfl
noncomputable def ref10_Alll23r (f : Nat) (x0 : Nat) (x1 x2 : Int) (x3 x4 : List Int) (x5 : Int) (x6 : Nat) (x7 : List (List Int)) : Option (Nat × Int × List Int × List Int × Int × Nat × List (List Int)) := lrun ref10_Allc 0 [1, 3, 8, 9] [1, 3, 8] (loopOf Tryz.f59 23) f ([.s (.ptr 0 0 none 0), .s (.sl 1 0 x0 true), .s (.i .i64 x1), .s (.i .i64 x2)]) ([.cells 28 [.arr .i8 81 x3, .arr .i8 16 x4, .one [.i .i8 x5]], .sli 39 false (.rows [.i .i64, .i .i64, .i .i64, .b] x6 x7)]) ref10_Alll23d
theorem ref10_Alll23_step (f : Nat) (x0 : Nat) (x1 x2 : Int) (x3 x4 : List Int) (x5 : Int) (x6 : Nat) (x7 : List (List Int)) : ref10_Alll23r (f + 1) x0 x1 x2 x3 x4 x5 x6 x7 = ref10_Alll23s (ref10_Alll23r f) x0 x1 x2 x3 x4 x5 x6 x7 := by kernel_rfl
theorem ref10_Alll23_eq : ∀ f, ref10_Alll23r f = ref10_Alll23 f
 | 0 => rfl
 | f + 1 => by funext x0 x1 x2 x3 x4 x5 x6 x7; rw [ref10_Alll23_step, ref10_Alll23_eq f]; rfl
noncomputable def ref10_Alll20r (f : Nat) (x0 : Nat) (x1 : Int) (x2 x3 : List Int) (x4 : Int) (x5 : Nat) (x6 : List (List Int)) : Option (Nat × Nat × List (List Int)) := lrun ref10_Allc 0 [1, 3, 8] [3] (loopOf Tryz.f59 20) f ([.s (.ptr 0 0 none 0), .s (.sl 1 0 x0 true), .s (.i .i64 x1)]) ([.cells 28 [.arr .i8 81 x2, .arr .i8 16 x3, .one [.i .i8 x4]], .sli 39 false (.rows [.i .i64, .i .i64, .i .i64, .b] x5 x6)]) ref10_Alll20d
theorem ref10_Alll20_step (f : Nat) (x0 : Nat) (x1 : Int) (x2 x3 : List Int) (x4 : Int) (x5 : Nat) (x6 : List (List Int)) : ref10_Alll20r (f + 1) x0 x1 x2 x3 x4 x5 x6 = ref10_Alll20s (ref10_Alll20r f) x0 x1 x2 x3 x4 x5 x6 := by kernel_rfl
theorem ref10_Alll20_eq : ∀ f, ref10_Alll20r f = ref10_Alll20 f
 | 0 => rfl
 | f + 1 => by funext x0 x1 x2 x3 x4 x5 x6; rw [ref10_Alll20_step, ref10_Alll20_eq f]; rfl
theorem ref10_Alls10 : LoopSound Tryz.prog ref10_Allc 0 (loopOf Tryz.f59 10) :=
 loopSound_by mixed ref10_Allc_ok (AllP.of (l' := []) (by kernel_rfl) trivial) (q := 10) (kin := [1, 3, 4, 5, 6]) (kout := [1, 3, 4, 5]) (by kernel_rfl) (by kernel_rfl) fun vs objs K r h => by
  replace h : ref10_Allp10 vs objs K = some r := h
  unfold ref10_Allp10 at h
  split at h
  ·skip
   obtain ⟨t, h1, h2⟩ := ob_ok h
   rw [← ref10_Alll10_eq] at h1
   refine ⟨_, ref10_Alll10d, t, many, h1, fun e vs' objs' hd => ?_⟩
   unfold ref10_Alll10d at hd
   split at hd
   ·skip
    cases hd
    exact h2
   ·cases hd
  ·cases h
theorem ref10_Alls23 : LoopSound Tryz.prog ref10_Allc 0 (loopOf Tryz.f59 23) :=
 loopSound_by mixed ref10_Allc_ok (AllP.of (l' := []) (by kernel_rfl) trivial) (q := 23) (kin := [1, 3, 8, 9]) (kout := [1, 3, 8]) (by kernel_rfl) (by kernel_rfl) fun vs objs K r h => by
  replace h : ref10_Allp23 vs objs K = some r := h
  unfold ref10_Allp23 at h
  split at h
  ·skip
   obtain ⟨t, h1, h2⟩ := ob_ok h
   rw [← ref10_Alll23_eq] at h1
   refine ⟨_, ref10_Alll23d, t, many, h1, fun e vs' objs' hd => ?_⟩
   unfold ref10_Alll23d at hd
   split at hd
   ·skip
    cases hd
    exact h2
   ·cases hd
  ·cases h
theorem ref10_Alls6 : LoopSound Tryz.prog ref10_Allc 0 (loopOf Tryz.f59 6) :=
 loopSound_by mixed ref10_Allc_ok (AllP.of (l' := [loopOf Tryz.f59 10]) (by kernel_rfl) ⟨ref10_Alls10, trivial⟩) (q := 6) (kin := [1, 3, 4, 5]) (kout := [1, 3]) (by kernel_rfl) (by kernel_rfl) fun vs objs K r h => by
  replace h : ref10_Allp6 vs objs K = some r := h
  unfold ref10_Allp6 at h
  split at h
  ·skip
   obtain ⟨t, h1, h2⟩ := ob_ok h
   rw [← ref10_Alll6_eq] at h1
   refine ⟨_, ref10_Alll6d, t, many, h1, fun e vs' objs' hd => ?_⟩
   unfold ref10_Alll6d at hd
   split at hd
   ·skip
    cases hd
    exact h2
   ·cases hd
  ·cases h
theorem ref10_Alls20 : LoopSound Tryz.prog ref10_Allc 0 (loopOf Tryz.f59 20) :=
 loopSound_by mixed ref10_Allc_ok (AllP.of (l' := [loopOf Tryz.f59 23]) (by kernel_rfl) ⟨ref10_Alls23, trivial⟩) (q := 20) (kin := [1, 3, 8]) (kout := [3]) (by kernel_rfl) (by kernel_rfl) fun vs objs K r h => by
  replace h : ref10_Allp20 vs objs K = some r := h
  unfold ref10_Allp20 at h
  split at h
  ·skip
   obtain ⟨t, h1, h2⟩ := ob_ok h
   rw [← ref10_Alll20_eq] at h1
   refine ⟨_, ref10_Alll20d, t, many, h1, fun e vs' objs' hd => ?_⟩
   unfold ref10_Alll20d at hd
   split at hd
   ·skip
    cases hd
    exact h2
   ·cases hd
  ·cases h
noncomputable def ref10_Alld : V → List Obj → Option (Nat × Nat × List (List Int)) := fun v objs => match v, objs with
 | .s (.sl 0 0 y0 true), [.sli 39 false (.rows [.i .i64, .i .i64, .i .i64, .b] y1 y2)] => some (y0, y1, y2)
 | _, _ => none
theorem ref10_All_eq (x0 x1 : List Int) (x2 : Int) : fnE ref10_Allc Tryz.f59 ([.agg [.arr .i8 81 x0, .arr .i8 16 x1, .one [.i .i8 x2]]]) ([]) ref10_Alld = ref10_All x0 x1 x2 := by kernel_rfl
noncomputable def ref10_Alla {R : Type} (o : Orc) (vs : List V) (objs : List Obj) (K : Bool → V → List Obj → Option R) : Option R := match vs, objs with
 | [.agg [.arr .i8 81 x0, .arr .i8 16 x1, .one [.i .i8 x2]]], [] => ob (ref10_All x0 x1 x2) fun z => K false (.s (.sl 0 0 (z.1) true)) ([.sli 39 false (.rows [.i .i64, .i .i64, .i .i64, .b] (z.2.1) (z.2.2))])
 | _, _ => o 59 vs objs K
noncomputable def ref10_Allo (o : Orc) : Orc := hook 59 (ref10_Alla o) o
theorem ref10_Allo_ok (o : Orc) (ho : OSound Tryz.prog o) : OSound Tryz.prog (ref10_Allo o) := hook_ok ho fun vs objs K r h => by
 unfold ref10_Alla at h
 split at h
 ·skip
  obtain ⟨t, h1, h2⟩ := ob_ok h
  refine anyOK_of mixed ref10_Allc_ok (fn := Tryz.f59) (b := (Tryz.f59).body.getD .skip) (by kernel_rfl) (by kernel_rfl) (by kernel_rfl) ((ref10_All_eq _ _ _).trans h1) (m := 0) rfl (AllP.of (l' := [loopOf Tryz.f59 6, loopOf Tryz.f59 20]) (by kernel_rfl) ⟨ref10_Alls6, ref10_Alls20, trivial⟩) fun v objs' hd => ?_
  unfold ref10_Alld at hd
  split at hd
  ·skip
   cases hd
   exact h2
  ·cases hd
 ·exact ho _ _ _ _ _ h
noncomputable def ref09_Afterc : Ctx := mkC 82 ((ref02_Rawo (ref02_Kindo oNil))) [] lpNil
theorem ref09_Afterc_ok : CtxOK Tryz.prog ref09_Afterc := mkC_ok ((ref02_Rawo_ok _ (ref02_Kindo_ok _ oNil_ok)))
noncomputable def ref09_Afterd : V → List Obj → Option (List Int × List Int × Int) := fun v objs => match v, objs with
 | .agg [.arr .i8 81 y0, .arr .i8 16 y1, .one [.i .i8 y2]], [] => some (y0, y1, y2)
 | _, _ => none
theorem ref09_After_eq (x0 x1 : List Int) (x2 x3 : Int) (x4 x5 : Int) (x6 : Bool) : fnE ref09_Afterc Tryz.f32 ([.agg [.arr .i8 81 x0, .arr .i8 16 x1, .one [.i .i8 x2]], .agg [.one [.i .i64 x3, .i .i64 x4, .i .i64 x5, .b x6]]]) ([]) ref09_Afterd = ref09_After x0 x1 x2 x3 x4 x5 x6 := by kernel_rfl
noncomputable def ref09_Aftera {R : Type} (o : Orc) (vs : List V) (objs : List Obj) (K : Bool → V → List Obj → Option R) : Option R := match vs, objs with
 | [.agg [.arr .i8 81 x0, .arr .i8 16 x1, .one [.i .i8 x2]], .agg [.one [.i .i64 x3, .i .i64 x4, .i .i64 x5, .b x6]]], [] => ob (ref09_After x0 x1 x2 x3 x4 x5 x6) fun z => K false (.agg [.arr .i8 81 (z.1), .arr .i8 16 (z.2.1), .one [.i .i8 (z.2.2)]]) ([])
 | _, _ => o 32 vs objs K
noncomputable def ref09_Aftero (o : Orc) : Orc := hook 32 (ref09_Aftera o) o
theorem ref09_Aftero_ok (o : Orc) (ho : OSound Tryz.prog o) : OSound Tryz.prog (ref09_Aftero o) := hook_ok ho fun vs objs K r h => by
 unfold ref09_Aftera at h
 split at h
 ·skip
  obtain ⟨t, h1, h2⟩ := ob_ok h
  refine anyOK_of mixed ref09_Afterc_ok (fn := Tryz.f32) (b := (Tryz.f32).body.getD .skip) (by kernel_rfl) (by kernel_rfl) (by kernel_rfl) ((ref09_After_eq _ _ _ _ _ _ _).trans h1) (m := 0) rfl (AllP.of (l' := []) (by kernel_rfl) trivial) fun v objs' hd => ?_
  unfold ref09_Afterd at hd
  split at hd
  ·skip
   cases hd
   exact h2
  ·cases hd
 ·exact ho _ _ _ _ _ h
noncomputable def ref11_Safec : Ctx := mkC 13 ((ref08_InChecko (ref09_Aftero oNil))) [] lpNil
theorem ref11_Safec_ok : CtxOK Tryz.prog ref11_Safec := mkC_ok ((ref08_InChecko_ok _ (ref09_Aftero_ok _ oNil_ok)))
noncomputable def ref11_Safed : V → List Obj → Option (Bool) := fun v objs => match v, objs with
 | .s (.b y0), [] => some (y0)
 | _, _ => none
theorem ref11_Safe_eq (x0 x1 : List Int) (x2 x3 : Int) (x4 x5 : Int) (x6 : Bool) : fnE ref11_Safec Tryz.f104 ([.agg [.arr .i8 81 x0, .arr .i8 16 x1, .one [.i .i8 x2]], .agg [.one [.i .i64 x3, .i .i64 x4, .i .i64 x5, .b x6]]]) ([]) ref11_Safed = ref11_Safe x0 x1 x2 x3 x4 x5 x6 := by kernel_rfl
noncomputable def ref11_Safea {R : Type} (o : Orc) (vs : List V) (objs : List Obj) (K : Bool → V → List Obj → Option R) : Option R := match vs, objs with
 | [.agg [.arr .i8 81 x0, .arr .i8 16 x1, .one [.i .i8 x2]], .agg [.one [.i .i64 x3, .i .i64 x4, .i .i64 x5, .b x6]]], [] => ob (ref11_Safe x0 x1 x2 x3 x4 x5 x6) fun y0 => K false (.s (.b y0)) ([])
 | _, _ => o 104 vs objs K
noncomputable def ref11_Safeo (o : Orc) : Orc := hook 104 (ref11_Safea o) o
theorem ref11_Safeo_ok (o : Orc) (ho : OSound Tryz.prog o) : OSound Tryz.prog (ref11_Safeo o) := hook_ok ho fun vs objs K r h => by
 unfold ref11_Safea at h
 split at h
 ·skip
  obtain ⟨t, h1, h2⟩ := ob_ok h
  refine anyOK_of mixed ref11_Safec_ok (fn := Tryz.f104) (b := (Tryz.f104).body.getD .skip) (by kernel_rfl) (by kernel_rfl) (by kernel_rfl) ((ref11_Safe_eq _ _ _ _ _ _ _).trans h1) (m := 0) rfl (AllP.of (l' := []) (by kernel_rfl) trivial) fun v objs' hd => ?_
  unfold ref11_Safed at hd
  split at hd
  ·skip
   cases hd
   exact h2
  ·cases hd
 ·exact ho _ _ _ _ _ h
noncomputable def ref11_Stuckl3d : Ex → List V → List Obj → Option ((Bool) ⊕ (Unit)) := fun e vs objs => match e, vs, objs with
 | .ret, [.s (.b y0)], [] => some (.inl (y0))
 | .exit 0, [.s .bad], [] => some (.inr ())
 | _, _, _ => none
noncomputable def ref11_Stuckp3 {R : Type} (vs : List V) (objs : List Obj) (K : Ex → List V → List Obj → Option R) : Option R := match vs, objs with
 | [.s (.ptr 0 0 none 0), .s (.sl 1 0 x0 true), .s (.i .i64 x1)], [.cells 28 [.arr .i8 81 x2, .arr .i8 16 x3, .one [.i .i8 x4]], .sli 39 false (.rows [.i .i64, .i .i64, .i .i64, .b] x5 x6)] => ob (ref11_Stuckl3 many x0 x1 x2 x3 x4 x5 x6) fun t0 => sw t0 (fun y0 => K (.ret) ([.s (.b y0)]) ([])) (fun _ => K (.exit 0) ([.s .bad]) ([]))
 | _, _ => none
noncomputable def ref11_Stucklp : {R : Type} → Nat → List V → List Obj → (Ex → List V → List Obj → Option R) → Option R := fun q vs objs K => bif Nat.beq q 3 then ref11_Stuckp3 vs objs K else none
noncomputable def ref11_Stuckc : Ctx := mkC 19 ((ref11_Safeo (ref10_Allo oNil))) [(3, [1, 3, 4], [2])] ref11_Stucklp
theorem ref11_Stuckc_ok : CtxOK Tryz.prog ref11_Stuckc := mkC_ok ((ref11_Safeo_ok _ (ref10_Allo_ok _ oNil_ok)))
noncomputable def ref11_Stuckl3r (f : Nat) (x0 : Nat) (x1 : Int) (x2 x3 : List Int) (x4 : Int) (x5 : Nat) (x6 : List (List Int)) : Option ((Bool) ⊕ (Unit)) := lrun ref11_Stuckc 0 [1, 3, 4] [2] (loopOf Tryz.f105 3) f ([.s (.ptr 0 0 none 0), .s (.sl 1 0 x0 true), .s (.i .i64 x1)]) ([.cells 28 [.arr .i8 81 x2, .arr .i8 16 x3, .one [.i .i8 x4]], .sli 39 false (.rows [.i .i64, .i .i64, .i .i64, .b] x5 x6)]) ref11_Stuckl3d
theorem ref11_Stuckl3_step (f : Nat) (x0 : Nat) (x1 : Int) (x2 x3 : List Int) (x4 : Int) (x5 : Nat) (x6 : List (List Int)) : ref11_Stuckl3r (f + 1) x0 x1 x2 x3 x4 x5 x6 = ref11_Stuckl3s (ref11_Stuckl3r f) x0 x1 x2 x3 x4 x5 x6 := by kernel_rfl
theorem ref11_Stuckl3_eq : ∀ f, ref11_Stuckl3r f = ref11_Stuckl3 f
 | 0 => rfl
 | f + 1 => by funext x0 x1 x2 x3 x4 x5 x6; rw [ref11_Stuckl3_step, ref11_Stuckl3_eq f]; rfl
theorem ref11_Stucks3 : LoopSound Tryz.prog ref11_Stuckc 0 (loopOf Tryz.f105 3) :=
 loopSound_by mixed ref11_Stuckc_ok (AllP.of (l' := []) (by kernel_rfl) trivial) (q := 3) (kin := [1, 3, 4]) (kout := [2]) (by kernel_rfl) (by kernel_rfl) fun vs objs K r h => by
  replace h : ref11_Stuckp3 vs objs K = some r := h
  unfold ref11_Stuckp3 at h
  split at h
  ·skip
   obtain ⟨t, h1, h2⟩ := ob_ok h
   rw [← ref11_Stuckl3_eq] at h1
   refine ⟨_, ref11_Stuckl3d, t, many, h1, fun e vs' objs' hd => ?_⟩
   unfold ref11_Stuckl3d at hd
   split at hd
   ·skip
    cases hd
    exact h2
   ·skip
    cases hd
    exact h2
   ·cases hd
  ·cases h
noncomputable def ref11_Stuckd : V → List Obj → Option (Bool) := fun v objs => match v, objs with
 | .s (.b y0), [] => some (y0)
 | _, _ => none
theorem ref11_Stuck_eq (x0 x1 : List Int) (x2 : Int) : fnE ref11_Stuckc Tryz.f105 ([.agg [.arr .i8 81 x0, .arr .i8 16 x1, .one [.i .i8 x2]]]) ([]) ref11_Stuckd = ref11_Stuck x0 x1 x2 := by kernel_rfl
noncomputable def ref11_Stucka {R : Type} (o : Orc) (vs : List V) (objs : List Obj) (K : Bool → V → List Obj → Option R) : Option R := match vs, objs with
 | [.agg [.arr .i8 81 x0, .arr .i8 16 x1, .one [.i .i8 x2]]], [] => ob (ref11_Stuck x0 x1 x2) fun y0 => K false (.s (.b y0)) ([])
 | _, _ => o 105 vs objs K
noncomputable def ref11_Stucko (o : Orc) : Orc := hook 105 (ref11_Stucka o) o
theorem ref11_Stucko_ok (o : Orc) (ho : OSound Tryz.prog o) : OSound Tryz.prog (ref11_Stucko o) := hook_ok ho fun vs objs K r h => by
 unfold ref11_Stucka at h
 split at h
 ·skip
  obtain ⟨t, h1, h2⟩ := ob_ok h
  refine anyOK_of mixed ref11_Stuckc_ok (fn := Tryz.f105) (b := (Tryz.f105).body.getD .skip) (by kernel_rfl) (by kernel_rfl) (by kernel_rfl) ((ref11_Stuck_eq _ _ _).trans h1) (m := 0) rfl (AllP.of (l' := [loopOf Tryz.f105 3]) (by kernel_rfl) ⟨ref11_Stucks3, trivial⟩) fun v objs' hd => ?_
  unfold ref11_Stuckd at hd
  split at hd
  ·skip
   cases hd
   exact h2
  ·cases hd
 ·exact ho _ _ _ _ _ h
noncomputable def ref11_Legalc : Ctx := mkC 27 ((ref11_Stucko (ref08_InChecko (ref09_Aftero (ref11_Safeo oNil))))) [] lpNil
theorem ref11_Legalc_ok : CtxOK Tryz.prog ref11_Legalc := mkC_ok ((ref11_Stucko_ok _ (ref08_InChecko_ok _ (ref09_Aftero_ok _ (ref11_Safeo_ok _ oNil_ok)))))
noncomputable def ref11_Legald : V → List Obj → Option (Bool) := fun v objs => match v, objs with
 | .s (.b y0), [] => some (y0)
 | _, _ => none
theorem ref11_Legal_eq (x0 x1 : List Int) (x2 x3 : Int) (x4 x5 : Int) (x6 : Bool) : fnE ref11_Legalc Tryz.f60 ([.agg [.arr .i8 81 x0, .arr .i8 16 x1, .one [.i .i8 x2]], .agg [.one [.i .i64 x3, .i .i64 x4, .i .i64 x5, .b x6]]]) ([]) ref11_Legald = ref11_Legal x0 x1 x2 x3 x4 x5 x6 := by kernel_rfl
noncomputable def ref11_Legala {R : Type} (o : Orc) (vs : List V) (objs : List Obj) (K : Bool → V → List Obj → Option R) : Option R := match vs, objs with
 | [.agg [.arr .i8 81 x0, .arr .i8 16 x1, .one [.i .i8 x2]], .agg [.one [.i .i64 x3, .i .i64 x4, .i .i64 x5, .b x6]]], [] => ob (ref11_Legal x0 x1 x2 x3 x4 x5 x6) fun y0 => K false (.s (.b y0)) ([])
 | _, _ => o 60 vs objs K
noncomputable def ref11_Legalo (o : Orc) : Orc := hook 60 (ref11_Legala o) o
theorem ref11_Legalo_ok (o : Orc) (ho : OSound Tryz.prog o) : OSound Tryz.prog (ref11_Legalo o) := hook_ok ho fun vs objs K r h => by
 unfold ref11_Legala at h
 split at h
 ·skip
  obtain ⟨t, h1, h2⟩ := ob_ok h
  refine anyOK_of mixed ref11_Legalc_ok (fn := Tryz.f60) (b := (Tryz.f60).body.getD .skip) (by kernel_rfl) (by kernel_rfl) (by kernel_rfl) ((ref11_Legal_eq _ _ _ _ _ _ _).trans h1) (m := 0) rfl (AllP.of (l' := []) (by kernel_rfl) trivial) fun v objs' hd => ?_
  unfold ref11_Legald at hd
  split at hd
  ·skip
   cases hd
   exact h2
  ·cases hd
 ·exact ho _ _ _ _ _ h
noncomputable def ref11_Alll4d : Ex → List V → List Obj → Option (Nat × Nat × List (List Int)) := fun e vs objs => match e, vs, objs with
 | .exit 0, [.s (.sl 0 0 y0 true)], [.sli 39 false (.rows [.i .i64, .i .i64, .i .i64, .b] y1 y2)] => some (y0, y1, y2)
 | _, _, _ => none
noncomputable def ref11_Allp4 {R : Type} (vs : List V) (objs : List Obj) (K : Ex → List V → List Obj → Option R) : Option R := match vs, objs with
 | [.s (.ptr 0 0 none 0), .s (.sl 1 0 x0 true), .s (.sl 2 0 x1 true), .s (.i .i64 x2)], [.cells 28 [.arr .i8 81 x3, .arr .i8 16 x4, .one [.i .i8 x5]], .sli 39 false (.rows [.i .i64, .i .i64, .i .i64, .b] x6 x7), .sli 39 false (.rows [.i .i64, .i .i64, .i .i64, .b] x8 x9)] => ob (ref11_Alll4 many x0 x1 x2 x3 x4 x5 x6 x7 x8 x9) fun z => K (.exit 0) ([.s (.sl 0 0 (z.1) true)]) ([.sli 39 false (.rows [.i .i64, .i .i64, .i .i64, .b] (z.2.1) (z.2.2))])
 | _, _ => none
noncomputable def ref11_Alllp : {R : Type} → Nat → List V → List Obj → (Ex → List V → List Obj → Option R) → Option R := fun q vs objs K => bif Nat.beq q 4 then ref11_Allp4 vs objs K else none
noncomputable def ref11_Allc : Ctx := mkC 28 ((ref11_Legalo (ref10_Allo oNil))) [(4, [1, 3, 4, 5], [3])] ref11_Alllp
theorem ref11_Allc_ok : CtxOK Tryz.prog ref11_Allc := mkC_ok ((ref11_Legalo_ok _ (ref10_Allo_ok _ oNil_ok)))
noncomputable def ref11_Alll4r (f : Nat) (x0 x1 : Nat) (x2 : Int) (x3 x4 : List Int) (x5 : Int) (x6 : Nat) (x7 : List (List Int)) (x8 : Nat) (x9 : List (List Int)) : Option (Nat × Nat × List (List Int)) := lrun ref11_Allc 0 [1, 3, 4, 5] [3] (loopOf Tryz.f30 4) f ([.s (.ptr 0 0 none 0), .s (.sl 1 0 x0 true), .s (.sl 2 0 x1 true), .s (.i .i64 x2)]) ([.cells 28 [.arr .i8 81 x3, .arr .i8 16 x4, .one [.i .i8 x5]], .sli 39 false (.rows [.i .i64, .i .i64, .i .i64, .b] x6 x7), .sli 39 false (.rows [.i .i64, .i .i64, .i .i64, .b] x8 x9)]) ref11_Alll4d
theorem ref11_Alll4_step (f : Nat) (x0 x1 : Nat) (x2 : Int) (x3 x4 : List Int) (x5 : Int) (x6 : Nat) (x7 : List (List Int)) (x8 : Nat) (x9 : List (List Int)) : ref11_Alll4r (f + 1) x0 x1 x2 x3 x4 x5 x6 x7 x8 x9 = ref11_Alll4s (ref11_Alll4r f) x0 x1 x2 x3 x4 x5 x6 x7 x8 x9 := by kernel_rfl
theorem ref11_Alll4_eq : ∀ f, ref11_Alll4r f = ref11_Alll4 f
 | 0 => rfl
 | f + 1 => by funext x0 x1 x2 x3 x4 x5 x6 x7 x8 x9; rw [ref11_Alll4_step, ref11_Alll4_eq f]; rfl
theorem ref11_Alls4 : LoopSound Tryz.prog ref11_Allc 0 (loopOf Tryz.f30 4) :=
 loopSound_by mixed ref11_Allc_ok (AllP.of (l' := []) (by kernel_rfl) trivial) (q := 4) (kin := [1, 3, 4, 5]) (kout := [3]) (by kernel_rfl) (by kernel_rfl) fun vs objs K r h => by
  replace h : ref11_Allp4 vs objs K = some r := h
  unfold ref11_Allp4 at h
  split at h
  ·skip
   obtain ⟨t, h1, h2⟩ := ob_ok h
   rw [← ref11_Alll4_eq] at h1
   refine ⟨_, ref11_Alll4d, t, many, h1, fun e vs' objs' hd => ?_⟩
   unfold ref11_Alll4d at hd
   split at hd
   ·skip
    cases hd
    exact h2
   ·cases hd
  ·cases h
noncomputable def ref11_Alld : V → List Obj → Option (Nat × Nat × List (List Int)) := fun v objs => match v, objs with
 | .s (.sl 0 0 y0 true), [.sli 39 false (.rows [.i .i64, .i .i64, .i .i64, .b] y1 y2)] => some (y0, y1, y2)
 | _, _ => none
theorem ref11_All_eq (x0 x1 : List Int) (x2 : Int) : fnE ref11_Allc Tryz.f30 ([.agg [.arr .i8 81 x0, .arr .i8 16 x1, .one [.i .i8 x2]]]) ([]) ref11_Alld = ref11_All x0 x1 x2 := by kernel_rfl
noncomputable def ref11_Alla {R : Type} (o : Orc) (vs : List V) (objs : List Obj) (K : Bool → V → List Obj → Option R) : Option R := match vs, objs with
 | [.agg [.arr .i8 81 x0, .arr .i8 16 x1, .one [.i .i8 x2]]], [] => ob (ref11_All x0 x1 x2) fun z => K false (.s (.sl 0 0 (z.1) true)) ([.sli 39 false (.rows [.i .i64, .i .i64, .i .i64, .b] (z.2.1) (z.2.2))])
 | _, _ => o 30 vs objs K
noncomputable def ref11_Allo (o : Orc) : Orc := hook 30 (ref11_Alla o) o
theorem ref11_Allo_ok (o : Orc) (ho : OSound Tryz.prog o) : OSound Tryz.prog (ref11_Allo o) := hook_ok ho fun vs objs K r h => by
 unfold ref11_Alla at h
 split at h
 ·skip
  obtain ⟨t, h1, h2⟩ := ob_ok h
  refine anyOK_of mixed ref11_Allc_ok (fn := Tryz.f30) (b := (Tryz.f30).body.getD .skip) (by kernel_rfl) (by kernel_rfl) (by kernel_rfl) ((ref11_All_eq _ _ _).trans h1) (m := 0) rfl (AllP.of (l' := [loopOf Tryz.f30 4]) (by kernel_rfl) ⟨ref11_Alls4, trivial⟩) fun v objs' hd => ?_
  unfold ref11_Alld at hd
  split at hd
  ·skip
   cases hd
   exact h2
  ·cases hd
 ·exact ho _ _ _ _ _ h
noncomputable def ref12_Stuckc : Ctx := mkC 7 ((ref11_Allo oNil)) [] lpNil
theorem ref12_Stuckc_ok : CtxOK Tryz.prog ref12_Stuckc := mkC_ok ((ref11_Allo_ok _ oNil_ok))
noncomputable def ref12_Stuckd : V → List Obj → Option (Bool) := fun v objs => match v, objs with
 | .s (.b y0), [] => some (y0)
 | _, _ => none
theorem ref12_Stuck_eq (x0 x1 : List Int) (x2 : Int) : fnE ref12_Stuckc Tryz.f11 ([.agg [.arr .i8 81 x0, .arr .i8 16 x1, .one [.i .i8 x2]]]) ([]) ref12_Stuckd = ref12_Stuck x0 x1 x2 := by kernel_rfl
noncomputable def ref12_Stucka {R : Type} (o : Orc) (vs : List V) (objs : List Obj) (K : Bool → V → List Obj → Option R) : Option R := match vs, objs with
 | [.agg [.arr .i8 81 x0, .arr .i8 16 x1, .one [.i .i8 x2]]], [] => ob (ref12_Stuck x0 x1 x2) fun y0 => K false (.s (.b y0)) ([])
 | _, _ => o 11 vs objs K
noncomputable def ref12_Stucko (o : Orc) : Orc := hook 11 (ref12_Stucka o) o
theorem ref12_Stucko_ok (o : Orc) (ho : OSound Tryz.prog o) : OSound Tryz.prog (ref12_Stucko o) := hook_ok ho fun vs objs K r h => by
 unfold ref12_Stucka at h
 split at h
 ·skip
  obtain ⟨t, h1, h2⟩ := ob_ok h
  refine anyOK_of mixed ref12_Stuckc_ok (fn := Tryz.f11) (b := (Tryz.f11).body.getD .skip) (by kernel_rfl) (by kernel_rfl) (by kernel_rfl) ((ref12_Stuck_eq _ _ _).trans h1) (m := 0) rfl (AllP.of (l' := []) (by kernel_rfl) trivial) fun v objs' hd => ?_
  unfold ref12_Stuckd at hd
  split at hd
  ·skip
   cases hd
   exact h2
  ·cases hd
 ·exact ho _ _ _ _ _ h
noncomputable def ref12_Matedc : Ctx := mkC 12 ((ref12_Stucko (ref08_InChecko oNil))) [] lpNil
theorem ref12_Matedc_ok : CtxOK Tryz.prog ref12_Matedc := mkC_ok ((ref12_Stucko_ok _ (ref08_InChecko_ok _ oNil_ok)))
noncomputable def ref12_Matedd : V → List Obj → Option (Bool) := fun v objs => match v, objs with
 | .s (.b y0), [] => some (y0)
 | _, _ => none
theorem ref12_Mated_eq (x0 x1 : List Int) (x2 : Int) : fnE ref12_Matedc Tryz.f13 ([.agg [.arr .i8 81 x0, .arr .i8 16 x1, .one [.i .i8 x2]]]) ([]) ref12_Matedd = ref12_Mated x0 x1 x2 := by kernel_rfl
noncomputable def ref12_Mateda {R : Type} (o : Orc) (vs : List V) (objs : List Obj) (K : Bool → V → List Obj → Option R) : Option R := match vs, objs with
 | [.agg [.arr .i8 81 x0, .arr .i8 16 x1, .one [.i .i8 x2]]], [] => ob (ref12_Mated x0 x1 x2) fun y0 => K false (.s (.b y0)) ([])
 | _, _ => o 13 vs objs K
noncomputable def ref12_Matedo (o : Orc) : Orc := hook 13 (ref12_Mateda o) o
theorem ref12_Matedo_ok (o : Orc) (ho : OSound Tryz.prog o) : OSound Tryz.prog (ref12_Matedo o) := hook_ok ho fun vs objs K r h => by
 unfold ref12_Mateda at h
 split at h
 ·skip
  obtain ⟨t, h1, h2⟩ := ob_ok h
  refine anyOK_of mixed ref12_Matedc_ok (fn := Tryz.f13) (b := (Tryz.f13).body.getD .skip) (by kernel_rfl) (by kernel_rfl) (by kernel_rfl) ((ref12_Mated_eq _ _ _).trans h1) (m := 0) rfl (AllP.of (l' := []) (by kernel_rfl) trivial) fun v objs' hd => ?_
  unfold ref12_Matedd at hd
  split at hd
  ·skip
   cases hd
   exact h2
  ·cases hd
 ·exact ho _ _ _ _ _ h
noncomputable def law12_MateStuckc : Ctx := mkC 23 ((ref12_Matedo (mate_Matedo (ref12_Stucko (mate_Stucko (board_Newo (ref08_Checko (law12_mates_v1o oNil)))))))) [] lpNil
theorem law12_MateStuckc_ok : CtxOK Tryz.prog law12_MateStuckc := mkC_ok ((ref12_Matedo_ok _ (mate_Matedo_ok _ (ref12_Stucko_ok _ (mate_Stucko_ok _ (board_Newo_ok _ (ref08_Checko_ok _ (law12_mates_v1o_ok _ oNil_ok))))))))
noncomputable def law12_MateStuckd : V → List Obj → Option (Bool) := fun v objs => match v, objs with
 | .s (.b y0), [] => some (y0)
 | _, _ => none
theorem law12_MateStuck_eq (x0 x1 : List Int) (x2 : Int) : fnE law12_MateStuckc Tryz.f3 ([.agg [.arr .i8 81 x0, .arr .i8 16 x1, .one [.i .i8 x2]]]) ([]) law12_MateStuckd = law12_MateStuck x0 x1 x2 := by kernel_rfl
noncomputable def law12_MateStucka {R : Type} (o : Orc) (vs : List V) (objs : List Obj) (K : Bool → V → List Obj → Option R) : Option R := match vs, objs with
 | [.agg [.arr .i8 81 x0, .arr .i8 16 x1, .one [.i .i8 x2]]], [] => ob (law12_MateStuck x0 x1 x2) fun y0 => K false (.s (.b y0)) ([])
 | _, _ => o 3 vs objs K
noncomputable def law12_MateStucko (o : Orc) : Orc := hook 3 (law12_MateStucka o) o
theorem law12_MateStuck_ok {vs : List V} {objs : List Obj} (x0 x1 : List Int) (x2 : Int) {R : Type} {K : Bool → V → List Obj → Option R} {r : R} (hv : vs = [.agg [.arr .i8 81 x0, .arr .i8 16 x1, .one [.i .i8 x2]]]) (ho : objs = []) (h : ob (law12_MateStuck x0 x1 x2) (fun y0 => K false (.s (.b y0)) ([])) = some r) :
  ∃ p v objs', K p v objs' = some r ∧ AnyOK Tryz.prog 3 vs objs p v objs' := by
 subst hv
 subst ho
 obtain ⟨t, h1, h2⟩ := ob_ok h
 refine anyOK_of mixed law12_MateStuckc_ok (fn := Tryz.f3) (b := (Tryz.f3).body.getD .skip) (by kernel_rfl) (by kernel_rfl) (by kernel_rfl) ((law12_MateStuck_eq _ _ _).trans h1) (m := 0) rfl (AllP.of (l' := []) (by kernel_rfl) trivial) fun v objs' hd => ?_
 unfold law12_MateStuckd at hd
 split at hd
 ·skip
  cases hd
  exact h2
 ·cases hd
theorem law12_MateStucko_ok (o : Orc) (ho : OSound Tryz.prog o) : OSound Tryz.prog (law12_MateStucko o) := hook_ok ho fun vs objs K r h => by
 unfold law12_MateStucka at h
 split at h
 ·skip
  obtain ⟨t, h1, h2⟩ := ob_ok h
  refine anyOK_of mixed law12_MateStuckc_ok (fn := Tryz.f3) (b := (Tryz.f3).body.getD .skip) (by kernel_rfl) (by kernel_rfl) (by kernel_rfl) ((law12_MateStuck_eq _ _ _).trans h1) (m := 0) rfl (AllP.of (l' := []) (by kernel_rfl) trivial) fun v objs' hd => ?_
  unfold law12_MateStuckd at hd
  split at hd
  ·skip
   cases hd
   exact h2
  ·cases hd
 ·exact ho _ _ _ _ _ h
end Go.Kk.KkMS
