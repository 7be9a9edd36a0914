/- Printed by a tool of this project (KkGen): the program's functions come to the plain ones. -/
import Derived.Test.YtaoifdkheaagpaaDoorKkGPb
namespace Go.Kk.KkGP
open Go.Proofs Go.Kk.Pl
set_option maxRecDepth 100000
set_option maxHeartbeats 4000000
noncomputable def ref04_Betweenl6d : Ex → List V → List Obj → Option (Nat × Nat × List Int) := fun e vs objs => match e, vs, objs with
  | Ex.exit 0, [V.s (S.sl 0 0 y0 true)], [Obj.sli 3 false (Seg.arr IntKind.i64 y1 y2)] => some (y0, y1, y2)
  | _, _, _ => none
noncomputable def ref04_Betweenp6 {R : Type} (vs : List V) (objs : List Obj) (K : Ex → List V → List Obj → Option R) : Option R := match vs, objs with
  | [V.s (S.i IntKind.i64 x0), V.s (S.sl 0 0 x1 true), V.s (S.i IntKind.i64 x2), V.s (S.i IntKind.i64 x3)], [Obj.sli 3 false (Seg.arr IntKind.i64 x4 x5)] => ob (ref04_Betweenl6 many x0 x1 x2 x3 x4 x5) fun z => K (Ex.exit 0) ([V.s (S.sl 0 0 (z.1) true)]) ([Obj.sli 3 false (Seg.arr IntKind.i64 (z.2.1) (z.2.2))])
  | _, _ => none
noncomputable def ref04_Betweenlp : {R : Type} → Nat → List V → List Obj → (Ex → List V → List Obj → Option R) → Option R := fun q vs objs K => bif Nat.beq q 6 then ref04_Betweenp6 vs objs K else none
noncomputable def ref04_Betweenc : Ctx := mkC 41 ((ref04_signo (ref04_Lineo oNil))) [(6, [1, 5, 6, 7], [5])] ref04_Betweenlp
theorem ref04_Betweenc_ok : CtxOK Tryd.prog ref04_Betweenc := mkC_ok ((ref04_signo_ok _ (ref04_Lineo_ok _ oNil_ok)))
noncomputable def ref04_Betweenl6r (f : Nat) (x0 : Int) (x1 : Nat) (x2 x3 : Int) (x4 : Nat) (x5 : List Int) : Option (Nat × Nat × List Int) := lrun ref04_Betweenc 0 [1, 5, 6, 7] [5] (loopOf Tryd.f121 6) f ([V.s (S.i IntKind.i64 x0), V.s (S.sl 0 0 x1 true), V.s (S.i IntKind.i64 x2), V.s (S.i IntKind.i64 x3)]) ([Obj.sli 3 false (Seg.arr IntKind.i64 x4 x5)]) ref04_Betweenl6d
theorem ref04_Betweenl6_step (f : Nat) (x0 : Int) (x1 : Nat) (x2 x3 : Int) (x4 : Nat) (x5 : List Int) : ref04_Betweenl6r (f + 1) x0 x1 x2 x3 x4 x5 = ref04_Betweenl6s (ref04_Betweenl6r f) x0 x1 x2 x3 x4 x5 := by kernel_rfl
theorem ref04_Betweenl6_eq : ∀ f, ref04_Betweenl6r f = ref04_Betweenl6 f
  | 0 => rfl
  | f + 1 => by funext x0 x1 x2 x3 x4 x5; rw [ref04_Betweenl6_step, ref04_Betweenl6_eq f]; rfl
theorem ref04_Betweens6 : LoopSound Tryd.prog ref04_Betweenc 0 (loopOf Tryd.f121 6) :=
  loopSound_by mixed ref04_Betweenc_ok (AllP.of (l' := []) (by kernel_rfl) trivial) (q := 6) (kin := [1, 5, 6, 7]) (kout := [5]) (by kernel_rfl) (by kernel_rfl) fun vs objs K r h => by
    replace h : ref04_Betweenp6 vs objs K = some r := h
    unfold ref04_Betweenp6 at h
    split at h
    · skip
      obtain ⟨t, h1, h2⟩ := ob_ok h
      rw [← ref04_Betweenl6_eq] at h1
      refine ⟨_, ref04_Betweenl6d, t, many, h1, fun e vs' objs' hd => ?_⟩
      unfold ref04_Betweenl6d at hd
      split at hd
      · skip
        cases hd
        exact h2
      · cases hd
    · cases h
noncomputable def ref04_Betweend : V → List Obj → Option (Nat × Nat × List Int) := fun v objs => match v, objs with
  | V.s (S.sl 0 0 y0 true), [Obj.sli 3 false (Seg.arr IntKind.i64 y1 y2)] => some (y0, y1, y2)
  | _, _ => none
theorem ref04_Between_eq (x0 x1 : Int) : fnE ref04_Betweenc Tryd.f121 ([V.s (S.i IntKind.i64 x0), V.s (S.i IntKind.i64 x1)]) ([]) ref04_Betweend = ref04_Between x0 x1 := by kernel_rfl
noncomputable def ref04_Betweena {R : Type} (o : Orc) (vs : List V) (objs : List Obj) (K : Bool → V → List Obj → Option R) : Option R := match vs, objs with
  | [V.s (S.i IntKind.i64 x0), V.s (S.i IntKind.i64 x1)], [] => ob (ref04_Between x0 x1) fun z => K false (V.s (S.sl 0 0 (z.1) true)) ([Obj.sli 3 false (Seg.arr IntKind.i64 (z.2.1) (z.2.2))])
  | _, _ => o 121 vs objs K
noncomputable def ref04_Betweeno (o : Orc) : Orc := hook 121 (ref04_Betweena o) o
theorem ref04_Betweeno_ok (o : Orc) (ho : OSound Tryd.prog o) : OSound Tryd.prog (ref04_Betweeno o) := hook_ok ho fun vs objs K r h => by
  unfold ref04_Betweena at h
  split at h
  · skip
    obtain ⟨t, h1, h2⟩ := ob_ok h
    refine anyOK_of mixed ref04_Betweenc_ok (fn := Tryd.f121) (b := (Tryd.f121).body.getD .skip) (by kernel_rfl) (by kernel_rfl) (by kernel_rfl) ((ref04_Between_eq _ _).trans h1) (m := 0) rfl (AllP.of (l' := [loopOf Tryd.f121 6]) (by kernel_rfl) ⟨ref04_Betweens6, trivial⟩) fun v objs' hd => ?_
    unfold ref04_Betweend at hd
    split at hd
    · skip
      cases hd
      exact h2
    · cases hd
  · exact ho _ _ _ _ _ h
noncomputable def ref04_Freel3d : Ex → List V → List Obj → Option ((Bool) ⊕ (Unit)) := fun e vs objs => match e, vs, objs with
  | Ex.ret, [V.s (S.b y0)], [] => some (Sum.inl (y0))
  | Ex.exit 0, [V.s S.bad], [] => some (Sum.inr ())
  | _, _, _ => none
noncomputable def ref04_Freep3 {R : Type} (vs : List V) (objs : List Obj) (K : Ex → List V → List Obj → Option R) : Option R := match vs, objs with
  | [V.s (S.ptr 0 0 none 0), V.s (S.sl 1 0 x0 true), V.s (S.i IntKind.i64 x1)], [Obj.cells 71 [Seg.barr 81 x2], Obj.sli 3 false (Seg.arr IntKind.i64 x3 x4)] => ob (ref04_Freel3 many x0 x1 x2 x3 x4) fun t0 => sw t0 (fun y0 => K (Ex.ret) ([V.s (S.b y0)]) ([])) (fun _ => K (Ex.exit 0) ([V.s S.bad]) ([]))
  | _, _ => none
noncomputable def ref04_Freelp : {R : Type} → Nat → List V → List Obj → (Ex → List V → List Obj → Option R) → Option R := fun q vs objs K => bif Nat.beq q 3 then ref04_Freep3 vs objs K else none
noncomputable def ref04_Freec : Ctx := mkC 24 ((ref04_Betweeno oNil)) [(3, [5, 7, 8], [6])] ref04_Freelp
theorem ref04_Freec_ok : CtxOK Tryd.prog ref04_Freec := mkC_ok ((ref04_Betweeno_ok _ oNil_ok))
noncomputable def ref04_Freel3r (f : Nat) (x0 : Nat) (x1 : Int) (x2 : List Bool) (x3 : Nat) (x4 : List Int) : Option ((Bool) ⊕ (Unit)) := lrun ref04_Freec 0 [5, 7, 8] [6] (loopOf Tryd.f109 3) f ([V.s (S.ptr 0 0 none 0), V.s (S.sl 1 0 x0 true), V.s (S.i IntKind.i64 x1)]) ([Obj.cells 71 [Seg.barr 81 x2], Obj.sli 3 false (Seg.arr IntKind.i64 x3 x4)]) ref04_Freel3d
theorem ref04_Freel3_step (f : Nat) (x0 : Nat) (x1 : Int) (x2 : List Bool) (x3 : Nat) (x4 : List Int) : ref04_Freel3r (f + 1) x0 x1 x2 x3 x4 = ref04_Freel3s (ref04_Freel3r f) x0 x1 x2 x3 x4 := by kernel_rfl
theorem ref04_Freel3_eq : ∀ f, ref04_Freel3r f = ref04_Freel3 f
  | 0 => rfl
  | f + 1 => by funext x0 x1 x2 x3 x4; rw [ref04_Freel3_step, ref04_Freel3_eq f]; rfl
theorem ref04_Frees3 : LoopSound Tryd.prog ref04_Freec 0 (loopOf Tryd.f109 3) :=
  loopSound_by mixed ref04_Freec_ok (AllP.of (l' := []) (by kernel_rfl) trivial) (q := 3) (kin := [5, 7, 8]) (kout := [6]) (by kernel_rfl) (by kernel_rfl) fun vs objs K r h => by
    replace h : ref04_Freep3 vs objs K = some r := h
    unfold ref04_Freep3 at h
    split at h
    · skip
      obtain ⟨t, h1, h2⟩ := ob_ok h
      rw [← ref04_Freel3_eq] at h1
      refine ⟨_, ref04_Freel3d, t, many, h1, fun e vs' objs' hd => ?_⟩
      unfold ref04_Freel3d at hd
      split at hd
      · skip
        cases hd
        exact h2
      · skip
        cases hd
        exact h2
      · cases hd
    · cases h
noncomputable def ref04_Freed : V → List Obj → Option (Bool) := fun v objs => match v, objs with
  | V.s (S.b y0), [] => some (y0)
  | _, _ => none
theorem ref04_Free_eq (x0 x1 : Int) (x2 : List Bool) : fnE ref04_Freec Tryd.f109 ([V.s (S.i IntKind.i64 x0), V.s (S.i IntKind.i64 x1), V.agg [Seg.barr 81 x2]]) ([]) ref04_Freed = ref04_Free x0 x1 x2 := by kernel_rfl
noncomputable def ref04_Freea {R : Type} (o : Orc) (vs : List V) (objs : List Obj) (K : Bool → V → List Obj → Option R) : Option R := match vs, objs with
  | [V.s (S.i IntKind.i64 x0), V.s (S.i IntKind.i64 x1), V.agg [Seg.barr 81 x2]], [] => ob (ref04_Free x0 x1 x2) fun y0 => K false (V.s (S.b y0)) ([])
  | _, _ => o 109 vs objs K
noncomputable def ref04_Freeo (o : Orc) : Orc := hook 109 (ref04_Freea o) o
theorem ref04_Freeo_ok (o : Orc) (ho : OSound Tryd.prog o) : OSound Tryd.prog (ref04_Freeo o) := hook_ok ho fun vs objs K r h => by
  unfold ref04_Freea at h
  split at h
  · skip
    obtain ⟨t, h1, h2⟩ := ob_ok h
    refine anyOK_of mixed ref04_Freec_ok (fn := Tryd.f109) (b := (Tryd.f109).body.getD .skip) (by kernel_rfl) (by kernel_rfl) (by kernel_rfl) ((ref04_Free_eq _ _ _).trans h1) (m := 0) rfl (AllP.of (l' := [loopOf Tryd.f109 3]) (by kernel_rfl) ⟨ref04_Frees3, trivial⟩) fun v objs' hd => ?_
    unfold ref04_Freed at hd
    split at hd
    · skip
      cases hd
      exact h2
    · cases hd
  · exact ho _ _ _ _ _ h
noncomputable def ref04_Reachesc : Ctx := mkC 63 ((ref04_Freeo (ref02_Kindo (ref02_Sideo (ref04_Lineo (ref03_Stepo oNil)))))) [] lpNil
theorem ref04_Reachesc_ok : CtxOK Tryd.prog ref04_Reachesc := mkC_ok ((ref04_Freeo_ok _ (ref02_Kindo_ok _ (ref02_Sideo_ok _ (ref04_Lineo_ok _ (ref03_Stepo_ok _ oNil_ok))))))
noncomputable def ref04_Reachesd : V → List Obj → Option (Bool) := fun v objs => match v, objs with
  | V.s (S.b y0), [] => some (y0)
  | _, _ => none
theorem ref04_Reaches_eq (x0 x1 x2 : Int) (x3 : List Bool) : fnE ref04_Reachesc Tryd.f73 ([V.s (S.i IntKind.i64 x0), V.s (S.i IntKind.i64 x1), V.s (S.i IntKind.i64 x2), V.agg [Seg.barr 81 x3]]) ([]) ref04_Reachesd = ref04_Reaches x0 x1 x2 x3 := by kernel_rfl
noncomputable def ref04_Reachesa {R : Type} (o : Orc) (vs : List V) (objs : List Obj) (K : Bool → V → List Obj → Option R) : Option R := match vs, objs with
  | [V.s (S.i IntKind.i64 x0), V.s (S.i IntKind.i64 x1), V.s (S.i IntKind.i64 x2), V.agg [Seg.barr 81 x3]], [] => ob (ref04_Reaches x0 x1 x2 x3) fun y0 => K false (V.s (S.b y0)) ([])
  | _, _ => o 73 vs objs K
noncomputable def ref04_Reacheso (o : Orc) : Orc := hook 73 (ref04_Reachesa o) o
theorem ref04_Reacheso_ok (o : Orc) (ho : OSound Tryd.prog o) : OSound Tryd.prog (ref04_Reacheso o) := hook_ok ho fun vs objs K r h => by
  unfold ref04_Reachesa at h
  split at h
  · skip
    obtain ⟨t, h1, h2⟩ := ob_ok h
    refine anyOK_of mixed ref04_Reachesc_ok (fn := Tryd.f73) (b := (Tryd.f73).body.getD .skip) (by kernel_rfl) (by kernel_rfl) (by kernel_rfl) ((ref04_Reaches_eq _ _ _ _).trans h1) (m := 0) rfl (AllP.of (l' := []) (by kernel_rfl) trivial) fun v objs' hd => ?_
    unfold ref04_Reachesd at hd
    split at hd
    · skip
      cases hd
      exact h2
    · cases hd
  · exact ho _ _ _ _ _ h
noncomputable def ref08_Onl5d : Ex → List V → List Obj → Option (Nat × Nat × List Int) := fun e vs objs => match e, vs, objs with
  | Ex.exit 0, [V.s (S.sl 0 0 y0 true)], [Obj.sli 3 false (Seg.arr IntKind.i64 y1 y2)] => some (y0, y1, y2)
  | _, _, _ => none
noncomputable def ref08_Onp5 {R : Type} (vs : List V) (objs : List Obj) (K : Ex → List V → List Obj → Option R) : Option R := match vs, objs with
  | [V.s (S.i IntKind.i64 x0), V.s (S.i IntKind.i64 x1), V.s (S.ptr 0 0 none 0), V.s (S.ptr 1 0 none 0), V.s (S.sl 2 0 x2 true), V.s (S.i IntKind.i64 x3)], [Obj.cells 28 [Seg.arr IntKind.i8 81 x4, Seg.arr IntKind.i8 16 x5, Seg.one [S.i IntKind.i8 x6]], Obj.cells 71 [Seg.barr 81 x7], Obj.sli 3 false (Seg.arr IntKind.i64 x8 x9)] => ob (ref08_Onl5 many x0 x1 x2 x3 x4 x5 x6 x7 x8 x9) fun z => K (Ex.exit 0) ([V.s (S.sl 0 0 (z.1) true)]) ([Obj.sli 3 false (Seg.arr IntKind.i64 (z.2.1) (z.2.2))])
  | _, _ => none
noncomputable def ref08_Onlp : {R : Type} → Nat → List V → List Obj → (Ex → List V → List Obj → Option R) → Option R := fun q vs objs K => bif Nat.beq q 5 then ref08_Onp5 vs objs K else none
noncomputable def ref08_Onc : Ctx := mkC 46 ((ref04_Reacheso (ref02_Sideo oNil))) [(5, [1, 2, 4, 7, 9, 10], [9])] ref08_Onlp
theorem ref08_Onc_ok : CtxOK Tryd.prog ref08_Onc := mkC_ok ((ref04_Reacheso_ok _ (ref02_Sideo_ok _ oNil_ok)))
noncomputable def ref08_Onl5r (f : Nat) (x0 x1 : Int) (x2 : Nat) (x3 : Int) (x4 x5 : List Int) (x6 : Int) (x7 : List Bool) (x8 : Nat) (x9 : List Int) : Option (Nat × Nat × List Int) := lrun ref08_Onc 0 [1, 2, 4, 7, 9, 10] [9] (loopOf Tryd.f44 5) f ([V.s (S.i IntKind.i64 x0), V.s (S.i IntKind.i64 x1), V.s (S.ptr 0 0 none 0), V.s (S.ptr 1 0 none 0), V.s (S.sl 2 0 x2 true), V.s (S.i IntKind.i64 x3)]) ([Obj.cells 28 [Seg.arr IntKind.i8 81 x4, Seg.arr IntKind.i8 16 x5, Seg.one [S.i IntKind.i8 x6]], Obj.cells 71 [Seg.barr 81 x7], Obj.sli 3 false (Seg.arr IntKind.i64 x8 x9)]) ref08_Onl5d
theorem ref08_Onl5_step (f : Nat) (x0 x1 : Int) (x2 : Nat) (x3 : Int) (x4 x5 : List Int) (x6 : Int) (x7 : List Bool) (x8 : Nat) (x9 : List Int) : ref08_Onl5r (f + 1) x0 x1 x2 x3 x4 x5 x6 x7 x8 x9 = ref08_Onl5s (ref08_Onl5r f) x0 x1 x2 x3 x4 x5 x6 x7 x8 x9 := by kernel_rfl
theorem ref08_Onl5_eq : ∀ f, ref08_Onl5r f = ref08_Onl5 f
  | 0 => rfl
  | f + 1 => by funext x0 x1 x2 x3 x4 x5 x6 x7 x8 x9; rw [ref08_Onl5_step, ref08_Onl5_eq f]; rfl
theorem ref08_Ons5 : LoopSound Tryd.prog ref08_Onc 0 (loopOf Tryd.f44 5) :=
  loopSound_by mixed ref08_Onc_ok (AllP.of (l' := []) (by kernel_rfl) trivial) (q := 5) (kin := [1, 2, 4, 7, 9, 10]) (kout := [9]) (by kernel_rfl) (by kernel_rfl) fun vs objs K r h => by
    replace h : ref08_Onp5 vs objs K = some r := h
    unfold ref08_Onp5 at h
    split at h
    · skip
      obtain ⟨t, h1, h2⟩ := ob_ok h
      rw [← ref08_Onl5_eq] at h1
      refine ⟨_, ref08_Onl5d, t, many, h1, fun e vs' objs' hd => ?_⟩
      unfold ref08_Onl5d at hd
      split at hd
      · skip
        cases hd
        exact h2
      · cases hd
    · cases h
noncomputable def ref08_Ond : V → List Obj → Option (Nat × Nat × List Int) := fun v objs => match v, objs with
  | V.s (S.sl 0 0 y0 true), [Obj.sli 3 false (Seg.arr IntKind.i64 y1 y2)] => some (y0, y1, y2)
  | _, _ => none
theorem ref08_On_eq (x0 x1 : List Int) (x2 x3 x4 : Int) (x5 : List Bool) : fnE ref08_Onc Tryd.f44 ([V.agg [Seg.arr IntKind.i8 81 x0, Seg.arr IntKind.i8 16 x1, Seg.one [S.i IntKind.i8 x2]], V.s (S.i IntKind.i64 x3), V.s (S.i IntKind.i64 x4), V.agg [Seg.barr 81 x5]]) ([]) ref08_Ond = ref08_On x0 x1 x2 x3 x4 x5 := by kernel_rfl
noncomputable def ref08_Ona {R : Type} (o : Orc) (vs : List V) (objs : List Obj) (K : Bool → V → List Obj → Option R) : Option R := match vs, objs with
  | [V.agg [Seg.arr IntKind.i8 81 x0, Seg.arr IntKind.i8 16 x1, Seg.one [S.i IntKind.i8 x2]], V.s (S.i IntKind.i64 x3), V.s (S.i IntKind.i64 x4), V.agg [Seg.barr 81 x5]], [] => ob (ref08_On x0 x1 x2 x3 x4 x5) fun z => K false (V.s (S.sl 0 0 (z.1) true)) ([Obj.sli 3 false (Seg.arr IntKind.i64 (z.2.1) (z.2.2))])
  | _, _ => o 44 vs objs K
noncomputable def ref08_Ono (o : Orc) : Orc := hook 44 (ref08_Ona o) o
theorem ref08_Ono_ok (o : Orc) (ho : OSound Tryd.prog o) : OSound Tryd.prog (ref08_Ono o) := hook_ok ho fun vs objs K r h => by
  unfold ref08_Ona at h
  split at h
  · skip
    obtain ⟨t, h1, h2⟩ := ob_ok h
    refine anyOK_of mixed ref08_Onc_ok (fn := Tryd.f44) (b := (Tryd.f44).body.getD .skip) (by kernel_rfl) (by kernel_rfl) (by kernel_rfl) ((ref08_On_eq _ _ _ _ _ _).trans h1) (m := 0) rfl (AllP.of (l' := [loopOf Tryd.f44 5]) (by kernel_rfl) ⟨ref08_Ons5, trivial⟩) fun v objs' hd => ?_
    unfold ref08_Ond at hd
    split at hd
    · skip
      cases hd
      exact h2
    · cases hd
  · exact ho _ _ _ _ _ h
noncomputable def law08_AttackPinsl25d : Ex → List V → List Obj → Option ((Int × Bool × Int × Int × List Int × List Int × Int × List (List Int × List Int) × Int × Int) ⊕ (Int × Int × Int × List Int × List Int × Int × List (List Int × List Int) × Int × Int)) := fun e vs objs => match e, vs, objs with
  | Ex.ret, [V.s (S.i IntKind.i64 y0), V.s (S.ptr 0 0 none 0), V.s (S.b y1), V.s (S.mp 1), V.s (S.i IntKind.i64 y2), V.s (S.ptr 2 0 none 0), V.s (S.i IntKind.i64 y3)], [Obj.cells 28 [Seg.arr IntKind.i8 81 y4, Seg.arr IntKind.i8 16 y5, Seg.one [S.i IntKind.i8 y6]], Obj.map false true [.i .i64] [.i .u64, .i .u64] y7, Obj.cells 57 [Seg.one [S.i IntKind.u64 y8, S.i IntKind.u64 y9]]] => some (Sum.inl (y0, y1, y2, y3, y4, y5, y6, y7, y8, y9))
  | Ex.exit 2, [V.s (S.i IntKind.i64 y0), V.s (S.ptr 0 0 none 0), V.s S.bad, V.s (S.mp 1), V.s (S.i IntKind.i64 y1), V.s (S.ptr 2 0 none 0), V.s (S.i IntKind.i64 y2)], [Obj.cells 28 [Seg.arr IntKind.i8 81 y3, Seg.arr IntKind.i8 16 y4, Seg.one [S.i IntKind.i8 y5]], Obj.map false true [.i .i64] [.i .u64, .i .u64] y6, Obj.cells 57 [Seg.one [S.i IntKind.u64 y7, S.i IntKind.u64 y8]]] => some (Sum.inr (y0, y1, y2, y3, y4, y5, y6, y7, y8))
  | _, _, _ => none
noncomputable def law08_AttackPinsl10d : Ex → List V → List Obj → Option ((Bool) ⊕ (Unit)) := fun e vs objs => match e, vs, objs with
  | Ex.ret, [V.s (S.b y0)], [] => some (Sum.inl (y0))
  | Ex.exit 0, [V.s S.bad], [] => some (Sum.inr ())
  | _, _, _ => none
noncomputable def law08_AttackPinsp25 {R : Type} (vs : List V) (objs : List Obj) (K : Ex → List V → List Obj → Option R) : Option R := match vs, objs with
  | [V.s (S.i IntKind.i64 x0), V.s (S.ptr 0 0 none 0), V.s (S.mp 1), V.s (S.i IntKind.i64 x1), V.s (S.ptr 2 0 none 0), V.s (S.i IntKind.i64 x2), V.s (S.i IntKind.i8 x3), V.s (S.ptr 3 0 none 0), V.s (S.ptr 4 0 none 0), V.s (S.ptr 5 0 none 0), V.s (S.i IntKind.i64 x4)], [Obj.cells 28 [Seg.arr IntKind.i8 81 x5, Seg.arr IntKind.i8 16 x6, Seg.one [S.i IntKind.i8 x7]], Obj.map false true [.i .i64] [.i .u64, .i .u64] x8, Obj.cells 57 [Seg.one [S.i IntKind.u64 x9, S.i IntKind.u64 x10]], Obj.cells 28 [Seg.arr IntKind.i8 81 x11, Seg.arr IntKind.i8 16 x12, Seg.one [S.i IntKind.i8 x13]], Obj.cells 57 [Seg.one [S.i IntKind.u64 x14, S.i IntKind.u64 x15]], Obj.cells 57 [Seg.one [S.i IntKind.u64 x16, S.i IntKind.u64 x17]]] => ob (law08_AttackPinsl25 many x0 x1 x2 x3 x4 x5 x6 x7 x8 x9 x10 x11 x12 x13 x14 x15 x16 x17) fun t0 => sw t0 (fun z => K (Ex.ret) ([V.s (S.i IntKind.i64 (z.1)), V.s (S.ptr 0 0 none 0), V.s (S.b (z.2.1)), V.s (S.mp 1), V.s (S.i IntKind.i64 (z.2.2.1)), V.s (S.ptr 2 0 none 0), V.s (S.i IntKind.i64 (z.2.2.2.1))]) ([Obj.cells 28 [Seg.arr IntKind.i8 81 (z.2.2.2.2.1), Seg.arr IntKind.i8 16 (z.2.2.2.2.2.1), Seg.one [S.i IntKind.i8 (z.2.2.2.2.2.2.1)]], Obj.map false true [.i .i64] [.i .u64, .i .u64] (z.2.2.2.2.2.2.2.1), Obj.cells 57 [Seg.one [S.i IntKind.u64 (z.2.2.2.2.2.2.2.2.1), S.i IntKind.u64 (z.2.2.2.2.2.2.2.2.2)]]])) (fun z => K (Ex.exit 2) ([V.s (S.i IntKind.i64 (z.1)), V.s (S.ptr 0 0 none 0), V.s S.bad, V.s (S.mp 1), V.s (S.i IntKind.i64 (z.2.1)), V.s (S.ptr 2 0 none 0), V.s (S.i IntKind.i64 (z.2.2.1))]) ([Obj.cells 28 [Seg.arr IntKind.i8 81 (z.2.2.2.1), Seg.arr IntKind.i8 16 (z.2.2.2.2.1), Seg.one [S.i IntKind.i8 (z.2.2.2.2.2.1)]], Obj.map false true [.i .i64] [.i .u64, .i .u64] (z.2.2.2.2.2.2.1), Obj.cells 57 [Seg.one [S.i IntKind.u64 (z.2.2.2.2.2.2.2.1), S.i IntKind.u64 (z.2.2.2.2.2.2.2.2)]]]))
  | _, _ => none
noncomputable def law08_AttackPinsp10 {R : Type} (vs : List V) (objs : List Obj) (K : Ex → List V → List Obj → Option R) : Option R := match vs, objs with
  | [V.s (S.i IntKind.i64 x0), V.s (S.ptr 0 0 none 0), V.s (S.mp 1), V.s (S.i IntKind.i64 x1), V.s (S.ptr 2 0 none 0), V.s (S.i IntKind.i64 x2)], [Obj.cells 28 [Seg.arr IntKind.i8 81 x3, Seg.arr IntKind.i8 16 x4, Seg.one [S.i IntKind.i8 x5]], Obj.map false true [.i .i64] [.i .u64, .i .u64] x6, Obj.cells 57 [Seg.one [S.i IntKind.u64 x7, S.i IntKind.u64 x8]]] => ob (law08_AttackPinsl10 many x0 x1 x2 x3 x4 x5 x6 x7 x8) fun t0 => sw t0 (fun y0 => K (Ex.ret) ([V.s (S.b y0)]) ([])) (fun _ => K (Ex.exit 0) ([V.s S.bad]) ([]))
  | _, _ => none
noncomputable def law08_AttackPinslp : {R : Type} → Nat → List V → List Obj → (Ex → List V → List Obj → Option R) → Option R := fun q vs objs K => bif Nat.beq q 25 then law08_AttackPinsp25 vs objs K else bif Nat.beq q 10 then law08_AttackPinsp10 vs objs K else none
noncomputable def law08_AttackPinsc : Ctx := mkC 141 ((set_Ando (set_Haso (set_Counto (set_Emptyo (set_Minuso (set_Ofo (ref08_Ono (ref05_Takeno (ref02_Sideo (attack_Checkerso (ref08_Kingo (attack_Pinned_v2o (board_Newo (ref05_Checko (law08_attackso oNil)))))))))))))))) [(10, [1, 2, 6, 7, 8, 9], [4]), (25, [1, 2, 6, 7, 8, 9, 10, 13, 14, 15, 17], [1, 2, 4, 6, 7, 8, 9])] law08_AttackPinslp
theorem law08_AttackPinsc_ok : CtxOK Tryd.prog law08_AttackPinsc := mkC_ok ((set_Ando_ok _ (set_Haso_ok _ (set_Counto_ok _ (set_Emptyo_ok _ (set_Minuso_ok _ (set_Ofo_ok _ (ref08_Ono_ok _ (ref05_Takeno_ok _ (ref02_Sideo_ok _ (attack_Checkerso_ok _ (ref08_Kingo_ok _ (attack_Pinned_v2o_ok _ (board_Newo_ok _ (ref05_Checko_ok _ (law08_attackso_ok _ oNil_ok))))))))))))))))
noncomputable def law08_AttackPinsl25r (f : Nat) (x0 x1 : Int) (x2 x3 x4 : Int) (x5 x6 : List Int) (x7 : Int) (x8 : List (List Int × List Int)) (x9 x10 : Int) (x11 x12 : List Int) (x13 x14 : Int) (x15 x16 x17 : Int) : Option ((Int × Bool × Int × Int × List Int × List Int × Int × List (List Int × List Int) × Int × Int) ⊕ (Int × Int × Int × List Int × List Int × Int × List (List Int × List Int) × Int × Int)) := lrun law08_AttackPinsc 0 [1, 2, 6, 7, 8, 9, 10, 13, 14, 15, 17] [1, 2, 4, 6, 7, 8, 9] (loopOf Tryd.f11 25) f ([V.s (S.i IntKind.i64 x0), V.s (S.ptr 0 0 none 0), V.s (S.mp 1), V.s (S.i IntKind.i64 x1), V.s (S.ptr 2 0 none 0), V.s (S.i IntKind.i64 x2), V.s (S.i IntKind.i8 x3), V.s (S.ptr 3 0 none 0), V.s (S.ptr 4 0 none 0), V.s (S.ptr 5 0 none 0), V.s (S.i IntKind.i64 x4)]) ([Obj.cells 28 [Seg.arr IntKind.i8 81 x5, Seg.arr IntKind.i8 16 x6, Seg.one [S.i IntKind.i8 x7]], Obj.map false true [.i .i64] [.i .u64, .i .u64] x8, Obj.cells 57 [Seg.one [S.i IntKind.u64 x9, S.i IntKind.u64 x10]], Obj.cells 28 [Seg.arr IntKind.i8 81 x11, Seg.arr IntKind.i8 16 x12, Seg.one [S.i IntKind.i8 x13]], Obj.cells 57 [Seg.one [S.i IntKind.u64 x14, S.i IntKind.u64 x15]], Obj.cells 57 [Seg.one [S.i IntKind.u64 x16, S.i IntKind.u64 x17]]]) law08_AttackPinsl25d
theorem law08_AttackPinsl25_step (f : Nat) (x0 x1 : Int) (x2 x3 x4 : Int) (x5 x6 : List Int) (x7 : Int) (x8 : List (List Int × List Int)) (x9 x10 : Int) (x11 x12 : List Int) (x13 x14 : Int) (x15 x16 x17 : Int) : law08_AttackPinsl25r (f + 1) x0 x1 x2 x3 x4 x5 x6 x7 x8 x9 x10 x11 x12 x13 x14 x15 x16 x17 = law08_AttackPinsl25s (law08_AttackPinsl25r f) x0 x1 x2 x3 x4 x5 x6 x7 x8 x9 x10 x11 x12 x13 x14 x15 x16 x17 := by kernel_rfl
theorem law08_AttackPinsl25_eq : ∀ f, law08_AttackPinsl25r f = law08_AttackPinsl25 f
  | 0 => rfl
  | f + 1 => by funext x0 x1 x2 x3 x4 x5 x6 x7 x8 x9 x10 x11 x12 x13 x14 x15 x16 x17; rw [law08_AttackPinsl25_step, law08_AttackPinsl25_eq f]; rfl
noncomputable def law08_AttackPinsl10r (f : Nat) (x0 x1 x2 : Int) (x3 x4 : List Int) (x5 : Int) (x6 : List (List Int × List Int)) (x7 x8 : Int) : Option ((Bool) ⊕ (Unit)) := lrun law08_AttackPinsc 0 [1, 2, 6, 7, 8, 9] [4] (loopOf Tryd.f11 10) f ([V.s (S.i IntKind.i64 x0), V.s (S.ptr 0 0 none 0), V.s (S.mp 1), V.s (S.i IntKind.i64 x1), V.s (S.ptr 2 0 none 0), V.s (S.i IntKind.i64 x2)]) ([Obj.cells 28 [Seg.arr IntKind.i8 81 x3, Seg.arr IntKind.i8 16 x4, Seg.one [S.i IntKind.i8 x5]], Obj.map false true [.i .i64] [.i .u64, .i .u64] x6, Obj.cells 57 [Seg.one [S.i IntKind.u64 x7, S.i IntKind.u64 x8]]]) law08_AttackPinsl10d
theorem law08_AttackPinsl10_step (f : Nat) (x0 x1 x2 : Int) (x3 x4 : List Int) (x5 : Int) (x6 : List (List Int × List Int)) (x7 x8 : Int) : law08_AttackPinsl10r (f + 1) x0 x1 x2 x3 x4 x5 x6 x7 x8 = law08_AttackPinsl10s (law08_AttackPinsl10r f) x0 x1 x2 x3 x4 x5 x6 x7 x8 := by kernel_rfl
theorem law08_AttackPinsl10_eq : ∀ f, law08_AttackPinsl10r f = law08_AttackPinsl10 f
  | 0 => rfl
  | f + 1 => by funext x0 x1 x2 x3 x4 x5 x6 x7 x8; rw [law08_AttackPinsl10_step, law08_AttackPinsl10_eq f]; rfl
theorem law08_AttackPinss25 : LoopSound Tryd.prog law08_AttackPinsc 0 (loopOf Tryd.f11 25) :=
  loopSound_by mixed law08_AttackPinsc_ok (AllP.of (l' := []) (by kernel_rfl) trivial) (q := 25) (kin := [1, 2, 6, 7, 8, 9, 10, 13, 14, 15, 17]) (kout := [1, 2, 4, 6, 7, 8, 9]) (by kernel_rfl) (by kernel_rfl) fun vs objs K r h => by
    replace h : law08_AttackPinsp25 vs objs K = some r := h
    unfold law08_AttackPinsp25 at h
    split at h
    · skip
      obtain ⟨t, h1, h2⟩ := ob_ok h
      rw [← law08_AttackPinsl25_eq] at h1
      refine ⟨_, law08_AttackPinsl25d, t, many, h1, fun e vs' objs' hd => ?_⟩
      unfold law08_AttackPinsl25d at hd
      split at hd
      · skip
        cases hd
        exact h2
      · skip
        cases hd
        exact h2
      · cases hd
    · cases h
theorem law08_AttackPinss10 : LoopSound Tryd.prog law08_AttackPinsc 0 (loopOf Tryd.f11 10) :=
  loopSound_by mixed law08_AttackPinsc_ok (AllP.of (l' := [loopOf Tryd.f11 25]) (by kernel_rfl) ⟨law08_AttackPinss25, trivial⟩) (q := 10) (kin := [1, 2, 6, 7, 8, 9]) (kout := [4]) (by kernel_rfl) (by kernel_rfl) fun vs objs K r h => by
    replace h : law08_AttackPinsp10 vs objs K = some r := h
    unfold law08_AttackPinsp10 at h
    split at h
    · skip
      obtain ⟨t, h1, h2⟩ := ob_ok h
      rw [← law08_AttackPinsl10_eq] at h1
      refine ⟨_, law08_AttackPinsl10d, t, many, h1, fun e vs' objs' hd => ?_⟩
      unfold law08_AttackPinsl10d at hd
      split at hd
      · skip
        cases hd
        exact h2
      · skip
        cases hd
        exact h2
      · cases hd
    · cases h
noncomputable def law08_AttackPinsd : V → List Obj → Option (Bool) := fun v objs => match v, objs with
  | V.s (S.b y0), [] => some (y0)
  | _, _ => none
theorem law08_AttackPins_eq (x0 x1 : List Int) (x2 x3 : Int) : fnE law08_AttackPinsc Tryd.f11 ([V.agg [Seg.arr IntKind.i8 81 x0, Seg.arr IntKind.i8 16 x1, Seg.one [S.i IntKind.i8 x2]], V.s (S.i IntKind.i64 x3)]) ([]) law08_AttackPinsd = law08_AttackPins x0 x1 x2 x3 := by kernel_rfl
noncomputable def law08_AttackPinsa {R : Type} (o : Orc) (vs : List V) (objs : List Obj) (K : Bool → V → List Obj → Option R) : Option R := match vs, objs with
  | [V.agg [Seg.arr IntKind.i8 81 x0, Seg.arr IntKind.i8 16 x1, Seg.one [S.i IntKind.i8 x2]], V.s (S.i IntKind.i64 x3)], [] => ob (law08_AttackPins x0 x1 x2 x3) fun y0 => K false (V.s (S.b y0)) ([])
  | _, _ => o 11 vs objs K
noncomputable def law08_AttackPinso (o : Orc) : Orc := hook 11 (law08_AttackPinsa o) o
theorem law08_AttackPins_ok {vs : List V} {objs : List Obj} (x0 x1 : List Int) (x2 x3 : Int) {R : Type} {K : Bool → V → List Obj → Option R} {r : R} (hv : vs = [V.agg [Seg.arr IntKind.i8 81 x0, Seg.arr IntKind.i8 16 x1, Seg.one [S.i IntKind.i8 x2]], V.s (S.i IntKind.i64 x3)]) (ho : objs = []) (h : ob (law08_AttackPins x0 x1 x2 x3) (fun y0 => K false (V.s (S.b y0)) ([])) = some r) :
    ∃ p v objs', K p v objs' = some r ∧ AnyOK Tryd.prog 11 vs objs p v objs' := by
  subst hv
  subst ho
  obtain ⟨t, h1, h2⟩ := ob_ok h
  refine anyOK_of mixed law08_AttackPinsc_ok (fn := Tryd.f11) (b := (Tryd.f11).body.getD .skip) (by kernel_rfl) (by kernel_rfl) (by kernel_rfl) ((law08_AttackPins_eq _ _ _ _).trans h1) (m := 0) rfl (AllP.of (l' := [loopOf Tryd.f11 10]) (by kernel_rfl) ⟨law08_AttackPinss10, trivial⟩) fun v objs' hd => ?_
  unfold law08_AttackPinsd at hd
  split at hd
  · skip
    cases hd
    exact h2
  · cases hd
theorem law08_AttackPinso_ok (o : Orc) (ho : OSound Tryd.prog o) : OSound Tryd.prog (law08_AttackPinso o) := hook_ok ho fun vs objs K r h => by
  unfold law08_AttackPinsa at h
  split at h
  · skip
    obtain ⟨t, h1, h2⟩ := ob_ok h
    refine anyOK_of mixed law08_AttackPinsc_ok (fn := Tryd.f11) (b := (Tryd.f11).body.getD .skip) (by kernel_rfl) (by kernel_rfl) (by kernel_rfl) ((law08_AttackPins_eq _ _ _ _).trans h1) (m := 0) rfl (AllP.of (l' := [loopOf Tryd.f11 10]) (by kernel_rfl) ⟨law08_AttackPinss10, trivial⟩) fun v objs' hd => ?_
    unfold law08_AttackPinsd at hd
    split at hd
    · skip
      cases hd
      exact h2
    · cases hd
  · exact ho _ _ _ _ _ h
end Go.Kk.KkGP
