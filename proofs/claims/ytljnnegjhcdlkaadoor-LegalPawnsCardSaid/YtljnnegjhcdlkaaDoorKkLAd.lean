/- Printed by a tool of this project (KkGen): the program's functions come to the plain ones. -/
import Derived.Test.YtljnnegjhcdlkaaDoorKkLAc
namespace Go.Kk.KkLA
open Go.Proofs Go.Kk.Pl
set_option maxRecDepth 100000
set_option maxHeartbeats 4000000
noncomputable def ref10_Alll10d : Ex → List V → List Obj → Option (Nat × Int × List Int × List Int × Int × Nat × List (List Int) × List Bool) := fun e vs objs => match e, vs, objs with
  | Ex.exit 2, [V.s (S.ptr 0 0 none 0), V.s (S.sl 1 0 y0 true), V.s (S.ptr 2 0 none 0), V.s (S.i IntKind.i64 y1)], [Obj.cells 28 [Seg.arr IntKind.i8 81 y2, Seg.arr IntKind.i8 16 y3, Seg.one [S.i IntKind.i8 y4]], Obj.sli 39 false (Seg.rows [.i .i64, .i .i64, .i .i64, .b] y5 y6), Obj.cells 78 [Seg.barr 81 y7]] => some (y0, y1, y2, y3, y4, y5, y6, y7)
  | _, _, _ => none
noncomputable def ref10_Alll6d : Ex → List V → List Obj → Option (Nat × List Int × List Int × Int × Nat × List (List Int)) := fun e vs objs => match e, vs, objs with
  | Ex.exit 0, [V.s (S.ptr 0 0 none 0), V.s (S.sl 1 0 y0 true)], [Obj.cells 28 [Seg.arr IntKind.i8 81 y1, Seg.arr IntKind.i8 16 y2, Seg.one [S.i IntKind.i8 y3]], Obj.sli 39 false (Seg.rows [.i .i64, .i .i64, .i .i64, .b] y4 y5)] => some (y0, y1, y2, y3, y4, y5)
  | _, _, _ => none
noncomputable def ref10_Alll23d : Ex → List V → List Obj → Option (Nat × Int × List Int × List Int × Int × Nat × List (List Int)) := fun e vs objs => match e, vs, objs with
  | Ex.exit 6, [V.s (S.ptr 0 0 none 0), V.s (S.sl 1 0 y0 true), V.s (S.i IntKind.i64 y1)], [Obj.cells 28 [Seg.arr IntKind.i8 81 y2, Seg.arr IntKind.i8 16 y3, Seg.one [S.i IntKind.i8 y4]], Obj.sli 39 false (Seg.rows [.i .i64, .i .i64, .i .i64, .b] y5 y6)] => some (y0, y1, y2, y3, y4, y5, y6)
  | _, _, _ => none
noncomputable def ref10_Alll20d : Ex → List V → List Obj → Option (Nat × Nat × List (List Int)) := fun e vs objs => match e, vs, objs with
  | Ex.exit 4, [V.s (S.sl 0 0 y0 true)], [Obj.sli 39 false (Seg.rows [.i .i64, .i .i64, .i .i64, .b] y1 y2)] => some (y0, y1, y2)
  | _, _, _ => none
noncomputable def ref10_Allp10 {R : Type} (vs : List V) (objs : List Obj) (K : Ex → List V → List Obj → Option R) : Option R := match vs, objs with
  | [V.s (S.ptr 0 0 none 0), V.s (S.sl 1 0 x0 true), V.s (S.ptr 2 0 none 0), V.s (S.i IntKind.i64 x1), V.s (S.i IntKind.i64 x2)], [Obj.cells 28 [Seg.arr IntKind.i8 81 x3, Seg.arr IntKind.i8 16 x4, Seg.one [S.i IntKind.i8 x5]], Obj.sli 39 false (Seg.rows [.i .i64, .i .i64, .i .i64, .b] x6 x7), Obj.cells 78 [Seg.barr 81 x8]] => ob (ref10_Alll10 many x0 x1 x2 x3 x4 x5 x6 x7 x8) fun z => K (Ex.exit 2) ([V.s (S.ptr 0 0 none 0), V.s (S.sl 1 0 (z.1) true), V.s (S.ptr 2 0 none 0), V.s (S.i IntKind.i64 (z.2.1))]) ([Obj.cells 28 [Seg.arr IntKind.i8 81 (z.2.2.1), Seg.arr IntKind.i8 16 (z.2.2.2.1), Seg.one [S.i IntKind.i8 (z.2.2.2.2.1)]], Obj.sli 39 false (Seg.rows [.i .i64, .i .i64, .i .i64, .b] (z.2.2.2.2.2.1) (z.2.2.2.2.2.2.1)), Obj.cells 78 [Seg.barr 81 (z.2.2.2.2.2.2.2)]])
  | _, _ => none
noncomputable def ref10_Allp6 {R : Type} (vs : List V) (objs : List Obj) (K : Ex → List V → List Obj → Option R) : Option R := match vs, objs with
  | [V.s (S.ptr 0 0 none 0), V.s (S.sl 1 0 x0 true), V.s (S.ptr 2 0 none 0), V.s (S.i IntKind.i64 x1)], [Obj.cells 28 [Seg.arr IntKind.i8 81 x2, Seg.arr IntKind.i8 16 x3, Seg.one [S.i IntKind.i8 x4]], Obj.sli 39 false (Seg.rows [.i .i64, .i .i64, .i .i64, .b] x5 x6), Obj.cells 78 [Seg.barr 81 x7]] => ob (ref10_Alll6 many x0 x1 x2 x3 x4 x5 x6 x7) fun z => K (Ex.exit 0) ([V.s (S.ptr 0 0 none 0), V.s (S.sl 1 0 (z.1) true)]) ([Obj.cells 28 [Seg.arr IntKind.i8 81 (z.2.1), Seg.arr IntKind.i8 16 (z.2.2.1), Seg.one [S.i IntKind.i8 (z.2.2.2.1)]], Obj.sli 39 false (Seg.rows [.i .i64, .i .i64, .i .i64, .b] (z.2.2.2.2.1) (z.2.2.2.2.2))])
  | _, _ => none
noncomputable def ref10_Allp23 {R : Type} (vs : List V) (objs : List Obj) (K : Ex → List V → List Obj → Option R) : Option R := match vs, objs with
  | [V.s (S.ptr 0 0 none 0), V.s (S.sl 1 0 x0 true), V.s (S.i IntKind.i64 x1), V.s (S.i IntKind.i64 x2)], [Obj.cells 28 [Seg.arr IntKind.i8 81 x3, Seg.arr IntKind.i8 16 x4, Seg.one [S.i IntKind.i8 x5]], Obj.sli 39 false (Seg.rows [.i .i64, .i .i64, .i .i64, .b] x6 x7)] => ob (ref10_Alll23 many x0 x1 x2 x3 x4 x5 x6 x7) fun z => K (Ex.exit 6) ([V.s (S.ptr 0 0 none 0), V.s (S.sl 1 0 (z.1) true), V.s (S.i IntKind.i64 (z.2.1))]) ([Obj.cells 28 [Seg.arr IntKind.i8 81 (z.2.2.1), Seg.arr IntKind.i8 16 (z.2.2.2.1), Seg.one [S.i IntKind.i8 (z.2.2.2.2.1)]], Obj.sli 39 false (Seg.rows [.i .i64, .i .i64, .i .i64, .b] (z.2.2.2.2.2.1) (z.2.2.2.2.2.2))])
  | _, _ => none
noncomputable def ref10_Allp20 {R : Type} (vs : List V) (objs : List Obj) (K : Ex → List V → List Obj → Option R) : Option R := match vs, objs with
  | [V.s (S.ptr 0 0 none 0), V.s (S.sl 1 0 x0 true), V.s (S.i IntKind.i64 x1)], [Obj.cells 28 [Seg.arr IntKind.i8 81 x2, Seg.arr IntKind.i8 16 x3, Seg.one [S.i IntKind.i8 x4]], Obj.sli 39 false (Seg.rows [.i .i64, .i .i64, .i .i64, .b] x5 x6)] => ob (ref10_Alll20 many x0 x1 x2 x3 x4 x5 x6) fun z => K (Ex.exit 4) ([V.s (S.sl 0 0 (z.1) true)]) ([Obj.sli 39 false (Seg.rows [.i .i64, .i .i64, .i .i64, .b] (z.2.1) (z.2.2))])
  | _, _ => none
noncomputable def ref10_Alllp : {R : Type} → Nat → List V → List Obj → (Ex → List V → List Obj → Option R) → Option R := fun q vs objs K => bif Nat.beq q 10 then ref10_Allp10 vs objs K else bif Nat.beq q 6 then ref10_Allp6 vs objs K else bif Nat.beq q 23 then ref10_Allp23 vs objs K else bif Nat.beq q 20 then ref10_Allp20 vs objs K else none
noncomputable def ref10_Allc : Ctx := mkC 98 ((ref10_Moveso (ref04_Reacheso (ref02_Sideo (ref05_Takeno oNil))))) [(6, [1, 3, 4, 5], [1, 3]), (10, [1, 3, 4, 5, 6], [1, 3, 4, 5]), (20, [1, 3, 8], [3]), (23, [1, 3, 8, 9], [1, 3, 8])] ref10_Alllp
theorem ref10_Allc_ok : CtxOK Tryd.prog ref10_Allc := mkC_ok ((ref10_Moveso_ok _ (ref04_Reacheso_ok _ (ref02_Sideo_ok _ (ref05_Takeno_ok _ oNil_ok)))))
noncomputable def ref10_Alll10r (f : Nat) (x0 : Nat) (x1 x2 : Int) (x3 x4 : List Int) (x5 : Int) (x6 : Nat) (x7 : List (List Int)) (x8 : List Bool) : Option (Nat × Int × List Int × List Int × Int × Nat × List (List Int) × List Bool) := lrun ref10_Allc 0 [1, 3, 4, 5, 6] [1, 3, 4, 5] (loopOf Tryd.f44 10) f ([V.s (S.ptr 0 0 none 0), V.s (S.sl 1 0 x0 true), V.s (S.ptr 2 0 none 0), V.s (S.i IntKind.i64 x1), V.s (S.i IntKind.i64 x2)]) ([Obj.cells 28 [Seg.arr IntKind.i8 81 x3, Seg.arr IntKind.i8 16 x4, Seg.one [S.i IntKind.i8 x5]], Obj.sli 39 false (Seg.rows [.i .i64, .i .i64, .i .i64, .b] x6 x7), Obj.cells 78 [Seg.barr 81 x8]]) ref10_Alll10d
theorem ref10_Alll10_step (f : Nat) (x0 : Nat) (x1 x2 : Int) (x3 x4 : List Int) (x5 : Int) (x6 : Nat) (x7 : List (List Int)) (x8 : List Bool) : ref10_Alll10r (f + 1) x0 x1 x2 x3 x4 x5 x6 x7 x8 = ref10_Alll10s (ref10_Alll10r f) x0 x1 x2 x3 x4 x5 x6 x7 x8 := by kernel_rfl
theorem ref10_Alll10_eq : ∀ f, ref10_Alll10r f = ref10_Alll10 f
  | 0 => rfl
  | f + 1 => by funext x0 x1 x2 x3 x4 x5 x6 x7 x8; rw [ref10_Alll10_step, ref10_Alll10_eq f]; rfl
noncomputable def ref10_Alll6r (f : Nat) (x0 : Nat) (x1 : Int) (x2 x3 : List Int) (x4 : Int) (x5 : Nat) (x6 : List (List Int)) (x7 : List Bool) : Option (Nat × List Int × List Int × Int × Nat × List (List Int)) := lrun ref10_Allc 0 [1, 3, 4, 5] [1, 3] (loopOf Tryd.f44 6) f ([V.s (S.ptr 0 0 none 0), V.s (S.sl 1 0 x0 true), V.s (S.ptr 2 0 none 0), V.s (S.i IntKind.i64 x1)]) ([Obj.cells 28 [Seg.arr IntKind.i8 81 x2, Seg.arr IntKind.i8 16 x3, Seg.one [S.i IntKind.i8 x4]], Obj.sli 39 false (Seg.rows [.i .i64, .i .i64, .i .i64, .b] x5 x6), Obj.cells 78 [Seg.barr 81 x7]]) ref10_Alll6d
theorem ref10_Alll6_step (f : Nat) (x0 : Nat) (x1 : Int) (x2 x3 : List Int) (x4 : Int) (x5 : Nat) (x6 : List (List Int)) (x7 : List Bool) : ref10_Alll6r (f + 1) x0 x1 x2 x3 x4 x5 x6 x7 = ref10_Alll6s (ref10_Alll6r f) x0 x1 x2 x3 x4 x5 x6 x7 := by kernel_rfl
theorem ref10_Alll6_eq : ∀ f, ref10_Alll6r f = ref10_Alll6 f
  | 0 => rfl
  | f + 1 => by funext x0 x1 x2 x3 x4 x5 x6 x7; rw [ref10_Alll6_step, ref10_Alll6_eq f]; rfl
noncomputable def ref10_Alll23r (f : Nat) (x0 : Nat) (x1 x2 : Int) (x3 x4 : List Int) (x5 : Int) (x6 : Nat) (x7 : List (List Int)) : Option (Nat × Int × List Int × List Int × Int × Nat × List (List Int)) := lrun ref10_Allc 0 [1, 3, 8, 9] [1, 3, 8] (loopOf Tryd.f44 23) f ([V.s (S.ptr 0 0 none 0), V.s (S.sl 1 0 x0 true), V.s (S.i IntKind.i64 x1), V.s (S.i IntKind.i64 x2)]) ([Obj.cells 28 [Seg.arr IntKind.i8 81 x3, Seg.arr IntKind.i8 16 x4, Seg.one [S.i IntKind.i8 x5]], Obj.sli 39 false (Seg.rows [.i .i64, .i .i64, .i .i64, .b] x6 x7)]) ref10_Alll23d
theorem ref10_Alll23_step (f : Nat) (x0 : Nat) (x1 x2 : Int) (x3 x4 : List Int) (x5 : Int) (x6 : Nat) (x7 : List (List Int)) : ref10_Alll23r (f + 1) x0 x1 x2 x3 x4 x5 x6 x7 = ref10_Alll23s (ref10_Alll23r f) x0 x1 x2 x3 x4 x5 x6 x7 := by kernel_rfl
theorem ref10_Alll23_eq : ∀ f, ref10_Alll23r f = ref10_Alll23 f
  | 0 => rfl
  | f + 1 => by funext x0 x1 x2 x3 x4 x5 x6 x7; rw [ref10_Alll23_step, ref10_Alll23_eq f]; rfl
noncomputable def ref10_Alll20r (f : Nat) (x0 : Nat) (x1 : Int) (x2 x3 : List Int) (x4 : Int) (x5 : Nat) (x6 : List (List Int)) : Option (Nat × Nat × List (List Int)) := lrun ref10_Allc 0 [1, 3, 8] [3] (loopOf Tryd.f44 20) f ([V.s (S.ptr 0 0 none 0), V.s (S.sl 1 0 x0 true), V.s (S.i IntKind.i64 x1)]) ([Obj.cells 28 [Seg.arr IntKind.i8 81 x2, Seg.arr IntKind.i8 16 x3, Seg.one [S.i IntKind.i8 x4]], Obj.sli 39 false (Seg.rows [.i .i64, .i .i64, .i .i64, .b] x5 x6)]) ref10_Alll20d
theorem ref10_Alll20_step (f : Nat) (x0 : Nat) (x1 : Int) (x2 x3 : List Int) (x4 : Int) (x5 : Nat) (x6 : List (List Int)) : ref10_Alll20r (f + 1) x0 x1 x2 x3 x4 x5 x6 = ref10_Alll20s (ref10_Alll20r f) x0 x1 x2 x3 x4 x5 x6 := by kernel_rfl
theorem ref10_Alll20_eq : ∀ f, ref10_Alll20r f = ref10_Alll20 f
  | 0 => rfl
  | f + 1 => by funext x0 x1 x2 x3 x4 x5 x6; rw [ref10_Alll20_step, ref10_Alll20_eq f]; rfl
theorem ref10_Alls10 : LoopSound Tryd.prog ref10_Allc 0 (loopOf Tryd.f44 10) :=
  loopSound_by mixed ref10_Allc_ok (AllP.of (l' := []) (by kernel_rfl) trivial) (q := 10) (kin := [1, 3, 4, 5, 6]) (kout := [1, 3, 4, 5]) (by kernel_rfl) (by kernel_rfl) fun vs objs K r h => by
    replace h : ref10_Allp10 vs objs K = some r := h
    unfold ref10_Allp10 at h
    split at h
    · skip
      obtain ⟨t, h1, h2⟩ := ob_ok h
      rw [← ref10_Alll10_eq] at h1
      refine ⟨_, ref10_Alll10d, t, many, h1, fun e vs' objs' hd => ?_⟩
      unfold ref10_Alll10d at hd
      split at hd
      · skip
        cases hd
        exact h2
      · cases hd
    · cases h
theorem ref10_Alls23 : LoopSound Tryd.prog ref10_Allc 0 (loopOf Tryd.f44 23) :=
  loopSound_by mixed ref10_Allc_ok (AllP.of (l' := []) (by kernel_rfl) trivial) (q := 23) (kin := [1, 3, 8, 9]) (kout := [1, 3, 8]) (by kernel_rfl) (by kernel_rfl) fun vs objs K r h => by
    replace h : ref10_Allp23 vs objs K = some r := h
    unfold ref10_Allp23 at h
    split at h
    · skip
      obtain ⟨t, h1, h2⟩ := ob_ok h
      rw [← ref10_Alll23_eq] at h1
      refine ⟨_, ref10_Alll23d, t, many, h1, fun e vs' objs' hd => ?_⟩
      unfold ref10_Alll23d at hd
      split at hd
      · skip
        cases hd
        exact h2
      · cases hd
    · cases h
theorem ref10_Alls6 : LoopSound Tryd.prog ref10_Allc 0 (loopOf Tryd.f44 6) :=
  loopSound_by mixed ref10_Allc_ok (AllP.of (l' := [loopOf Tryd.f44 10]) (by kernel_rfl) ⟨ref10_Alls10, trivial⟩) (q := 6) (kin := [1, 3, 4, 5]) (kout := [1, 3]) (by kernel_rfl) (by kernel_rfl) fun vs objs K r h => by
    replace h : ref10_Allp6 vs objs K = some r := h
    unfold ref10_Allp6 at h
    split at h
    · skip
      obtain ⟨t, h1, h2⟩ := ob_ok h
      rw [← ref10_Alll6_eq] at h1
      refine ⟨_, ref10_Alll6d, t, many, h1, fun e vs' objs' hd => ?_⟩
      unfold ref10_Alll6d at hd
      split at hd
      · skip
        cases hd
        exact h2
      · cases hd
    · cases h
theorem ref10_Alls20 : LoopSound Tryd.prog ref10_Allc 0 (loopOf Tryd.f44 20) :=
  loopSound_by mixed ref10_Allc_ok (AllP.of (l' := [loopOf Tryd.f44 23]) (by kernel_rfl) ⟨ref10_Alls23, trivial⟩) (q := 20) (kin := [1, 3, 8]) (kout := [3]) (by kernel_rfl) (by kernel_rfl) fun vs objs K r h => by
    replace h : ref10_Allp20 vs objs K = some r := h
    unfold ref10_Allp20 at h
    split at h
    · skip
      obtain ⟨t, h1, h2⟩ := ob_ok h
      rw [← ref10_Alll20_eq] at h1
      refine ⟨_, ref10_Alll20d, t, many, h1, fun e vs' objs' hd => ?_⟩
      unfold ref10_Alll20d at hd
      split at hd
      · skip
        cases hd
        exact h2
      · cases hd
    · cases h
noncomputable def ref10_Alld : V → List Obj → Option (Nat × Nat × List (List Int)) := fun v objs => match v, objs with
  | V.s (S.sl 0 0 y0 true), [Obj.sli 39 false (Seg.rows [.i .i64, .i .i64, .i .i64, .b] y1 y2)] => some (y0, y1, y2)
  | _, _ => none
theorem ref10_All_eq (x0 x1 : List Int) (x2 : Int) : fnE ref10_Allc Tryd.f44 ([V.agg [Seg.arr IntKind.i8 81 x0, Seg.arr IntKind.i8 16 x1, Seg.one [S.i IntKind.i8 x2]]]) ([]) ref10_Alld = ref10_All x0 x1 x2 := by kernel_rfl
noncomputable def ref10_Alla {R : Type} (o : Orc) (vs : List V) (objs : List Obj) (K : Bool → V → List Obj → Option R) : Option R := match vs, objs with
  | [V.agg [Seg.arr IntKind.i8 81 x0, Seg.arr IntKind.i8 16 x1, Seg.one [S.i IntKind.i8 x2]]], [] => ob (ref10_All x0 x1 x2) fun z => K false (V.s (S.sl 0 0 (z.1) true)) ([Obj.sli 39 false (Seg.rows [.i .i64, .i .i64, .i .i64, .b] (z.2.1) (z.2.2))])
  | _, _ => o 44 vs objs K
noncomputable def ref10_Allo (o : Orc) : Orc := hook 44 (ref10_Alla o) o
theorem ref10_Allo_ok (o : Orc) (ho : OSound Tryd.prog o) : OSound Tryd.prog (ref10_Allo o) := hook_ok ho fun vs objs K r h => by
  unfold ref10_Alla at h
  split at h
  · skip
    obtain ⟨t, h1, h2⟩ := ob_ok h
    refine anyOK_of mixed ref10_Allc_ok (fn := Tryd.f44) (b := (Tryd.f44).body.getD .skip) (by kernel_rfl) (by kernel_rfl) (by kernel_rfl) ((ref10_All_eq _ _ _).trans h1) (m := 0) rfl (AllP.of (l' := [loopOf Tryd.f44 6, loopOf Tryd.f44 20]) (by kernel_rfl) ⟨ref10_Alls6, ref10_Alls20, trivial⟩) fun v objs' hd => ?_
    unfold ref10_Alld at hd
    split at hd
    · skip
      cases hd
      exact h2
    · cases hd
  · exact ho _ _ _ _ _ h
noncomputable def ref09_Afterc : Ctx := mkC 82 ((ref02_Rawo (ref02_Kindo oNil))) [] lpNil
theorem ref09_Afterc_ok : CtxOK Tryd.prog ref09_Afterc := mkC_ok ((ref02_Rawo_ok _ (ref02_Kindo_ok _ oNil_ok)))
noncomputable def ref09_Afterd : V → List Obj → Option (List Int × List Int × Int) := fun v objs => match v, objs with
  | V.agg [Seg.arr IntKind.i8 81 y0, Seg.arr IntKind.i8 16 y1, Seg.one [S.i IntKind.i8 y2]], [] => some (y0, y1, y2)
  | _, _ => none
theorem ref09_After_eq (x0 x1 : List Int) (x2 x3 : Int) (x4 x5 : Int) (x6 : Bool) : fnE ref09_Afterc Tryd.f19 ([V.agg [Seg.arr IntKind.i8 81 x0, Seg.arr IntKind.i8 16 x1, Seg.one [S.i IntKind.i8 x2]], V.agg [Seg.one [S.i IntKind.i64 x3, S.i IntKind.i64 x4, S.i IntKind.i64 x5, S.b x6]]]) ([]) ref09_Afterd = ref09_After x0 x1 x2 x3 x4 x5 x6 := by kernel_rfl
noncomputable def ref09_Aftera {R : Type} (o : Orc) (vs : List V) (objs : List Obj) (K : Bool → V → List Obj → Option R) : Option R := match vs, objs with
  | [V.agg [Seg.arr IntKind.i8 81 x0, Seg.arr IntKind.i8 16 x1, Seg.one [S.i IntKind.i8 x2]], V.agg [Seg.one [S.i IntKind.i64 x3, S.i IntKind.i64 x4, S.i IntKind.i64 x5, S.b x6]]], [] => ob (ref09_After x0 x1 x2 x3 x4 x5 x6) fun z => K false (V.agg [Seg.arr IntKind.i8 81 (z.1), Seg.arr IntKind.i8 16 (z.2.1), Seg.one [S.i IntKind.i8 (z.2.2)]]) ([])
  | _, _ => o 19 vs objs K
noncomputable def ref09_Aftero (o : Orc) : Orc := hook 19 (ref09_Aftera o) o
theorem ref09_Aftero_ok (o : Orc) (ho : OSound Tryd.prog o) : OSound Tryd.prog (ref09_Aftero o) := hook_ok ho fun vs objs K r h => by
  unfold ref09_Aftera at h
  split at h
  · skip
    obtain ⟨t, h1, h2⟩ := ob_ok h
    refine anyOK_of mixed ref09_Afterc_ok (fn := Tryd.f19) (b := (Tryd.f19).body.getD .skip) (by kernel_rfl) (by kernel_rfl) (by kernel_rfl) ((ref09_After_eq _ _ _ _ _ _ _).trans h1) (m := 0) rfl (AllP.of (l' := []) (by kernel_rfl) trivial) fun v objs' hd => ?_
    unfold ref09_Afterd at hd
    split at hd
    · skip
      cases hd
      exact h2
    · cases hd
  · exact ho _ _ _ _ _ h
noncomputable def ref11_Safec : Ctx := mkC 13 ((ref08_InChecko (ref09_Aftero oNil))) [] lpNil
theorem ref11_Safec_ok : CtxOK Tryd.prog ref11_Safec := mkC_ok ((ref08_InChecko_ok _ (ref09_Aftero_ok _ oNil_ok)))
noncomputable def ref11_Safed : V → List Obj → Option (Bool) := fun v objs => match v, objs with
  | V.s (S.b y0), [] => some (y0)
  | _, _ => none
theorem ref11_Safe_eq (x0 x1 : List Int) (x2 x3 : Int) (x4 x5 : Int) (x6 : Bool) : fnE ref11_Safec Tryd.f21 ([V.agg [Seg.arr IntKind.i8 81 x0, Seg.arr IntKind.i8 16 x1, Seg.one [S.i IntKind.i8 x2]], V.agg [Seg.one [S.i IntKind.i64 x3, S.i IntKind.i64 x4, S.i IntKind.i64 x5, S.b x6]]]) ([]) ref11_Safed = ref11_Safe x0 x1 x2 x3 x4 x5 x6 := by kernel_rfl
noncomputable def ref11_Safea {R : Type} (o : Orc) (vs : List V) (objs : List Obj) (K : Bool → V → List Obj → Option R) : Option R := match vs, objs with
  | [V.agg [Seg.arr IntKind.i8 81 x0, Seg.arr IntKind.i8 16 x1, Seg.one [S.i IntKind.i8 x2]], V.agg [Seg.one [S.i IntKind.i64 x3, S.i IntKind.i64 x4, S.i IntKind.i64 x5, S.b x6]]], [] => ob (ref11_Safe x0 x1 x2 x3 x4 x5 x6) fun y0 => K false (V.s (S.b y0)) ([])
  | _, _ => o 21 vs objs K
noncomputable def ref11_Safeo (o : Orc) : Orc := hook 21 (ref11_Safea o) o
theorem ref11_Safeo_ok (o : Orc) (ho : OSound Tryd.prog o) : OSound Tryd.prog (ref11_Safeo o) := hook_ok ho fun vs objs K r h => by
  unfold ref11_Safea at h
  split at h
  · skip
    obtain ⟨t, h1, h2⟩ := ob_ok h
    refine anyOK_of mixed ref11_Safec_ok (fn := Tryd.f21) (b := (Tryd.f21).body.getD .skip) (by kernel_rfl) (by kernel_rfl) (by kernel_rfl) ((ref11_Safe_eq _ _ _ _ _ _ _).trans h1) (m := 0) rfl (AllP.of (l' := []) (by kernel_rfl) trivial) fun v objs' hd => ?_
    unfold ref11_Safed at hd
    split at hd
    · skip
      cases hd
      exact h2
    · cases hd
  · exact ho _ _ _ _ _ h
noncomputable def ref11_Stuckl3d : Ex → List V → List Obj → Option ((Bool) ⊕ (Unit)) := fun e vs objs => match e, vs, objs with
  | Ex.ret, [V.s (S.b y0)], [] => some (Sum.inl (y0))
  | Ex.exit 0, [V.s S.bad], [] => some (Sum.inr ())
  | _, _, _ => none
noncomputable def ref11_Stuckp3 {R : Type} (vs : List V) (objs : List Obj) (K : Ex → List V → List Obj → Option R) : Option R := match vs, objs with
  | [V.s (S.ptr 0 0 none 0), V.s (S.sl 1 0 x0 true), V.s (S.i IntKind.i64 x1)], [Obj.cells 28 [Seg.arr IntKind.i8 81 x2, Seg.arr IntKind.i8 16 x3, Seg.one [S.i IntKind.i8 x4]], Obj.sli 39 false (Seg.rows [.i .i64, .i .i64, .i .i64, .b] x5 x6)] => ob (ref11_Stuckl3 many x0 x1 x2 x3 x4 x5 x6) fun t0 => sw t0 (fun y0 => K (Ex.ret) ([V.s (S.b y0)]) ([])) (fun _ => K (Ex.exit 0) ([V.s S.bad]) ([]))
  | _, _ => none
noncomputable def ref11_Stucklp : {R : Type} → Nat → List V → List Obj → (Ex → List V → List Obj → Option R) → Option R := fun q vs objs K => bif Nat.beq q 3 then ref11_Stuckp3 vs objs K else none
noncomputable def ref11_Stuckc : Ctx := mkC 19 ((ref11_Safeo (ref10_Allo oNil))) [(3, [1, 3, 4], [2])] ref11_Stucklp
theorem ref11_Stuckc_ok : CtxOK Tryd.prog ref11_Stuckc := mkC_ok ((ref11_Safeo_ok _ (ref10_Allo_ok _ oNil_ok)))
noncomputable def ref11_Stuckl3r (f : Nat) (x0 : Nat) (x1 : Int) (x2 x3 : List Int) (x4 : Int) (x5 : Nat) (x6 : List (List Int)) : Option ((Bool) ⊕ (Unit)) := lrun ref11_Stuckc 0 [1, 3, 4] [2] (loopOf Tryd.f23 3) f ([V.s (S.ptr 0 0 none 0), V.s (S.sl 1 0 x0 true), V.s (S.i IntKind.i64 x1)]) ([Obj.cells 28 [Seg.arr IntKind.i8 81 x2, Seg.arr IntKind.i8 16 x3, Seg.one [S.i IntKind.i8 x4]], Obj.sli 39 false (Seg.rows [.i .i64, .i .i64, .i .i64, .b] x5 x6)]) ref11_Stuckl3d
theorem ref11_Stuckl3_step (f : Nat) (x0 : Nat) (x1 : Int) (x2 x3 : List Int) (x4 : Int) (x5 : Nat) (x6 : List (List Int)) : ref11_Stuckl3r (f + 1) x0 x1 x2 x3 x4 x5 x6 = ref11_Stuckl3s (ref11_Stuckl3r f) x0 x1 x2 x3 x4 x5 x6 := by kernel_rfl
theorem ref11_Stuckl3_eq : ∀ f, ref11_Stuckl3r f = ref11_Stuckl3 f
  | 0 => rfl
  | f + 1 => by funext x0 x1 x2 x3 x4 x5 x6; rw [ref11_Stuckl3_step, ref11_Stuckl3_eq f]; rfl
theorem ref11_Stucks3 : LoopSound Tryd.prog ref11_Stuckc 0 (loopOf Tryd.f23 3) :=
  loopSound_by mixed ref11_Stuckc_ok (AllP.of (l' := []) (by kernel_rfl) trivial) (q := 3) (kin := [1, 3, 4]) (kout := [2]) (by kernel_rfl) (by kernel_rfl) fun vs objs K r h => by
    replace h : ref11_Stuckp3 vs objs K = some r := h
    unfold ref11_Stuckp3 at h
    split at h
    · skip
      obtain ⟨t, h1, h2⟩ := ob_ok h
      rw [← ref11_Stuckl3_eq] at h1
      refine ⟨_, ref11_Stuckl3d, t, many, h1, fun e vs' objs' hd => ?_⟩
      unfold ref11_Stuckl3d at hd
      split at hd
      · skip
        cases hd
        exact h2
      · skip
        cases hd
        exact h2
      · cases hd
    · cases h
noncomputable def ref11_Stuckd : V → List Obj → Option (Bool) := fun v objs => match v, objs with
  | V.s (S.b y0), [] => some (y0)
  | _, _ => none
theorem ref11_Stuck_eq (x0 x1 : List Int) (x2 : Int) : fnE ref11_Stuckc Tryd.f23 ([V.agg [Seg.arr IntKind.i8 81 x0, Seg.arr IntKind.i8 16 x1, Seg.one [S.i IntKind.i8 x2]]]) ([]) ref11_Stuckd = ref11_Stuck x0 x1 x2 := by kernel_rfl
noncomputable def ref11_Stucka {R : Type} (o : Orc) (vs : List V) (objs : List Obj) (K : Bool → V → List Obj → Option R) : Option R := match vs, objs with
  | [V.agg [Seg.arr IntKind.i8 81 x0, Seg.arr IntKind.i8 16 x1, Seg.one [S.i IntKind.i8 x2]]], [] => ob (ref11_Stuck x0 x1 x2) fun y0 => K false (V.s (S.b y0)) ([])
  | _, _ => o 23 vs objs K
noncomputable def ref11_Stucko (o : Orc) : Orc := hook 23 (ref11_Stucka o) o
theorem ref11_Stucko_ok (o : Orc) (ho : OSound Tryd.prog o) : OSound Tryd.prog (ref11_Stucko o) := hook_ok ho fun vs objs K r h => by
  unfold ref11_Stucka at h
  split at h
  · skip
    obtain ⟨t, h1, h2⟩ := ob_ok h
    refine anyOK_of mixed ref11_Stuckc_ok (fn := Tryd.f23) (b := (Tryd.f23).body.getD .skip) (by kernel_rfl) (by kernel_rfl) (by kernel_rfl) ((ref11_Stuck_eq _ _ _).trans h1) (m := 0) rfl (AllP.of (l' := [loopOf Tryd.f23 3]) (by kernel_rfl) ⟨ref11_Stucks3, trivial⟩) fun v objs' hd => ?_
    unfold ref11_Stuckd at hd
    split at hd
    · skip
      cases hd
      exact h2
    · cases hd
  · exact ho _ _ _ _ _ h
noncomputable def law11_LegalPawnsc : Ctx := mkC 102 ((ref11_Stucko (ref08_InChecko (ref11_Safeo (ref10_Moveso (ref09_Aftero (legal_Iso (legal_PawnMateso (board_Newo (ref08_Checko (law11_allowso oNil))))))))))) [] lpNil
theorem law11_LegalPawnsc_ok : CtxOK Tryd.prog law11_LegalPawnsc := mkC_ok ((ref11_Stucko_ok _ (ref08_InChecko_ok _ (ref11_Safeo_ok _ (ref10_Moveso_ok _ (ref09_Aftero_ok _ (legal_Iso_ok _ (legal_PawnMateso_ok _ (board_Newo_ok _ (ref08_Checko_ok _ (law11_allowso_ok _ oNil_ok)))))))))))
noncomputable def law11_LegalPawnsd : V → List Obj → Option (Bool) := fun v objs => match v, objs with
  | V.s (S.b y0), [] => some (y0)
  | _, _ => none
theorem law11_LegalPawns_eq (x0 x1 : List Int) (x2 x3 : Int) : fnE law11_LegalPawnsc Tryd.f5 ([V.agg [Seg.arr IntKind.i8 81 x0, Seg.arr IntKind.i8 16 x1, Seg.one [S.i IntKind.i8 x2]], V.s (S.i IntKind.i64 x3)]) ([]) law11_LegalPawnsd = law11_LegalPawns x0 x1 x2 x3 := by kernel_rfl
noncomputable def law11_LegalPawnsa {R : Type} (o : Orc) (vs : List V) (objs : List Obj) (K : Bool → V → List Obj → Option R) : Option R := match vs, objs with
  | [V.agg [Seg.arr IntKind.i8 81 x0, Seg.arr IntKind.i8 16 x1, Seg.one [S.i IntKind.i8 x2]], V.s (S.i IntKind.i64 x3)], [] => ob (law11_LegalPawns x0 x1 x2 x3) fun y0 => K false (V.s (S.b y0)) ([])
  | _, _ => o 5 vs objs K
noncomputable def law11_LegalPawnso (o : Orc) : Orc := hook 5 (law11_LegalPawnsa o) o
theorem law11_LegalPawns_ok {vs : List V} {objs : List Obj} (x0 x1 : List Int) (x2 x3 : Int) {R : Type} {K : Bool → V → List Obj → Option R} {r : R} (hv : vs = [V.agg [Seg.arr IntKind.i8 81 x0, Seg.arr IntKind.i8 16 x1, Seg.one [S.i IntKind.i8 x2]], V.s (S.i IntKind.i64 x3)]) (ho : objs = []) (h : ob (law11_LegalPawns x0 x1 x2 x3) (fun y0 => K false (V.s (S.b y0)) ([])) = some r) :
    ∃ p v objs', K p v objs' = some r ∧ AnyOK Tryd.prog 5 vs objs p v objs' := by
  subst hv
  subst ho
  obtain ⟨t, h1, h2⟩ := ob_ok h
  refine anyOK_of mixed law11_LegalPawnsc_ok (fn := Tryd.f5) (b := (Tryd.f5).body.getD .skip) (by kernel_rfl) (by kernel_rfl) (by kernel_rfl) ((law11_LegalPawns_eq _ _ _ _).trans h1) (m := 0) rfl (AllP.of (l' := []) (by kernel_rfl) trivial) fun v objs' hd => ?_
  unfold law11_LegalPawnsd at hd
  split at hd
  · skip
    cases hd
    exact h2
  · cases hd
theorem law11_LegalPawnso_ok (o : Orc) (ho : OSound Tryd.prog o) : OSound Tryd.prog (law11_LegalPawnso o) := hook_ok ho fun vs objs K r h => by
  unfold law11_LegalPawnsa at h
  split at h
  · skip
    obtain ⟨t, h1, h2⟩ := ob_ok h
    refine anyOK_of mixed law11_LegalPawnsc_ok (fn := Tryd.f5) (b := (Tryd.f5).body.getD .skip) (by kernel_rfl) (by kernel_rfl) (by kernel_rfl) ((law11_LegalPawns_eq _ _ _ _).trans h1) (m := 0) rfl (AllP.of (l' := []) (by kernel_rfl) trivial) fun v objs' hd => ?_
    unfold law11_LegalPawnsd at hd
    split at hd
    · skip
      cases hd
      exact h2
    · cases hd
  · exact ho _ _ _ _ _ h
end Go.Kk.KkLA
