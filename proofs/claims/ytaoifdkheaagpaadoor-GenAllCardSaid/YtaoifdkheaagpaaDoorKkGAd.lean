/- Printed by a tool of this project (KkGen): the program's functions come to the plain ones. -/
import Derived.Test.YtaoifdkheaagpaaDoorKkGAc
namespace Go.Kk.KkGA
open Go.Proofs Go.Kk.Pl
set_option maxRecDepth 100000
set_option maxHeartbeats 4000000

noncomputable def ref10_Movesc : Ctx := mkC 70 ((ref10_Musto (ref10_Mayo (ref04_Reacheso (ref05_Takeno (ref05_Ono (ref03_Deado (ref09_Cano oNil)))))))) [] lpNil

theorem ref10_Movesc_ok : CtxOK Tryd.prog ref10_Movesc := mkC_ok ((ref10_Musto_ok _ (ref10_Mayo_ok _ (ref04_Reacheso_ok _ (ref05_Takeno_ok _ (ref05_Ono_ok _ (ref03_Deado_ok _ (ref09_Cano_ok _ oNil_ok))))))))

noncomputable def ref10_Movesd : V → List Obj → Option (Bool) := fun v objs => match v, objs with
  | V.s (S.b y0), [] => some (y0)
  | _, _ => none

theorem ref10_Moves_eq (x0 : List Int) (x1 : List Int) (x2 : Int) (x3 : Int) (x4 : Int) (x5 : Int) (x6 : Bool) : fnE ref10_Movesc Tryd.f33 ([V.agg [Seg.arr IntKind.i8 81 x0, Seg.arr IntKind.i8 16 x1, Seg.one [S.i IntKind.i8 x2]], V.agg [Seg.one [S.i IntKind.i64 x3, S.i IntKind.i64 x4, S.i IntKind.i64 x5, S.b x6]]]) ([]) ref10_Movesd = ref10_Moves x0 x1 x2 x3 x4 x5 x6 := by kernel_rfl

noncomputable def ref10_Movesa {R : Type} (o : Orc) (vs : List V) (objs : List Obj) (K : Bool → V → List Obj → Option R) : Option R := match vs, objs with
  | [V.agg [Seg.arr IntKind.i8 81 x0, Seg.arr IntKind.i8 16 x1, Seg.one [S.i IntKind.i8 x2]], V.agg [Seg.one [S.i IntKind.i64 x3, S.i IntKind.i64 x4, S.i IntKind.i64 x5, S.b x6]]], [] => ob (ref10_Moves x0 x1 x2 x3 x4 x5 x6) fun y0 => K false (V.s (S.b y0)) ([])
  | _, _ => o 33 vs objs K

noncomputable def ref10_Moveso (o : Orc) : Orc := hook 33 (ref10_Movesa o) o

theorem ref10_Moveso_ok (o : Orc) (ho : OSound Tryd.prog o) : OSound Tryd.prog (ref10_Moveso o) := hook_ok ho fun vs objs K r h => by
  unfold ref10_Movesa at h
  split at h
  · skip
    obtain ⟨t, h1, h2⟩ := ob_ok h
    refine anyOK_of mixed ref10_Movesc_ok (fn := Tryd.f33) (b := (Tryd.f33).body.getD .skip) (by kernel_rfl) (by kernel_rfl) (by kernel_rfl) ((ref10_Moves_eq _ _ _ _ _ _ _).trans h1) (m := 0) rfl (AllP.of (l' := []) (by kernel_rfl) trivial) fun v objs' hd => ?_
    unfold ref10_Movesd at hd
    split at hd
    · skip
      cases hd
      exact h2
    · cases hd
  · exact ho _ _ _ _ _ h

noncomputable def ref07_Lessc : Ctx := mkC 42 (oNil) [] lpNil

theorem ref07_Lessc_ok : CtxOK Tryd.prog ref07_Lessc := mkC_ok (oNil_ok)

noncomputable def ref07_Lessd : V → List Obj → Option (Bool) := fun v objs => match v, objs with
  | V.s (S.b y0), [] => some (y0)
  | _, _ => none

theorem ref07_Less_eq (x0 : Int) (x1 : Int) (x2 : Int) (x3 : Bool) (x4 : Int) (x5 : Int) (x6 : Int) (x7 : Bool) : fnE ref07_Lessc Tryd.f23 ([V.agg [Seg.one [S.i IntKind.i64 x0, S.i IntKind.i64 x1, S.i IntKind.i64 x2, S.b x3]], V.agg [Seg.one [S.i IntKind.i64 x4, S.i IntKind.i64 x5, S.i IntKind.i64 x6, S.b x7]]]) ([]) ref07_Lessd = ref07_Less x0 x1 x2 x3 x4 x5 x6 x7 := by kernel_rfl

noncomputable def ref07_Lessa {R : Type} (o : Orc) (vs : List V) (objs : List Obj) (K : Bool → V → List Obj → Option R) : Option R := match vs, objs with
  | [V.agg [Seg.one [S.i IntKind.i64 x0, S.i IntKind.i64 x1, S.i IntKind.i64 x2, S.b x3]], V.agg [Seg.one [S.i IntKind.i64 x4, S.i IntKind.i64 x5, S.i IntKind.i64 x6, S.b x7]]], [] => ob (ref07_Less x0 x1 x2 x3 x4 x5 x6 x7) fun y0 => K false (V.s (S.b y0)) ([])
  | _, _ => o 23 vs objs K

noncomputable def ref07_Lesso (o : Orc) : Orc := hook 23 (ref07_Lessa o) o

theorem ref07_Lesso_ok (o : Orc) (ho : OSound Tryd.prog o) : OSound Tryd.prog (ref07_Lesso o) := hook_ok ho fun vs objs K r h => by
  unfold ref07_Lessa at h
  split at h
  · skip
    obtain ⟨t, h1, h2⟩ := ob_ok h
    refine anyOK_of mixed ref07_Lessc_ok (fn := Tryd.f23) (b := (Tryd.f23).body.getD .skip) (by kernel_rfl) (by kernel_rfl) (by kernel_rfl) ((ref07_Less_eq _ _ _ _ _ _ _ _).trans h1) (m := 0) rfl (AllP.of (l' := []) (by kernel_rfl) trivial) fun v objs' hd => ?_
    unfold ref07_Lessd at hd
    split at hd
    · skip
      cases hd
      exact h2
    · cases hd
  · exact ho _ _ _ _ _ h

noncomputable def ref10_Alll10d : Ex → List V → List Obj → Option (Nat × Int × List Int × List Int × Int × Nat × List (List Int) × List Bool) := fun e vs objs => match e, vs, objs with
  | Ex.exit 2, [V.s (S.ptr 0 0 none 0), V.s (S.sl 1 0 y0 true), V.s (S.ptr 2 0 none 0), V.s (S.i IntKind.i64 y1)], [Obj.cells 28 [Seg.arr IntKind.i8 81 y2, Seg.arr IntKind.i8 16 y3, Seg.one [S.i IntKind.i8 y4]], Obj.sli 40 false (Seg.rows [.i .i64, .i .i64, .i .i64, .b] y5 y6), Obj.cells 71 [Seg.barr 81 y7]] => some (y0, y1, y2, y3, y4, y5, y6, y7)
  | _, _, _ => none

noncomputable def ref10_Alll6d : Ex → List V → List Obj → Option (Nat × List Int × List Int × Int × Nat × List (List Int)) := fun e vs objs => match e, vs, objs with
  | Ex.exit 0, [V.s (S.ptr 0 0 none 0), V.s (S.sl 1 0 y0 true)], [Obj.cells 28 [Seg.arr IntKind.i8 81 y1, Seg.arr IntKind.i8 16 y2, Seg.one [S.i IntKind.i8 y3]], Obj.sli 40 false (Seg.rows [.i .i64, .i .i64, .i .i64, .b] y4 y5)] => some (y0, y1, y2, y3, y4, y5)
  | _, _, _ => none

noncomputable def ref10_Alll23d : Ex → List V → List Obj → Option (Nat × Int × List Int × List Int × Int × Nat × List (List Int)) := fun e vs objs => match e, vs, objs with
  | Ex.exit 6, [V.s (S.ptr 0 0 none 0), V.s (S.sl 1 0 y0 true), V.s (S.i IntKind.i64 y1)], [Obj.cells 28 [Seg.arr IntKind.i8 81 y2, Seg.arr IntKind.i8 16 y3, Seg.one [S.i IntKind.i8 y4]], Obj.sli 40 false (Seg.rows [.i .i64, .i .i64, .i .i64, .b] y5 y6)] => some (y0, y1, y2, y3, y4, y5, y6)
  | _, _, _ => none

noncomputable def ref10_Alll20d : Ex → List V → List Obj → Option (Nat × Nat × List (List Int)) := fun e vs objs => match e, vs, objs with
  | Ex.exit 4, [V.s (S.sl 0 0 y0 true)], [Obj.sli 40 false (Seg.rows [.i .i64, .i .i64, .i .i64, .b] y1 y2)] => some (y0, y1, y2)
  | _, _, _ => none

noncomputable def ref10_Allp10 {R : Type} (vs : List V) (objs : List Obj) (K : Ex → List V → List Obj → Option R) : Option R := match vs, objs with
  | [V.s (S.ptr 0 0 none 0), V.s (S.sl 1 0 x0 true), V.s (S.ptr 2 0 none 0), V.s (S.i IntKind.i64 x1), V.s (S.i IntKind.i64 x2)], [Obj.cells 28 [Seg.arr IntKind.i8 81 x3, Seg.arr IntKind.i8 16 x4, Seg.one [S.i IntKind.i8 x5]], Obj.sli 40 false (Seg.rows [.i .i64, .i .i64, .i .i64, .b] x6 x7), Obj.cells 71 [Seg.barr 81 x8]] => ob (ref10_Alll10 many x0 x1 x2 x3 x4 x5 x6 x7 x8) fun z => K (Ex.exit 2) ([V.s (S.ptr 0 0 none 0), V.s (S.sl 1 0 (z.1) true), V.s (S.ptr 2 0 none 0), V.s (S.i IntKind.i64 (z.2.1))]) ([Obj.cells 28 [Seg.arr IntKind.i8 81 (z.2.2.1), Seg.arr IntKind.i8 16 (z.2.2.2.1), Seg.one [S.i IntKind.i8 (z.2.2.2.2.1)]], Obj.sli 40 false (Seg.rows [.i .i64, .i .i64, .i .i64, .b] (z.2.2.2.2.2.1) (z.2.2.2.2.2.2.1)), Obj.cells 71 [Seg.barr 81 (z.2.2.2.2.2.2.2)]])
  | _, _ => none

noncomputable def ref10_Allp6 {R : Type} (vs : List V) (objs : List Obj) (K : Ex → List V → List Obj → Option R) : Option R := match vs, objs with
  | [V.s (S.ptr 0 0 none 0), V.s (S.sl 1 0 x0 true), V.s (S.ptr 2 0 none 0), V.s (S.i IntKind.i64 x1)], [Obj.cells 28 [Seg.arr IntKind.i8 81 x2, Seg.arr IntKind.i8 16 x3, Seg.one [S.i IntKind.i8 x4]], Obj.sli 40 false (Seg.rows [.i .i64, .i .i64, .i .i64, .b] x5 x6), Obj.cells 71 [Seg.barr 81 x7]] => ob (ref10_Alll6 many x0 x1 x2 x3 x4 x5 x6 x7) fun z => K (Ex.exit 0) ([V.s (S.ptr 0 0 none 0), V.s (S.sl 1 0 (z.1) true)]) ([Obj.cells 28 [Seg.arr IntKind.i8 81 (z.2.1), Seg.arr IntKind.i8 16 (z.2.2.1), Seg.one [S.i IntKind.i8 (z.2.2.2.1)]], Obj.sli 40 false (Seg.rows [.i .i64, .i .i64, .i .i64, .b] (z.2.2.2.2.1) (z.2.2.2.2.2))])
  | _, _ => none

noncomputable def ref10_Allp23 {R : Type} (vs : List V) (objs : List Obj) (K : Ex → List V → List Obj → Option R) : Option R := match vs, objs with
  | [V.s (S.ptr 0 0 none 0), V.s (S.sl 1 0 x0 true), V.s (S.i IntKind.i64 x1), V.s (S.i IntKind.i64 x2)], [Obj.cells 28 [Seg.arr IntKind.i8 81 x3, Seg.arr IntKind.i8 16 x4, Seg.one [S.i IntKind.i8 x5]], Obj.sli 40 false (Seg.rows [.i .i64, .i .i64, .i .i64, .b] x6 x7)] => ob (ref10_Alll23 many x0 x1 x2 x3 x4 x5 x6 x7) fun z => K (Ex.exit 6) ([V.s (S.ptr 0 0 none 0), V.s (S.sl 1 0 (z.1) true), V.s (S.i IntKind.i64 (z.2.1))]) ([Obj.cells 28 [Seg.arr IntKind.i8 81 (z.2.2.1), Seg.arr IntKind.i8 16 (z.2.2.2.1), Seg.one [S.i IntKind.i8 (z.2.2.2.2.1)]], Obj.sli 40 false (Seg.rows [.i .i64, .i .i64, .i .i64, .b] (z.2.2.2.2.2.1) (z.2.2.2.2.2.2))])
  | _, _ => none

noncomputable def ref10_Allp20 {R : Type} (vs : List V) (objs : List Obj) (K : Ex → List V → List Obj → Option R) : Option R := match vs, objs with
  | [V.s (S.ptr 0 0 none 0), V.s (S.sl 1 0 x0 true), V.s (S.i IntKind.i64 x1)], [Obj.cells 28 [Seg.arr IntKind.i8 81 x2, Seg.arr IntKind.i8 16 x3, Seg.one [S.i IntKind.i8 x4]], Obj.sli 40 false (Seg.rows [.i .i64, .i .i64, .i .i64, .b] x5 x6)] => ob (ref10_Alll20 many x0 x1 x2 x3 x4 x5 x6) fun z => K (Ex.exit 4) ([V.s (S.sl 0 0 (z.1) true)]) ([Obj.sli 40 false (Seg.rows [.i .i64, .i .i64, .i .i64, .b] (z.2.1) (z.2.2))])
  | _, _ => none

noncomputable def ref10_Alllp : {R : Type} → Nat → List V → List Obj → (Ex → List V → List Obj → Option R) → Option R := fun q vs objs K => bif Nat.beq q 10 then ref10_Allp10 vs objs K else bif Nat.beq q 6 then ref10_Allp6 vs objs K else bif Nat.beq q 23 then ref10_Allp23 vs objs K else bif Nat.beq q 20 then ref10_Allp20 vs objs K else none

noncomputable def ref10_Allc : Ctx := mkC 98 ((ref10_Moveso (ref04_Reacheso (ref02_Sideo (ref05_Takeno oNil))))) [(6, [1, 3, 4, 5], [1, 3]), (10, [1, 3, 4, 5, 6], [1, 3, 4, 5]), (20, [1, 3, 8], [3]), (23, [1, 3, 8, 9], [1, 3, 8])] ref10_Alllp

theorem ref10_Allc_ok : CtxOK Tryd.prog ref10_Allc := mkC_ok ((ref10_Moveso_ok _ (ref04_Reacheso_ok _ (ref02_Sideo_ok _ (ref05_Takeno_ok _ oNil_ok)))))

noncomputable def ref10_Alll10r (f : Nat) (x0 : Nat) (x1 : Int) (x2 : Int) (x3 : List Int) (x4 : List Int) (x5 : Int) (x6 : Nat) (x7 : List (List Int)) (x8 : List Bool) : Option (Nat × Int × List Int × List Int × Int × Nat × List (List Int) × List Bool) := lrun ref10_Allc 0 [1, 3, 4, 5, 6] [1, 3, 4, 5] (loopOf Tryd.f25 10) f ([V.s (S.ptr 0 0 none 0), V.s (S.sl 1 0 x0 true), V.s (S.ptr 2 0 none 0), V.s (S.i IntKind.i64 x1), V.s (S.i IntKind.i64 x2)]) ([Obj.cells 28 [Seg.arr IntKind.i8 81 x3, Seg.arr IntKind.i8 16 x4, Seg.one [S.i IntKind.i8 x5]], Obj.sli 40 false (Seg.rows [.i .i64, .i .i64, .i .i64, .b] x6 x7), Obj.cells 71 [Seg.barr 81 x8]]) ref10_Alll10d

theorem ref10_Alll10_step (f : Nat) (x0 : Nat) (x1 : Int) (x2 : Int) (x3 : List Int) (x4 : List Int) (x5 : Int) (x6 : Nat) (x7 : List (List Int)) (x8 : List Bool) : ref10_Alll10r (f + 1) x0 x1 x2 x3 x4 x5 x6 x7 x8 = ref10_Alll10s (ref10_Alll10r f) x0 x1 x2 x3 x4 x5 x6 x7 x8 := by kernel_rfl

theorem ref10_Alll10_eq : ∀ f, ref10_Alll10r f = ref10_Alll10 f
  | 0 => rfl
  | f + 1 => by funext x0 x1 x2 x3 x4 x5 x6 x7 x8; rw [ref10_Alll10_step, ref10_Alll10_eq f]; rfl

noncomputable def ref10_Alll6r (f : Nat) (x0 : Nat) (x1 : Int) (x2 : List Int) (x3 : List Int) (x4 : Int) (x5 : Nat) (x6 : List (List Int)) (x7 : List Bool) : Option (Nat × List Int × List Int × Int × Nat × List (List Int)) := lrun ref10_Allc 0 [1, 3, 4, 5] [1, 3] (loopOf Tryd.f25 6) f ([V.s (S.ptr 0 0 none 0), V.s (S.sl 1 0 x0 true), V.s (S.ptr 2 0 none 0), V.s (S.i IntKind.i64 x1)]) ([Obj.cells 28 [Seg.arr IntKind.i8 81 x2, Seg.arr IntKind.i8 16 x3, Seg.one [S.i IntKind.i8 x4]], Obj.sli 40 false (Seg.rows [.i .i64, .i .i64, .i .i64, .b] x5 x6), Obj.cells 71 [Seg.barr 81 x7]]) ref10_Alll6d

theorem ref10_Alll6_step (f : Nat) (x0 : Nat) (x1 : Int) (x2 : List Int) (x3 : List Int) (x4 : Int) (x5 : Nat) (x6 : List (List Int)) (x7 : List Bool) : ref10_Alll6r (f + 1) x0 x1 x2 x3 x4 x5 x6 x7 = ref10_Alll6s (ref10_Alll6r f) x0 x1 x2 x3 x4 x5 x6 x7 := by kernel_rfl

theorem ref10_Alll6_eq : ∀ f, ref10_Alll6r f = ref10_Alll6 f
  | 0 => rfl
  | f + 1 => by funext x0 x1 x2 x3 x4 x5 x6 x7; rw [ref10_Alll6_step, ref10_Alll6_eq f]; rfl

noncomputable def ref10_Alll23r (f : Nat) (x0 : Nat) (x1 : Int) (x2 : Int) (x3 : List Int) (x4 : List Int) (x5 : Int) (x6 : Nat) (x7 : List (List Int)) : Option (Nat × Int × List Int × List Int × Int × Nat × List (List Int)) := lrun ref10_Allc 0 [1, 3, 8, 9] [1, 3, 8] (loopOf Tryd.f25 23) f ([V.s (S.ptr 0 0 none 0), V.s (S.sl 1 0 x0 true), V.s (S.i IntKind.i64 x1), V.s (S.i IntKind.i64 x2)]) ([Obj.cells 28 [Seg.arr IntKind.i8 81 x3, Seg.arr IntKind.i8 16 x4, Seg.one [S.i IntKind.i8 x5]], Obj.sli 40 false (Seg.rows [.i .i64, .i .i64, .i .i64, .b] x6 x7)]) ref10_Alll23d

theorem ref10_Alll23_step (f : Nat) (x0 : Nat) (x1 : Int) (x2 : Int) (x3 : List Int) (x4 : List Int) (x5 : Int) (x6 : Nat) (x7 : List (List Int)) : ref10_Alll23r (f + 1) x0 x1 x2 x3 x4 x5 x6 x7 = ref10_Alll23s (ref10_Alll23r f) x0 x1 x2 x3 x4 x5 x6 x7 := by kernel_rfl

theorem ref10_Alll23_eq : ∀ f, ref10_Alll23r f = ref10_Alll23 f
  | 0 => rfl
  | f + 1 => by funext x0 x1 x2 x3 x4 x5 x6 x7; rw [ref10_Alll23_step, ref10_Alll23_eq f]; rfl

noncomputable def ref10_Alll20r (f : Nat) (x0 : Nat) (x1 : Int) (x2 : List Int) (x3 : List Int) (x4 : Int) (x5 : Nat) (x6 : List (List Int)) : Option (Nat × Nat × List (List Int)) := lrun ref10_Allc 0 [1, 3, 8] [3] (loopOf Tryd.f25 20) f ([V.s (S.ptr 0 0 none 0), V.s (S.sl 1 0 x0 true), V.s (S.i IntKind.i64 x1)]) ([Obj.cells 28 [Seg.arr IntKind.i8 81 x2, Seg.arr IntKind.i8 16 x3, Seg.one [S.i IntKind.i8 x4]], Obj.sli 40 false (Seg.rows [.i .i64, .i .i64, .i .i64, .b] x5 x6)]) ref10_Alll20d

theorem ref10_Alll20_step (f : Nat) (x0 : Nat) (x1 : Int) (x2 : List Int) (x3 : List Int) (x4 : Int) (x5 : Nat) (x6 : List (List Int)) : ref10_Alll20r (f + 1) x0 x1 x2 x3 x4 x5 x6 = ref10_Alll20s (ref10_Alll20r f) x0 x1 x2 x3 x4 x5 x6 := by kernel_rfl

theorem ref10_Alll20_eq : ∀ f, ref10_Alll20r f = ref10_Alll20 f
  | 0 => rfl
  | f + 1 => by funext x0 x1 x2 x3 x4 x5 x6; rw [ref10_Alll20_step, ref10_Alll20_eq f]; rfl

theorem ref10_Alls10 : LoopSound Tryd.prog ref10_Allc 0 (loopOf Tryd.f25 10) :=
  loopSound_by mixed ref10_Allc_ok (AllP.of (l' := []) (by kernel_rfl) trivial) (q := 10) (kin := [1, 3, 4, 5, 6]) (kout := [1, 3, 4, 5]) (by kernel_rfl) (by kernel_rfl) fun vs objs K r h => by
    replace h : ref10_Allp10 vs objs K = some r := h
    unfold ref10_Allp10 at h
    split at h
    · skip
      obtain ⟨t, h1, h2⟩ := ob_ok h
      rw [← ref10_Alll10_eq] at h1
      refine ⟨_, ref10_Alll10d, t, many, h1, fun e vs' objs' hd => ?_⟩
      unfold ref10_Alll10d at hd
      split at hd
      · skip
        cases hd
        exact h2
      · cases hd
    · cases h

theorem ref10_Alls23 : LoopSound Tryd.prog ref10_Allc 0 (loopOf Tryd.f25 23) :=
  loopSound_by mixed ref10_Allc_ok (AllP.of (l' := []) (by kernel_rfl) trivial) (q := 23) (kin := [1, 3, 8, 9]) (kout := [1, 3, 8]) (by kernel_rfl) (by kernel_rfl) fun vs objs K r h => by
    replace h : ref10_Allp23 vs objs K = some r := h
    unfold ref10_Allp23 at h
    split at h
    · skip
      obtain ⟨t, h1, h2⟩ := ob_ok h
      rw [← ref10_Alll23_eq] at h1
      refine ⟨_, ref10_Alll23d, t, many, h1, fun e vs' objs' hd => ?_⟩
      unfold ref10_Alll23d at hd
      split at hd
      · skip
        cases hd
        exact h2
      · cases hd
    · cases h

theorem ref10_Alls6 : LoopSound Tryd.prog ref10_Allc 0 (loopOf Tryd.f25 6) :=
  loopSound_by mixed ref10_Allc_ok (AllP.of (l' := [loopOf Tryd.f25 10]) (by kernel_rfl) ⟨ref10_Alls10, trivial⟩) (q := 6) (kin := [1, 3, 4, 5]) (kout := [1, 3]) (by kernel_rfl) (by kernel_rfl) fun vs objs K r h => by
    replace h : ref10_Allp6 vs objs K = some r := h
    unfold ref10_Allp6 at h
    split at h
    · skip
      obtain ⟨t, h1, h2⟩ := ob_ok h
      rw [← ref10_Alll6_eq] at h1
      refine ⟨_, ref10_Alll6d, t, many, h1, fun e vs' objs' hd => ?_⟩
      unfold ref10_Alll6d at hd
      split at hd
      · skip
        cases hd
        exact h2
      · cases hd
    · cases h

theorem ref10_Alls20 : LoopSound Tryd.prog ref10_Allc 0 (loopOf Tryd.f25 20) :=
  loopSound_by mixed ref10_Allc_ok (AllP.of (l' := [loopOf Tryd.f25 23]) (by kernel_rfl) ⟨ref10_Alls23, trivial⟩) (q := 20) (kin := [1, 3, 8]) (kout := [3]) (by kernel_rfl) (by kernel_rfl) fun vs objs K r h => by
    replace h : ref10_Allp20 vs objs K = some r := h
    unfold ref10_Allp20 at h
    split at h
    · skip
      obtain ⟨t, h1, h2⟩ := ob_ok h
      rw [← ref10_Alll20_eq] at h1
      refine ⟨_, ref10_Alll20d, t, many, h1, fun e vs' objs' hd => ?_⟩
      unfold ref10_Alll20d at hd
      split at hd
      · skip
        cases hd
        exact h2
      · cases hd
    · cases h

noncomputable def ref10_Alld : V → List Obj → Option (Nat × Nat × List (List Int)) := fun v objs => match v, objs with
  | V.s (S.sl 0 0 y0 true), [Obj.sli 40 false (Seg.rows [.i .i64, .i .i64, .i .i64, .b] y1 y2)] => some (y0, y1, y2)
  | _, _ => none

theorem ref10_All_eq (x0 : List Int) (x1 : List Int) (x2 : Int) : fnE ref10_Allc Tryd.f25 ([V.agg [Seg.arr IntKind.i8 81 x0, Seg.arr IntKind.i8 16 x1, Seg.one [S.i IntKind.i8 x2]]]) ([]) ref10_Alld = ref10_All x0 x1 x2 := by kernel_rfl

noncomputable def ref10_Alla {R : Type} (o : Orc) (vs : List V) (objs : List Obj) (K : Bool → V → List Obj → Option R) : Option R := match vs, objs with
  | [V.agg [Seg.arr IntKind.i8 81 x0, Seg.arr IntKind.i8 16 x1, Seg.one [S.i IntKind.i8 x2]]], [] => ob (ref10_All x0 x1 x2) fun z => K false (V.s (S.sl 0 0 (z.1) true)) ([Obj.sli 40 false (Seg.rows [.i .i64, .i .i64, .i .i64, .b] (z.2.1) (z.2.2))])
  | _, _ => o 25 vs objs K

noncomputable def ref10_Allo (o : Orc) : Orc := hook 25 (ref10_Alla o) o

theorem ref10_Allo_ok (o : Orc) (ho : OSound Tryd.prog o) : OSound Tryd.prog (ref10_Allo o) := hook_ok ho fun vs objs K r h => by
  unfold ref10_Alla at h
  split at h
  · skip
    obtain ⟨t, h1, h2⟩ := ob_ok h
    refine anyOK_of mixed ref10_Allc_ok (fn := Tryd.f25) (b := (Tryd.f25).body.getD .skip) (by kernel_rfl) (by kernel_rfl) (by kernel_rfl) ((ref10_All_eq _ _ _).trans h1) (m := 0) rfl (AllP.of (l' := [loopOf Tryd.f25 6, loopOf Tryd.f25 20]) (by kernel_rfl) ⟨ref10_Alls6, ref10_Alls20, trivial⟩) fun v objs' hd => ?_
    unfold ref10_Alld at hd
    split at hd
    · skip
      cases hd
      exact h2
    · cases hd
  · exact ho _ _ _ _ _ h

noncomputable def ref10_Samel4d : Ex → List V → List Obj → Option ((Bool × Nat × List (List Int) × Nat × List (List Int)) ⊕ (Nat × List (List Int) × Nat × List (List Int))) := fun e vs objs => match e, vs, objs with
  | Ex.ret, [V.s (S.b y0)], [Obj.sli 40 true (Seg.rows [.i .i64, .i .i64, .i .i64, .b] y1 y2), Obj.sli 40 true (Seg.rows [.i .i64, .i .i64, .i .i64, .b] y3 y4)] => some (Sum.inl (y0, y1, y2, y3, y4))
  | Ex.exit 0, [V.s S.bad], [Obj.sli 40 true (Seg.rows [.i .i64, .i .i64, .i .i64, .b] y0 y1), Obj.sli 40 true (Seg.rows [.i .i64, .i .i64, .i .i64, .b] y2 y3)] => some (Sum.inr (y0, y1, y2, y3))
  | _, _, _ => none

noncomputable def ref10_Samep4 {R : Type} (vs : List V) (objs : List Obj) (K : Ex → List V → List Obj → Option R) : Option R := match vs, objs with
  | [V.s (S.sl 0 0 x0 true), V.s (S.sl 1 0 x1 true), V.s (S.i IntKind.i64 x2)], [Obj.sli 40 true (Seg.rows [.i .i64, .i .i64, .i .i64, .b] x3 x4), Obj.sli 40 true (Seg.rows [.i .i64, .i .i64, .i .i64, .b] x5 x6)] => ob (ref10_Samel4 many x0 x1 x2 x3 x4 x5 x6) fun t0 => sw t0 (fun z => K (Ex.ret) ([V.s (S.b (z.1))]) ([Obj.sli 40 true (Seg.rows [.i .i64, .i .i64, .i .i64, .b] (z.2.1) (z.2.2.1)), Obj.sli 40 true (Seg.rows [.i .i64, .i .i64, .i .i64, .b] (z.2.2.2.1) (z.2.2.2.2))])) (fun z => K (Ex.exit 0) ([V.s S.bad]) ([Obj.sli 40 true (Seg.rows [.i .i64, .i .i64, .i .i64, .b] (z.1) (z.2.1)), Obj.sli 40 true (Seg.rows [.i .i64, .i .i64, .i .i64, .b] (z.2.2.1) (z.2.2.2))]))
  | _, _ => none

noncomputable def ref10_Samelp : {R : Type} → Nat → List V → List Obj → (Ex → List V → List Obj → Option R) → Option R := fun q vs objs K => bif Nat.beq q 4 then ref10_Samep4 vs objs K else none

noncomputable def ref10_Samec : Ctx := mkC 26 (oNil) [(4, [0, 1, 5], [4])] ref10_Samelp

theorem ref10_Samec_ok : CtxOK Tryd.prog ref10_Samec := mkC_ok (oNil_ok)

noncomputable def ref10_Samel4r (f : Nat) (x0 : Nat) (x1 : Nat) (x2 : Int) (x3 : Nat) (x4 : List (List Int)) (x5 : Nat) (x6 : List (List Int)) : Option ((Bool × Nat × List (List Int) × Nat × List (List Int)) ⊕ (Nat × List (List Int) × Nat × List (List Int))) := lrun ref10_Samec 2 [0, 1, 5] [4] (loopOf Tryd.f24 4) f ([V.s (S.sl 0 0 x0 true), V.s (S.sl 1 0 x1 true), V.s (S.i IntKind.i64 x2)]) ([Obj.sli 40 true (Seg.rows [.i .i64, .i .i64, .i .i64, .b] x3 x4), Obj.sli 40 true (Seg.rows [.i .i64, .i .i64, .i .i64, .b] x5 x6)]) ref10_Samel4d

theorem ref10_Samel4_step (f : Nat) (x0 : Nat) (x1 : Nat) (x2 : Int) (x3 : Nat) (x4 : List (List Int)) (x5 : Nat) (x6 : List (List Int)) : ref10_Samel4r (f + 1) x0 x1 x2 x3 x4 x5 x6 = ref10_Samel4s (ref10_Samel4r f) x0 x1 x2 x3 x4 x5 x6 := by kernel_rfl

theorem ref10_Samel4_eq : ∀ f, ref10_Samel4r f = ref10_Samel4 f
  | 0 => rfl
  | f + 1 => by funext x0 x1 x2 x3 x4 x5 x6; rw [ref10_Samel4_step, ref10_Samel4_eq f]; rfl

theorem ref10_Sames4 : LoopSound Tryd.prog ref10_Samec 2 (loopOf Tryd.f24 4) :=
  loopSound_by mixed ref10_Samec_ok (AllP.of (l' := []) (by kernel_rfl) trivial) (q := 4) (kin := [0, 1, 5]) (kout := [4]) (by kernel_rfl) (by kernel_rfl) fun vs objs K r h => by
    replace h : ref10_Samep4 vs objs K = some r := h
    unfold ref10_Samep4 at h
    split at h
    · skip
      obtain ⟨t, h1, h2⟩ := ob_ok h
      rw [← ref10_Samel4_eq] at h1
      refine ⟨_, ref10_Samel4d, t, many, h1, fun e vs' objs' hd => ?_⟩
      unfold ref10_Samel4d at hd
      split at hd
      · skip
        cases hd
        exact h2
      · skip
        cases hd
        exact h2
      · cases hd
    · cases h

noncomputable def ref10_Samed : V → List Obj → Option (Bool) := fun v objs => match v, objs with
  | V.s (S.b y0), [] => some (y0)
  | _, _ => none

theorem ref10_Same_eq (x0 : Nat) (x1 : Nat) (x2 : Nat) (x3 : List (List Int)) (x4 : Nat) (x5 : List (List Int)) : fnE ref10_Samec Tryd.f24 ([V.s (S.sl 0 0 x0 true), V.s (S.sl 1 0 x1 true)]) ([Obj.sli 40 true (Seg.rows [.i .i64, .i .i64, .i .i64, .b] x2 x3), Obj.sli 40 true (Seg.rows [.i .i64, .i .i64, .i .i64, .b] x4 x5)]) (pureD 2 ref10_Samed) = ref10_Same x0 x1 x2 x3 x4 x5 := by kernel_rfl

noncomputable def ref10_Samea {R : Type} (o : Orc) (vs : List V) (objs : List Obj) (K : Bool → V → List Obj → Option R) : Option R := match vs, List.map Obj.toRO objs with
  | [V.s (S.sl 0 0 x0 true), V.s (S.sl 1 0 x1 true)], [Obj.sli 40 true (Seg.rows [.i .i64, .i .i64, .i .i64, .b] x2 x3), Obj.sli 40 true (Seg.rows [.i .i64, .i .i64, .i .i64, .b] x4 x5)] => ob (ref10_Same x0 x1 x2 x3 x4 x5) fun y0 => K true (V.s (S.b y0)) ([])
  | _, _ => o 24 vs objs K

noncomputable def ref10_Sameo (o : Orc) : Orc := hook 24 (ref10_Samea o) o

theorem ref10_Sameo_ok (o : Orc) (ho : OSound Tryd.prog o) : OSound Tryd.prog (ref10_Sameo o) := hook_ok ho fun vs objs K r h => by
  unfold ref10_Samea at h
  split at h
  · skip
    have hq : List.map Obj.toRO objs = _ := (by rename_i hq; first | exact hq | assumption)
    obtain ⟨t, h1, h2⟩ := ob_ok h
    refine purOK_by mixed ref10_Samec_ok (m := 2) (fn := Tryd.f24) (b := (Tryd.f24).body.getD .skip) (by kernel_rfl) (by kernel_rfl) (by kernel_rfl) hq (by kernel_rfl) (by kernel_rfl) (AllP.of (l' := [loopOf Tryd.f24 4]) (by kernel_rfl) ⟨ref10_Sames4, trivial⟩) ((ref10_Same_eq _ _ _ _ _ _).trans h1) fun v objs' hd => ?_
    unfold ref10_Samed at hd
    split at hd
    · skip
      cases hd
      exact h2
    · cases hd
  · exact ho _ _ _ _ _ h

noncomputable def law10_GenAlll7d : Ex → List V → List Obj → Option ((Bool × Nat × List Int × List Int × Int × Nat × List (List Int)) ⊕ (Nat × List Int × List Int × Int × Nat × List (List Int))) := fun e vs objs => match e, vs, objs with
  | Ex.ret, [V.s (S.ptr 0 0 none 0), V.s (S.b y0), V.s (S.sl 1 0 y1 true)], [Obj.cells 28 [Seg.arr IntKind.i8 81 y2, Seg.arr IntKind.i8 16 y3, Seg.one [S.i IntKind.i8 y4]], Obj.sli 40 false (Seg.rows [.i .i64, .i .i64, .i .i64, .b] y5 y6)] => some (Sum.inl (y0, y1, y2, y3, y4, y5, y6))
  | Ex.exit 0, [V.s (S.ptr 0 0 none 0), V.s S.bad, V.s (S.sl 1 0 y0 true)], [Obj.cells 28 [Seg.arr IntKind.i8 81 y1, Seg.arr IntKind.i8 16 y2, Seg.one [S.i IntKind.i8 y3]], Obj.sli 40 false (Seg.rows [.i .i64, .i .i64, .i .i64, .b] y4 y5)] => some (Sum.inr (y0, y1, y2, y3, y4, y5))
  | _, _, _ => none

noncomputable def law10_GenAllp7 {R : Type} (vs : List V) (objs : List Obj) (K : Ex → List V → List Obj → Option R) : Option R := match vs, objs with
  | [V.s (S.ptr 0 0 none 0), V.s (S.sl 1 0 x0 true), V.s (S.i IntKind.i64 x1)], [Obj.cells 28 [Seg.arr IntKind.i8 81 x2, Seg.arr IntKind.i8 16 x3, Seg.one [S.i IntKind.i8 x4]], Obj.sli 40 false (Seg.rows [.i .i64, .i .i64, .i .i64, .b] x5 x6)] => ob (law10_GenAlll7 many x0 x1 x2 x3 x4 x5 x6) fun t0 => sw t0 (fun z => K (Ex.ret) ([V.s (S.ptr 0 0 none 0), V.s (S.b (z.1)), V.s (S.sl 1 0 (z.2.1) true)]) ([Obj.cells 28 [Seg.arr IntKind.i8 81 (z.2.2.1), Seg.arr IntKind.i8 16 (z.2.2.2.1), Seg.one [S.i IntKind.i8 (z.2.2.2.2.1)]], Obj.sli 40 false (Seg.rows [.i .i64, .i .i64, .i .i64, .b] (z.2.2.2.2.2.1) (z.2.2.2.2.2.2))])) (fun z => K (Ex.exit 0) ([V.s (S.ptr 0 0 none 0), V.s S.bad, V.s (S.sl 1 0 (z.1) true)]) ([Obj.cells 28 [Seg.arr IntKind.i8 81 (z.2.1), Seg.arr IntKind.i8 16 (z.2.2.1), Seg.one [S.i IntKind.i8 (z.2.2.2.1)]], Obj.sli 40 false (Seg.rows [.i .i64, .i .i64, .i .i64, .b] (z.2.2.2.2.1) (z.2.2.2.2.2))]))
  | _, _ => none

noncomputable def law10_GenAlllp : {R : Type} → Nat → List V → List Obj → (Ex → List V → List Obj → Option R) → Option R := fun q vs objs K => bif Nat.beq q 7 then law10_GenAllp7 vs objs K else none

noncomputable def law10_GenAllc : Ctx := mkC 34 ((ref10_Sameo (ref10_Allo (ref07_Lesso (gen_Allo (board_Newo (ref05_Checko (law10_listso oNil)))))))) [(7, [1, 3, 4], [1, 2, 3])] law10_GenAlllp

theorem law10_GenAllc_ok : CtxOK Tryd.prog law10_GenAllc := mkC_ok ((ref10_Sameo_ok _ (ref10_Allo_ok _ (ref07_Lesso_ok _ (gen_Allo_ok _ (board_Newo_ok _ (ref05_Checko_ok _ (law10_listso_ok _ oNil_ok))))))))

noncomputable def law10_GenAlll7r (f : Nat) (x0 : Nat) (x1 : Int) (x2 : List Int) (x3 : List Int) (x4 : Int) (x5 : Nat) (x6 : List (List Int)) : Option ((Bool × Nat × List Int × List Int × Int × Nat × List (List Int)) ⊕ (Nat × List Int × List Int × Int × Nat × List (List Int))) := lrun law10_GenAllc 0 [1, 3, 4] [1, 2, 3] (loopOf Tryd.f4 7) f ([V.s (S.ptr 0 0 none 0), V.s (S.sl 1 0 x0 true), V.s (S.i IntKind.i64 x1)]) ([Obj.cells 28 [Seg.arr IntKind.i8 81 x2, Seg.arr IntKind.i8 16 x3, Seg.one [S.i IntKind.i8 x4]], Obj.sli 40 false (Seg.rows [.i .i64, .i .i64, .i .i64, .b] x5 x6)]) law10_GenAlll7d

theorem law10_GenAlll7_step (f : Nat) (x0 : Nat) (x1 : Int) (x2 : List Int) (x3 : List Int) (x4 : Int) (x5 : Nat) (x6 : List (List Int)) : law10_GenAlll7r (f + 1) x0 x1 x2 x3 x4 x5 x6 = law10_GenAlll7s (law10_GenAlll7r f) x0 x1 x2 x3 x4 x5 x6 := by kernel_rfl

theorem law10_GenAlll7_eq : ∀ f, law10_GenAlll7r f = law10_GenAlll7 f
  | 0 => rfl
  | f + 1 => by funext x0 x1 x2 x3 x4 x5 x6; rw [law10_GenAlll7_step, law10_GenAlll7_eq f]; rfl

theorem law10_GenAlls7 : LoopSound Tryd.prog law10_GenAllc 0 (loopOf Tryd.f4 7) :=
  loopSound_by mixed law10_GenAllc_ok (AllP.of (l' := []) (by kernel_rfl) trivial) (q := 7) (kin := [1, 3, 4]) (kout := [1, 2, 3]) (by kernel_rfl) (by kernel_rfl) fun vs objs K r h => by
    replace h : law10_GenAllp7 vs objs K = some r := h
    unfold law10_GenAllp7 at h
    split at h
    · skip
      obtain ⟨t, h1, h2⟩ := ob_ok h
      rw [← law10_GenAlll7_eq] at h1
      refine ⟨_, law10_GenAlll7d, t, many, h1, fun e vs' objs' hd => ?_⟩
      unfold law10_GenAlll7d at hd
      split at hd
      · skip
        cases hd
        exact h2
      · skip
        cases hd
        exact h2
      · cases hd
    · cases h

noncomputable def law10_GenAlld : V → List Obj → Option (Bool) := fun v objs => match v, objs with
  | V.s (S.b y0), [] => some (y0)
  | _, _ => none

theorem law10_GenAll_eq (x0 : List Int) (x1 : List Int) (x2 : Int) : fnE law10_GenAllc Tryd.f4 ([V.agg [Seg.arr IntKind.i8 81 x0, Seg.arr IntKind.i8 16 x1, Seg.one [S.i IntKind.i8 x2]]]) ([]) law10_GenAlld = law10_GenAll x0 x1 x2 := by kernel_rfl

noncomputable def law10_GenAlla {R : Type} (o : Orc) (vs : List V) (objs : List Obj) (K : Bool → V → List Obj → Option R) : Option R := match vs, objs with
  | [V.agg [Seg.arr IntKind.i8 81 x0, Seg.arr IntKind.i8 16 x1, Seg.one [S.i IntKind.i8 x2]]], [] => ob (law10_GenAll x0 x1 x2) fun y0 => K false (V.s (S.b y0)) ([])
  | _, _ => o 4 vs objs K

noncomputable def law10_GenAllo (o : Orc) : Orc := hook 4 (law10_GenAlla o) o

theorem law10_GenAll_ok {vs : List V} {objs : List Obj} (x0 : List Int) (x1 : List Int) (x2 : Int) {R : Type} {K : Bool → V → List Obj → Option R} {r : R} (hv : vs = [V.agg [Seg.arr IntKind.i8 81 x0, Seg.arr IntKind.i8 16 x1, Seg.one [S.i IntKind.i8 x2]]]) (ho : objs = []) (h : ob (law10_GenAll x0 x1 x2) (fun y0 => K false (V.s (S.b y0)) ([])) = some r) :
    ∃ p v objs', K p v objs' = some r ∧ AnyOK Tryd.prog 4 vs objs p v objs' := by
  subst hv
  subst ho
  obtain ⟨t, h1, h2⟩ := ob_ok h
  refine anyOK_of mixed law10_GenAllc_ok (fn := Tryd.f4) (b := (Tryd.f4).body.getD .skip) (by kernel_rfl) (by kernel_rfl) (by kernel_rfl) ((law10_GenAll_eq _ _ _).trans h1) (m := 0) rfl (AllP.of (l' := [loopOf Tryd.f4 7]) (by kernel_rfl) ⟨law10_GenAlls7, trivial⟩) fun v objs' hd => ?_
  unfold law10_GenAlld at hd
  split at hd
  · skip
    cases hd
    exact h2
  · cases hd

theorem law10_GenAllo_ok (o : Orc) (ho : OSound Tryd.prog o) : OSound Tryd.prog (law10_GenAllo o) := hook_ok ho fun vs objs K r h => by
  unfold law10_GenAlla at h
  split at h
  · skip
    obtain ⟨t, h1, h2⟩ := ob_ok h
    refine anyOK_of mixed law10_GenAllc_ok (fn := Tryd.f4) (b := (Tryd.f4).body.getD .skip) (by kernel_rfl) (by kernel_rfl) (by kernel_rfl) ((law10_GenAll_eq _ _ _).trans h1) (m := 0) rfl (AllP.of (l' := [loopOf Tryd.f4 7]) (by kernel_rfl) ⟨law10_GenAlls7, trivial⟩) fun v objs' hd => ?_
    unfold law10_GenAlld at hd
    split at hd
    · skip
      cases hd
      exact h2
    · cases hd
  · exact ho _ _ _ _ _ h

end Go.Kk.KkGA
