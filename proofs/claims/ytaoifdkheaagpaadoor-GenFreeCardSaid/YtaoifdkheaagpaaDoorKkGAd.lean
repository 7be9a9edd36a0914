/- Printed by a tool of this project (KkGen): the program's functions come to the plain ones. -/
import Derived.Test.YtaoifdkheaagpaaDoorKkGAc
namespace Go.Kk.KkGA
open Go.Proofs Go.Kk.Pl
set_option maxRecDepth 100000
set_option maxHeartbeats 4000000

noncomputable def ref10_Movesc : Ctx := mkC 70 ((ref10_Musto (ref10_Mayo (ref04_Reacheso (ref05_Takeno (ref05_Ono (ref03_Deado (ref09_Cano oNil)))))))) [] lpNil

theorem ref10_Movesc_ok : CtxOK Tryd.prog ref10_Movesc := mkC_ok ((ref10_Musto_ok _ (ref10_Mayo_ok _ (ref04_Reacheso_ok _ (ref05_Takeno_ok _ (ref05_Ono_ok _ (ref03_Deado_ok _ (ref09_Cano_ok _ oNil_ok))))))))

noncomputable def ref10_Movesd : V → List Obj → Option (Bool) := fun v objs => match v, objs with
  | V.s (S.b y0), [] => some (y0)
  | _, _ => none

theorem ref10_Moves_eq (x0 : List Int) (x1 : List Int) (x2 : Int) (x3 : Int) (x4 : Int) (x5 : Int) (x6 : Bool) : fnE ref10_Movesc Tryd.f33 ([V.agg [Seg.arr IntKind.i8 81 x0, Seg.arr IntKind.i8 16 x1, Seg.one [S.i IntKind.i8 x2]], V.agg [Seg.one [S.i IntKind.i64 x3, S.i IntKind.i64 x4, S.i IntKind.i64 x5, S.b x6]]]) ([]) ref10_Movesd = ref10_Moves x0 x1 x2 x3 x4 x5 x6 := by kernel_rfl

noncomputable def ref10_Movesa {R : Type} (o : Orc) (vs : List V) (objs : List Obj) (K : Bool → V → List Obj → Option R) : Option R := match vs, objs with
  | [V.agg [Seg.arr IntKind.i8 81 x0, Seg.arr IntKind.i8 16 x1, Seg.one [S.i IntKind.i8 x2]], V.agg [Seg.one [S.i IntKind.i64 x3, S.i IntKind.i64 x4, S.i IntKind.i64 x5, S.b x6]]], [] => ob (ref10_Moves x0 x1 x2 x3 x4 x5 x6) fun y0 => K false (V.s (S.b y0)) ([])
  | _, _ => o 33 vs objs K

noncomputable def ref10_Moveso (o : Orc) : Orc := hook 33 (ref10_Movesa o) o

theorem ref10_Moveso_ok (o : Orc) (ho : OSound Tryd.prog o) : OSound Tryd.prog (ref10_Moveso o) := hook_ok ho fun vs objs K r h => by
  unfold ref10_Movesa at h
  split at h
  · skip
    obtain ⟨t, h1, h2⟩ := ob_ok h
    refine anyOK_of mixed ref10_Movesc_ok (fn := Tryd.f33) (b := (Tryd.f33).body.getD .skip) (by kernel_rfl) (by kernel_rfl) (by kernel_rfl) ((ref10_Moves_eq _ _ _ _ _ _ _).trans h1) (m := 0) rfl (AllP.of (l' := []) (by kernel_rfl) trivial) fun v objs' hd => ?_
    unfold ref10_Movesd at hd
    split at hd
    · skip
      cases hd
      exact h2
    · cases hd
  · exact ho _ _ _ _ _ h

noncomputable def law10_GenFreel10d : Ex → List V → List Obj → Option ((Bool) ⊕ (Unit)) := fun e vs objs => match e, vs, objs with
  | Ex.ret, [V.s (S.b y0)], [] => some (Sum.inl (y0))
  | Ex.exit 0, [V.s S.bad], [] => some (Sum.inr ())
  | _, _, _ => none

noncomputable def law10_GenFreep10 {R : Type} (vs : List V) (objs : List Obj) (K : Ex → List V → List Obj → Option R) : Option R := match vs, objs with
  | [V.s (S.i IntKind.i64 x0), V.s (S.ptr 0 0 none 0), V.s (S.ptr 1 0 none 0), V.s (S.i IntKind.i64 x1)], [Obj.cells 28 [Seg.arr IntKind.i8 81 x2, Seg.arr IntKind.i8 16 x3, Seg.one [S.i IntKind.i8 x4]], Obj.cells 57 [Seg.one [S.i IntKind.u64 x5, S.i IntKind.u64 x6]]] => ob (law10_GenFreel10 many x0 x1 x2 x3 x4 x5 x6) fun t0 => sw t0 (fun y0 => K (Ex.ret) ([V.s (S.b y0)]) ([])) (fun _ => K (Ex.exit 0) ([V.s S.bad]) ([]))
  | _, _ => none

noncomputable def law10_GenFreelp : {R : Type} → Nat → List V → List Obj → (Ex → List V → List Obj → Option R) → Option R := fun q vs objs K => bif Nat.beq q 10 then law10_GenFreep10 vs objs K else none

noncomputable def law10_GenFreec : Ctx := mkC 55 ((ref10_Moveso (set_Haso (set_Emptyo (gen_Freeo (board_Newo (ref09_Cleano (law10_listso oNil)))))))) [(10, [2, 3, 7, 8], [6])] law10_GenFreelp

theorem law10_GenFreec_ok : CtxOK Tryd.prog law10_GenFreec := mkC_ok ((ref10_Moveso_ok _ (set_Haso_ok _ (set_Emptyo_ok _ (gen_Freeo_ok _ (board_Newo_ok _ (ref09_Cleano_ok _ (law10_listso_ok _ oNil_ok))))))))

noncomputable def law10_GenFreel10r (f : Nat) (x0 : Int) (x1 : Int) (x2 : List Int) (x3 : List Int) (x4 : Int) (x5 : Int) (x6 : Int) : Option ((Bool) ⊕ (Unit)) := lrun law10_GenFreec 0 [2, 3, 7, 8] [6] (loopOf Tryd.f6 10) f ([V.s (S.i IntKind.i64 x0), V.s (S.ptr 0 0 none 0), V.s (S.ptr 1 0 none 0), V.s (S.i IntKind.i64 x1)]) ([Obj.cells 28 [Seg.arr IntKind.i8 81 x2, Seg.arr IntKind.i8 16 x3, Seg.one [S.i IntKind.i8 x4]], Obj.cells 57 [Seg.one [S.i IntKind.u64 x5, S.i IntKind.u64 x6]]]) law10_GenFreel10d

theorem law10_GenFreel10_step (f : Nat) (x0 : Int) (x1 : Int) (x2 : List Int) (x3 : List Int) (x4 : Int) (x5 : Int) (x6 : Int) : law10_GenFreel10r (f + 1) x0 x1 x2 x3 x4 x5 x6 = law10_GenFreel10s (law10_GenFreel10r f) x0 x1 x2 x3 x4 x5 x6 := by kernel_rfl

theorem law10_GenFreel10_eq : ∀ f, law10_GenFreel10r f = law10_GenFreel10 f
  | 0 => rfl
  | f + 1 => by funext x0 x1 x2 x3 x4 x5 x6; rw [law10_GenFreel10_step, law10_GenFreel10_eq f]; rfl

theorem law10_GenFrees10 : LoopSound Tryd.prog law10_GenFreec 0 (loopOf Tryd.f6 10) :=
  loopSound_by mixed law10_GenFreec_ok (AllP.of (l' := []) (by kernel_rfl) trivial) (q := 10) (kin := [2, 3, 7, 8]) (kout := [6]) (by kernel_rfl) (by kernel_rfl) fun vs objs K r h => by
    replace h : law10_GenFreep10 vs objs K = some r := h
    unfold law10_GenFreep10 at h
    split at h
    · skip
      obtain ⟨t, h1, h2⟩ := ob_ok h
      rw [← law10_GenFreel10_eq] at h1
      refine ⟨_, law10_GenFreel10d, t, many, h1, fun e vs' objs' hd => ?_⟩
      unfold law10_GenFreel10d at hd
      split at hd
      · skip
        cases hd
        exact h2
      · skip
        cases hd
        exact h2
      · cases hd
    · cases h

noncomputable def law10_GenFreed : V → List Obj → Option (Bool) := fun v objs => match v, objs with
  | V.s (S.b y0), [] => some (y0)
  | _, _ => none

theorem law10_GenFree_eq (x0 : List Int) (x1 : List Int) (x2 : Int) (x3 : Int) (x4 : Int) : fnE law10_GenFreec Tryd.f6 ([V.agg [Seg.arr IntKind.i8 81 x0, Seg.arr IntKind.i8 16 x1, Seg.one [S.i IntKind.i8 x2]], V.s (S.i IntKind.i64 x3), V.s (S.i IntKind.i64 x4)]) ([]) law10_GenFreed = law10_GenFree x0 x1 x2 x3 x4 := by kernel_rfl

noncomputable def law10_GenFreea {R : Type} (o : Orc) (vs : List V) (objs : List Obj) (K : Bool → V → List Obj → Option R) : Option R := match vs, objs with
  | [V.agg [Seg.arr IntKind.i8 81 x0, Seg.arr IntKind.i8 16 x1, Seg.one [S.i IntKind.i8 x2]], V.s (S.i IntKind.i64 x3), V.s (S.i IntKind.i64 x4)], [] => ob (law10_GenFree x0 x1 x2 x3 x4) fun y0 => K false (V.s (S.b y0)) ([])
  | _, _ => o 6 vs objs K

noncomputable def law10_GenFreeo (o : Orc) : Orc := hook 6 (law10_GenFreea o) o

theorem law10_GenFree_ok {vs : List V} {objs : List Obj} (x0 : List Int) (x1 : List Int) (x2 : Int) (x3 : Int) (x4 : Int) {R : Type} {K : Bool → V → List Obj → Option R} {r : R} (hv : vs = [V.agg [Seg.arr IntKind.i8 81 x0, Seg.arr IntKind.i8 16 x1, Seg.one [S.i IntKind.i8 x2]], V.s (S.i IntKind.i64 x3), V.s (S.i IntKind.i64 x4)]) (ho : objs = []) (h : ob (law10_GenFree x0 x1 x2 x3 x4) (fun y0 => K false (V.s (S.b y0)) ([])) = some r) :
    ∃ p v objs', K p v objs' = some r ∧ AnyOK Tryd.prog 6 vs objs p v objs' := by
  subst hv
  subst ho
  obtain ⟨t, h1, h2⟩ := ob_ok h
  refine anyOK_of mixed law10_GenFreec_ok (fn := Tryd.f6) (b := (Tryd.f6).body.getD .skip) (by kernel_rfl) (by kernel_rfl) (by kernel_rfl) ((law10_GenFree_eq _ _ _ _ _).trans h1) (m := 0) rfl (AllP.of (l' := [loopOf Tryd.f6 10]) (by kernel_rfl) ⟨law10_GenFrees10, trivial⟩) fun v objs' hd => ?_
  unfold law10_GenFreed at hd
  split at hd
  · skip
    cases hd
    exact h2
  · cases hd

theorem law10_GenFreeo_ok (o : Orc) (ho : OSound Tryd.prog o) : OSound Tryd.prog (law10_GenFreeo o) := hook_ok ho fun vs objs K r h => by
  unfold law10_GenFreea at h
  split at h
  · skip
    obtain ⟨t, h1, h2⟩ := ob_ok h
    refine anyOK_of mixed law10_GenFreec_ok (fn := Tryd.f6) (b := (Tryd.f6).body.getD .skip) (by kernel_rfl) (by kernel_rfl) (by kernel_rfl) ((law10_GenFree_eq _ _ _ _ _).trans h1) (m := 0) rfl (AllP.of (l' := [loopOf Tryd.f6 10]) (by kernel_rfl) ⟨law10_GenFrees10, trivial⟩) fun v objs' hd => ?_
    unfold law10_GenFreed at hd
    split at hd
    · skip
      cases hd
      exact h2
    · cases hd
  · exact ho _ _ _ _ _ h


end Go.Kk.KkGA
