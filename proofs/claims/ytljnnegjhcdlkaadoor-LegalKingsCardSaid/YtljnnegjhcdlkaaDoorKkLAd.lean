/- Printed by a tool of this project (KkGen): the program's functions come to the plain ones. -/
import Derived.Test.YtljnnegjhcdlkaaDoorKkLAc
namespace Go.Kk.KkLA
open Go.Proofs Go.Kk.Pl
set_option maxRecDepth 100000
set_option maxHeartbeats 4000000
noncomputable def key_mixc : Ctx := mkC 19 (oNil) [] lpNil
theorem key_mixc_ok : CtxOK Tryd.prog key_mixc := mkC_ok (oNil_ok)
noncomputable def key_mixd : V → List Obj → Option (Int) := fun v objs => match v, objs with
  | V.s (S.i IntKind.u64 y0), [] => some (y0)
  | _, _ => none
theorem key_mix_eq (x0 : Int) : fnE key_mixc Tryd.f124 ([V.s (S.i IntKind.u64 x0)]) ([]) key_mixd = key_mix x0 := by kernel_rfl
noncomputable def key_mixa {R : Type} (o : Orc) (vs : List V) (objs : List Obj) (K : Bool → V → List Obj → Option R) : Option R := match vs, objs with
  | [V.s (S.i IntKind.u64 x0)], [] => ob (key_mix x0) fun y0 => K false (V.s (S.i IntKind.u64 y0)) ([])
  | _, _ => o 124 vs objs K
noncomputable def key_mixo (o : Orc) : Orc := hook 124 (key_mixa o) o
theorem key_mixo_ok (o : Orc) (ho : OSound Tryd.prog o) : OSound Tryd.prog (key_mixo o) := hook_ok ho fun vs objs K r h => by
  unfold key_mixa at h
  split at h
  · skip
    obtain ⟨t, h1, h2⟩ := ob_ok h
    refine anyOK_of mixed key_mixc_ok (fn := Tryd.f124) (b := (Tryd.f124).body.getD .skip) (by kernel_rfl) (by kernel_rfl) (by kernel_rfl) ((key_mix_eq _).trans h1) (m := 0) rfl (AllP.of (l' := []) (by kernel_rfl) trivial) fun v objs' hd => ?_
    unfold key_mixd at hd
    split at hd
    · skip
      cases hd
      exact h2
    · cases hd
  · exact ho _ _ _ _ _ h
noncomputable def key_Piecec : Ctx := mkC 23 ((key_mixo (piece_Kindo oNil))) [] lpNil
theorem key_Piecec_ok : CtxOK Tryd.prog key_Piecec := mkC_ok ((key_mixo_ok _ (piece_Kindo_ok _ oNil_ok)))
noncomputable def key_Pieced : V → List Obj → Option (Int) := fun v objs => match v, objs with
  | V.s (S.i IntKind.u64 y0), [] => some (y0)
  | _, _ => none
theorem key_Piece_eq (x0 x1 : Int) : fnE key_Piecec Tryd.f116 ([V.s (S.i IntKind.i64 x0), V.s (S.i IntKind.i8 x1)]) ([]) key_Pieced = key_Piece x0 x1 := by kernel_rfl
noncomputable def key_Piecea {R : Type} (o : Orc) (vs : List V) (objs : List Obj) (K : Bool → V → List Obj → Option R) : Option R := match vs, objs with
  | [V.s (S.i IntKind.i64 x0), V.s (S.i IntKind.i8 x1)], [] => ob (key_Piece x0 x1) fun y0 => K false (V.s (S.i IntKind.u64 y0)) ([])
  | _, _ => o 116 vs objs K
noncomputable def key_Pieceo (o : Orc) : Orc := hook 116 (key_Piecea o) o
theorem key_Pieceo_ok (o : Orc) (ho : OSound Tryd.prog o) : OSound Tryd.prog (key_Pieceo o) := hook_ok ho fun vs objs K r h => by
  unfold key_Piecea at h
  split at h
  · skip
    obtain ⟨t, h1, h2⟩ := ob_ok h
    refine anyOK_of mixed key_Piecec_ok (fn := Tryd.f116) (b := (Tryd.f116).body.getD .skip) (by kernel_rfl) (by kernel_rfl) (by kernel_rfl) ((key_Piece_eq _ _).trans h1) (m := 0) rfl (AllP.of (l' := []) (by kernel_rfl) trivial) fun v objs' hd => ?_
    unfold key_Pieced at hd
    split at hd
    · skip
      cases hd
      exact h2
    · cases hd
  · exact ho _ _ _ _ _ h
noncomputable def key_Handc : Ctx := mkC 41 ((key_mixo oNil)) [] lpNil
theorem key_Handc_ok : CtxOK Tryd.prog key_Handc := mkC_ok ((key_mixo_ok _ oNil_ok))
noncomputable def key_Handd : V → List Obj → Option (Int) := fun v objs => match v, objs with
  | V.s (S.i IntKind.u64 y0), [] => some (y0)
  | _, _ => none
theorem key_Hand_eq (x0 x1 x2 : Int) : fnE key_Handc Tryd.f117 ([V.s (S.i IntKind.i64 x0), V.s (S.i IntKind.i64 x1), V.s (S.i IntKind.i64 x2)]) ([]) key_Handd = key_Hand x0 x1 x2 := by kernel_rfl
noncomputable def key_Handa {R : Type} (o : Orc) (vs : List V) (objs : List Obj) (K : Bool → V → List Obj → Option R) : Option R := match vs, objs with
  | [V.s (S.i IntKind.i64 x0), V.s (S.i IntKind.i64 x1), V.s (S.i IntKind.i64 x2)], [] => ob (key_Hand x0 x1 x2) fun y0 => K false (V.s (S.i IntKind.u64 y0)) ([])
  | _, _ => o 117 vs objs K
noncomputable def key_Hando (o : Orc) : Orc := hook 117 (key_Handa o) o
theorem key_Hando_ok (o : Orc) (ho : OSound Tryd.prog o) : OSound Tryd.prog (key_Hando o) := hook_ok ho fun vs objs K r h => by
  unfold key_Handa at h
  split at h
  · skip
    obtain ⟨t, h1, h2⟩ := ob_ok h
    refine anyOK_of mixed key_Handc_ok (fn := Tryd.f117) (b := (Tryd.f117).body.getD .skip) (by kernel_rfl) (by kernel_rfl) (by kernel_rfl) ((key_Hand_eq _ _ _).trans h1) (m := 0) rfl (AllP.of (l' := []) (by kernel_rfl) trivial) fun v objs' hd => ?_
    unfold key_Handd at hd
    split at hd
    · skip
      cases hd
      exact h2
    · cases hd
  · exact ho _ _ _ _ _ h
noncomputable def key_Sidec : Ctx := mkC 2 ((key_mixo oNil)) [] lpNil
theorem key_Sidec_ok : CtxOK Tryd.prog key_Sidec := mkC_ok ((key_mixo_ok _ oNil_ok))
noncomputable def key_Sided : V → List Obj → Option (Int) := fun v objs => match v, objs with
  | V.s (S.i IntKind.u64 y0), [] => some (y0)
  | _, _ => none
theorem key_Side_eq : fnE key_Sidec Tryd.f118 ([]) ([]) key_Sided = key_Side  := by kernel_rfl
noncomputable def key_Sidea {R : Type} (o : Orc) (vs : List V) (objs : List Obj) (K : Bool → V → List Obj → Option R) : Option R := match vs, objs with
  | [], [] => ob (key_Side ) fun y0 => K false (V.s (S.i IntKind.u64 y0)) ([])
  | _, _ => o 118 vs objs K
noncomputable def key_Sideo (o : Orc) : Orc := hook 118 (key_Sidea o) o
theorem key_Sideo_ok (o : Orc) (ho : OSound Tryd.prog o) : OSound Tryd.prog (key_Sideo o) := hook_ok ho fun vs objs K r h => by
  unfold key_Sidea at h
  split at h
  · skip
    obtain ⟨t, h1, h2⟩ := ob_ok h
    refine anyOK_of mixed key_Sidec_ok (fn := Tryd.f118) (b := (Tryd.f118).body.getD .skip) (by kernel_rfl) (by kernel_rfl) (by kernel_rfl) ((key_Side_eq).trans h1) (m := 0) rfl (AllP.of (l' := []) (by kernel_rfl) trivial) fun v objs' hd => ?_
    unfold key_Sided at hd
    split at hd
    · skip
      cases hd
      exact h2
    · cases hd
  · exact ho _ _ _ _ _ h
noncomputable def key_Ofl3d : Ex → List V → List Obj → Option (Int × List Int × List Int × Int) := fun e vs objs => match e, vs, objs with
  | Ex.exit 0, [V.s (S.ptr 0 0 none 0), V.s (S.i IntKind.u64 y0)], [Obj.cells 28 [Seg.arr IntKind.i8 81 y1, Seg.arr IntKind.i8 16 y2, Seg.one [S.i IntKind.i8 y3]]] => some (y0, y1, y2, y3)
  | _, _, _ => none
noncomputable def key_Ofl11d : Ex → List V → List Obj → Option (Int × List Int × Int × List Int × List Int × Int) := fun e vs objs => match e, vs, objs with
  | Ex.exit 4, [V.s (S.ptr 0 0 none 0), V.s (S.i IntKind.u64 y0), V.agg [Seg.arr IntKind.i8 16 y1], V.s (S.i IntKind.i64 y2)], [Obj.cells 28 [Seg.arr IntKind.i8 81 y3, Seg.arr IntKind.i8 16 y4, Seg.one [S.i IntKind.i8 y5]]] => some (y0, y1, y2, y3, y4, y5)
  | _, _, _ => none
noncomputable def key_Ofl8d : Ex → List V → List Obj → Option (Int × List Int × List Int × Int) := fun e vs objs => match e, vs, objs with
  | Ex.exit 2, [V.s (S.ptr 0 0 none 0), V.s (S.i IntKind.u64 y0)], [Obj.cells 28 [Seg.arr IntKind.i8 81 y1, Seg.arr IntKind.i8 16 y2, Seg.one [S.i IntKind.i8 y3]]] => some (y0, y1, y2, y3)
  | _, _, _ => none
noncomputable def key_Ofp3 {R : Type} (vs : List V) (objs : List Obj) (K : Ex → List V → List Obj → Option R) : Option R := match vs, objs with
  | [V.s (S.ptr 0 0 none 0), V.s (S.i IntKind.u64 x0), V.agg [Seg.arr IntKind.i8 81 x1], V.s (S.i IntKind.i64 x2)], [Obj.cells 28 [Seg.arr IntKind.i8 81 x3, Seg.arr IntKind.i8 16 x4, Seg.one [S.i IntKind.i8 x5]]] => ob (key_Ofl3 many x0 x1 x2 x3 x4 x5) fun z => K (Ex.exit 0) ([V.s (S.ptr 0 0 none 0), V.s (S.i IntKind.u64 (z.1))]) ([Obj.cells 28 [Seg.arr IntKind.i8 81 (z.2.1), Seg.arr IntKind.i8 16 (z.2.2.1), Seg.one [S.i IntKind.i8 (z.2.2.2)]]])
  | _, _ => none
noncomputable def key_Ofp11 {R : Type} (vs : List V) (objs : List Obj) (K : Ex → List V → List Obj → Option R) : Option R := match vs, objs with
  | [V.s (S.ptr 0 0 none 0), V.s (S.i IntKind.u64 x0), V.s (S.i IntKind.i64 x1), V.agg [Seg.arr IntKind.i8 16 x2], V.s (S.i IntKind.i64 x3), V.agg [Seg.arr IntKind.i8 8 x4], V.s (S.i IntKind.i64 x5)], [Obj.cells 28 [Seg.arr IntKind.i8 81 x6, Seg.arr IntKind.i8 16 x7, Seg.one [S.i IntKind.i8 x8]]] => ob (key_Ofl11 many x0 x1 x2 x3 x4 x5 x6 x7 x8) fun z => K (Ex.exit 4) ([V.s (S.ptr 0 0 none 0), V.s (S.i IntKind.u64 (z.1)), V.agg [Seg.arr IntKind.i8 16 (z.2.1)], V.s (S.i IntKind.i64 (z.2.2.1))]) ([Obj.cells 28 [Seg.arr IntKind.i8 81 (z.2.2.2.1), Seg.arr IntKind.i8 16 (z.2.2.2.2.1), Seg.one [S.i IntKind.i8 (z.2.2.2.2.2)]]])
  | _, _ => none
noncomputable def key_Ofp8 {R : Type} (vs : List V) (objs : List Obj) (K : Ex → List V → List Obj → Option R) : Option R := match vs, objs with
  | [V.s (S.ptr 0 0 none 0), V.s (S.i IntKind.u64 x0), V.agg [Seg.arr IntKind.i8 16 x1], V.s (S.i IntKind.i64 x2)], [Obj.cells 28 [Seg.arr IntKind.i8 81 x3, Seg.arr IntKind.i8 16 x4, Seg.one [S.i IntKind.i8 x5]]] => ob (key_Ofl8 many x0 x1 x2 x3 x4 x5) fun z => K (Ex.exit 2) ([V.s (S.ptr 0 0 none 0), V.s (S.i IntKind.u64 (z.1))]) ([Obj.cells 28 [Seg.arr IntKind.i8 81 (z.2.1), Seg.arr IntKind.i8 16 (z.2.2.1), Seg.one [S.i IntKind.i8 (z.2.2.2)]]])
  | _, _ => none
noncomputable def key_Oflp : {R : Type} → Nat → List V → List Obj → (Ex → List V → List Obj → Option R) → Option R := fun q vs objs K => bif Nat.beq q 3 then key_Ofp3 vs objs K else bif Nat.beq q 11 then key_Ofp11 vs objs K else bif Nat.beq q 8 then key_Ofp8 vs objs K else none
noncomputable def key_Ofc : Ctx := mkC 49 ((key_Sideo (key_Hando (key_Pieceo oNil)))) [(3, [1, 3, 11, 12], [1, 3]), (8, [1, 3, 23, 24], [1, 3]), (11, [1, 3, 6, 23, 24, 28, 29], [1, 3, 23, 24])] key_Oflp
theorem key_Ofc_ok : CtxOK Tryd.prog key_Ofc := mkC_ok ((key_Sideo_ok _ (key_Hando_ok _ (key_Pieceo_ok _ oNil_ok))))
noncomputable def key_Ofl3r (f : Nat) (x0 : Int) (x1 : List Int) (x2 : Int) (x3 x4 : List Int) (x5 : Int) : Option (Int × List Int × List Int × Int) := lrun key_Ofc 0 [1, 3, 11, 12] [1, 3] (loopOf Tryd.f96 3) f ([V.s (S.ptr 0 0 none 0), V.s (S.i IntKind.u64 x0), V.agg [Seg.arr IntKind.i8 81 x1], V.s (S.i IntKind.i64 x2)]) ([Obj.cells 28 [Seg.arr IntKind.i8 81 x3, Seg.arr IntKind.i8 16 x4, Seg.one [S.i IntKind.i8 x5]]]) key_Ofl3d
theorem key_Ofl3_step (f : Nat) (x0 : Int) (x1 : List Int) (x2 : Int) (x3 x4 : List Int) (x5 : Int) : key_Ofl3r (f + 1) x0 x1 x2 x3 x4 x5 = key_Ofl3s (key_Ofl3r f) x0 x1 x2 x3 x4 x5 := by kernel_rfl
theorem key_Ofl3_eq : ∀ f, key_Ofl3r f = key_Ofl3 f
  | 0 => rfl
  | f + 1 => by funext x0 x1 x2 x3 x4 x5; rw [key_Ofl3_step, key_Ofl3_eq f]; rfl
noncomputable def key_Ofl11r (f : Nat) (x0 x1 : Int) (x2 : List Int) (x3 : Int) (x4 : List Int) (x5 : Int) (x6 x7 : List Int) (x8 : Int) : Option (Int × List Int × Int × List Int × List Int × Int) := lrun key_Ofc 0 [1, 3, 6, 23, 24, 28, 29] [1, 3, 23, 24] (loopOf Tryd.f96 11) f ([V.s (S.ptr 0 0 none 0), V.s (S.i IntKind.u64 x0), V.s (S.i IntKind.i64 x1), V.agg [Seg.arr IntKind.i8 16 x2], V.s (S.i IntKind.i64 x3), V.agg [Seg.arr IntKind.i8 8 x4], V.s (S.i IntKind.i64 x5)]) ([Obj.cells 28 [Seg.arr IntKind.i8 81 x6, Seg.arr IntKind.i8 16 x7, Seg.one [S.i IntKind.i8 x8]]]) key_Ofl11d
theorem key_Ofl11_step (f : Nat) (x0 x1 : Int) (x2 : List Int) (x3 : Int) (x4 : List Int) (x5 : Int) (x6 x7 : List Int) (x8 : Int) : key_Ofl11r (f + 1) x0 x1 x2 x3 x4 x5 x6 x7 x8 = key_Ofl11s (key_Ofl11r f) x0 x1 x2 x3 x4 x5 x6 x7 x8 := by kernel_rfl
theorem key_Ofl11_eq : ∀ f, key_Ofl11r f = key_Ofl11 f
  | 0 => rfl
  | f + 1 => by funext x0 x1 x2 x3 x4 x5 x6 x7 x8; rw [key_Ofl11_step, key_Ofl11_eq f]; rfl
noncomputable def key_Ofl8r (f : Nat) (x0 : Int) (x1 : List Int) (x2 : Int) (x3 x4 : List Int) (x5 : Int) : Option (Int × List Int × List Int × Int) := lrun key_Ofc 0 [1, 3, 23, 24] [1, 3] (loopOf Tryd.f96 8) f ([V.s (S.ptr 0 0 none 0), V.s (S.i IntKind.u64 x0), V.agg [Seg.arr IntKind.i8 16 x1], V.s (S.i IntKind.i64 x2)]) ([Obj.cells 28 [Seg.arr IntKind.i8 81 x3, Seg.arr IntKind.i8 16 x4, Seg.one [S.i IntKind.i8 x5]]]) key_Ofl8d
theorem key_Ofl8_step (f : Nat) (x0 : Int) (x1 : List Int) (x2 : Int) (x3 x4 : List Int) (x5 : Int) : key_Ofl8r (f + 1) x0 x1 x2 x3 x4 x5 = key_Ofl8s (key_Ofl8r f) x0 x1 x2 x3 x4 x5 := by kernel_rfl
theorem key_Ofl8_eq : ∀ f, key_Ofl8r f = key_Ofl8 f
  | 0 => rfl
  | f + 1 => by funext x0 x1 x2 x3 x4 x5; rw [key_Ofl8_step, key_Ofl8_eq f]; rfl
theorem key_Ofs3 : LoopSound Tryd.prog key_Ofc 0 (loopOf Tryd.f96 3) :=
  loopSound_by mixed key_Ofc_ok (AllP.of (l' := []) (by kernel_rfl) trivial) (q := 3) (kin := [1, 3, 11, 12]) (kout := [1, 3]) (by kernel_rfl) (by kernel_rfl) fun vs objs K r h => by
    replace h : key_Ofp3 vs objs K = some r := h
    unfold key_Ofp3 at h
    split at h
    · skip
      obtain ⟨t, h1, h2⟩ := ob_ok h
      rw [← key_Ofl3_eq] at h1
      refine ⟨_, key_Ofl3d, t, many, h1, fun e vs' objs' hd => ?_⟩
      unfold key_Ofl3d at hd
      split at hd
      · skip
        cases hd
        exact h2
      · cases hd
    · cases h
theorem key_Ofs11 : LoopSound Tryd.prog key_Ofc 0 (loopOf Tryd.f96 11) :=
  loopSound_by mixed key_Ofc_ok (AllP.of (l' := []) (by kernel_rfl) trivial) (q := 11) (kin := [1, 3, 6, 23, 24, 28, 29]) (kout := [1, 3, 23, 24]) (by kernel_rfl) (by kernel_rfl) fun vs objs K r h => by
    replace h : key_Ofp11 vs objs K = some r := h
    unfold key_Ofp11 at h
    split at h
    · skip
      obtain ⟨t, h1, h2⟩ := ob_ok h
      rw [← key_Ofl11_eq] at h1
      refine ⟨_, key_Ofl11d, t, many, h1, fun e vs' objs' hd => ?_⟩
      unfold key_Ofl11d at hd
      split at hd
      · skip
        cases hd
        exact h2
      · cases hd
    · cases h
theorem key_Ofs8 : LoopSound Tryd.prog key_Ofc 0 (loopOf Tryd.f96 8) :=
  loopSound_by mixed key_Ofc_ok (AllP.of (l' := [loopOf Tryd.f96 11]) (by kernel_rfl) ⟨key_Ofs11, trivial⟩) (q := 8) (kin := [1, 3, 23, 24]) (kout := [1, 3]) (by kernel_rfl) (by kernel_rfl) fun vs objs K r h => by
    replace h : key_Ofp8 vs objs K = some r := h
    unfold key_Ofp8 at h
    split at h
    · skip
      obtain ⟨t, h1, h2⟩ := ob_ok h
      rw [← key_Ofl8_eq] at h1
      refine ⟨_, key_Ofl8d, t, many, h1, fun e vs' objs' hd => ?_⟩
      unfold key_Ofl8d at hd
      split at hd
      · skip
        cases hd
        exact h2
      · cases hd
    · cases h
noncomputable def key_Ofd : V → List Obj → Option (Int) := fun v objs => match v, objs with
  | V.s (S.i IntKind.u64 y0), [] => some (y0)
  | _, _ => none
theorem key_Of_eq (x0 x1 : List Int) (x2 : Int) : fnE key_Ofc Tryd.f96 ([V.agg [Seg.arr IntKind.i8 81 x0, Seg.arr IntKind.i8 16 x1, Seg.one [S.i IntKind.i8 x2]]]) ([]) key_Ofd = key_Of x0 x1 x2 := by kernel_rfl
noncomputable def key_Ofa {R : Type} (o : Orc) (vs : List V) (objs : List Obj) (K : Bool → V → List Obj → Option R) : Option R := match vs, objs with
  | [V.agg [Seg.arr IntKind.i8 81 x0, Seg.arr IntKind.i8 16 x1, Seg.one [S.i IntKind.i8 x2]]], [] => ob (key_Of x0 x1 x2) fun y0 => K false (V.s (S.i IntKind.u64 y0)) ([])
  | _, _ => o 96 vs objs K
noncomputable def key_Ofo (o : Orc) : Orc := hook 96 (key_Ofa o) o
theorem key_Ofo_ok (o : Orc) (ho : OSound Tryd.prog o) : OSound Tryd.prog (key_Ofo o) := hook_ok ho fun vs objs K r h => by
  unfold key_Ofa at h
  split at h
  · skip
    obtain ⟨t, h1, h2⟩ := ob_ok h
    refine anyOK_of mixed key_Ofc_ok (fn := Tryd.f96) (b := (Tryd.f96).body.getD .skip) (by kernel_rfl) (by kernel_rfl) (by kernel_rfl) ((key_Of_eq _ _ _).trans h1) (m := 0) rfl (AllP.of (l' := [loopOf Tryd.f96 3, loopOf Tryd.f96 8]) (by kernel_rfl) ⟨key_Ofs3, key_Ofs8, trivial⟩) fun v objs' hd => ?_
    unfold key_Ofd at hd
    split at hd
    · skip
      cases hd
      exact h2
    · cases hd
  · exact ho _ _ _ _ _ h
noncomputable def deed_Newc : Ctx := mkC 14 ((key_Ofo (board_Newo oNil))) [] lpNil
theorem deed_Newc_ok : CtxOK Tryd.prog deed_Newc := mkC_ok ((key_Ofo_ok _ (board_Newo_ok _ oNil_ok)))
noncomputable def deed_Newd : V → List Obj → Option (Int × Nat × List Int × List Int × Int × List (List Int) × List (List Int) × Nat × List (List Int)) := fun v objs => match v, objs with
  | V.s (S.ptr 0 0 none 0), [Obj.cells 89 [Seg.one [S.ptr 1 0 none 0, S.i IntKind.u64 y0, S.sl 2 0 y1 true]], Obj.cells 69 [Seg.arr IntKind.i8 81 y2, Seg.arr IntKind.i8 16 y3, Seg.one [S.i IntKind.i8 y4], Seg.rows [.i .u64, .i .u64] 32 y5, Seg.rows [.i .u64, .i .u64] 2 y6], Obj.sli 109 false (Seg.rows [.i .i64, .i .i64, .i .i64, .b, .i .i8, .i .i8] y7 y8)] => some (y0, y1, y2, y3, y4, y5, y6, y7, y8)
  | _, _ => none
theorem deed_New_eq (x0 x1 : List Int) (x2 : Int) : fnE deed_Newc Tryd.f64 ([V.agg [Seg.arr IntKind.i8 81 x0, Seg.arr IntKind.i8 16 x1, Seg.one [S.i IntKind.i8 x2]]]) ([]) deed_Newd = deed_New x0 x1 x2 := by kernel_rfl
noncomputable def deed_Newa {R : Type} (o : Orc) (vs : List V) (objs : List Obj) (K : Bool → V → List Obj → Option R) : Option R := match vs, objs with
  | [V.agg [Seg.arr IntKind.i8 81 x0, Seg.arr IntKind.i8 16 x1, Seg.one [S.i IntKind.i8 x2]]], [] => ob (deed_New x0 x1 x2) fun z => K false (V.s (S.ptr 0 0 none 0)) ([Obj.cells 89 [Seg.one [S.ptr 1 0 none 0, S.i IntKind.u64 (z.1), S.sl 2 0 (z.2.1) true]], Obj.cells 69 [Seg.arr IntKind.i8 81 (z.2.2.1), Seg.arr IntKind.i8 16 (z.2.2.2.1), Seg.one [S.i IntKind.i8 (z.2.2.2.2.1)], Seg.rows [.i .u64, .i .u64] 32 (z.2.2.2.2.2.1), Seg.rows [.i .u64, .i .u64] 2 (z.2.2.2.2.2.2.1)], Obj.sli 109 false (Seg.rows [.i .i64, .i .i64, .i .i64, .b, .i .i8, .i .i8] (z.2.2.2.2.2.2.2.1) (z.2.2.2.2.2.2.2.2))])
  | _, _ => o 64 vs objs K
noncomputable def deed_Newo (o : Orc) : Orc := hook 64 (deed_Newa o) o
theorem deed_Newo_ok (o : Orc) (ho : OSound Tryd.prog o) : OSound Tryd.prog (deed_Newo o) := hook_ok ho fun vs objs K r h => by
  unfold deed_Newa at h
  split at h
  · skip
    obtain ⟨t, h1, h2⟩ := ob_ok h
    refine anyOK_of mixed deed_Newc_ok (fn := Tryd.f64) (b := (Tryd.f64).body.getD .skip) (by kernel_rfl) (by kernel_rfl) (by kernel_rfl) ((deed_New_eq _ _ _).trans h1) (m := 0) rfl (AllP.of (l' := []) (by kernel_rfl) trivial) fun v objs' hd => ?_
    unfold deed_Newd at hd
    split at hd
    · skip
      cases hd
      exact h2
    · cases hd
  · exact ho _ _ _ _ _ h
noncomputable def move_Checkc : Ctx := mkC 48 (oNil) [] lpNil
theorem move_Checkc_ok : CtxOK Tryd.prog move_Checkc := mkC_ok (oNil_ok)
noncomputable def move_Checkd : V → List Obj → Option (Int) := fun v objs => match v, objs with
  | V.s (S.i IntKind.i64 y0), [] => some (y0)
  | _, _ => none
theorem move_Check_eq (x0 x1 x2 : Int) (x3 : Bool) : fnE move_Checkc Tryd.f119 ([V.agg [Seg.one [S.i IntKind.i64 x0, S.i IntKind.i64 x1, S.i IntKind.i64 x2, S.b x3]]]) ([]) move_Checkd = move_Check x0 x1 x2 x3 := by kernel_rfl
noncomputable def move_Checka {R : Type} (o : Orc) (vs : List V) (objs : List Obj) (K : Bool → V → List Obj → Option R) : Option R := match vs, objs with
  | [V.agg [Seg.one [S.i IntKind.i64 x0, S.i IntKind.i64 x1, S.i IntKind.i64 x2, S.b x3]]], [] => ob (move_Check x0 x1 x2 x3) fun y0 => K false (V.s (S.i IntKind.i64 y0)) ([])
  | _, _ => o 119 vs objs K
noncomputable def move_Checko (o : Orc) : Orc := hook 119 (move_Checka o) o
theorem move_Checko_ok (o : Orc) (ho : OSound Tryd.prog o) : OSound Tryd.prog (move_Checko o) := hook_ok ho fun vs objs K r h => by
  unfold move_Checka at h
  split at h
  · skip
    obtain ⟨t, h1, h2⟩ := ob_ok h
    refine anyOK_of mixed move_Checkc_ok (fn := Tryd.f119) (b := (Tryd.f119).body.getD .skip) (by kernel_rfl) (by kernel_rfl) (by kernel_rfl) ((move_Check_eq _ _ _ _).trans h1) (m := 0) rfl (AllP.of (l' := []) (by kernel_rfl) trivial) fun v objs' hd => ?_
    unfold move_Checkd at hd
    split at hd
    · skip
      cases hd
      exact h2
    · cases hd
  · exact ho _ _ _ _ _ h
noncomputable def deed_Game_Canc : Ctx := mkC 104 ((piece_Upo (piece_Kindo (piece_Sideo (board_Ato (board_Hando (move_Checko oNil))))))) [] lpNil
theorem deed_Game_Canc_ok : CtxOK Tryd.prog deed_Game_Canc := mkC_ok ((piece_Upo_ok _ (piece_Kindo_ok _ (piece_Sideo_ok _ (board_Ato_ok _ (board_Hando_ok _ (move_Checko_ok _ oNil_ok)))))))
noncomputable def deed_Game_Cand : V → List Obj → Option (Bool) := fun v objs => match v, objs with
  | V.s (S.b y0), [] => some (y0)
  | _, _ => none
theorem deed_Game_Can_eq (x0 x1 x2 : Int) (x3 : Bool) (x4 : Int) (x5 : Nat) (x6 x7 : List Int) (x8 : Int) (x9 x10 : List (List Int)) (x11 : Nat) (x12 : List (List Int)) : fnE deed_Game_Canc Tryd.f97 ([V.s (S.ptr 0 0 none 0), V.agg [Seg.one [S.i IntKind.i64 x0, S.i IntKind.i64 x1, S.i IntKind.i64 x2, S.b x3]]]) ([Obj.rcells 89 [Seg.one [S.ptr 1 0 none 0, S.i IntKind.u64 x4, S.sl 2 0 x5 true]], Obj.rcells 69 [Seg.arr IntKind.i8 81 x6, Seg.arr IntKind.i8 16 x7, Seg.one [S.i IntKind.i8 x8], Seg.rows [.i .u64, .i .u64] 32 x9, Seg.rows [.i .u64, .i .u64] 2 x10], Obj.sli 109 true (Seg.rows [.i .i64, .i .i64, .i .i64, .b, .i .i8, .i .i8] x11 x12)]) (pureD 3 deed_Game_Cand) = deed_Game_Can x0 x1 x2 x3 x4 x5 x6 x7 x8 x9 x10 x11 x12 := by kernel_rfl
noncomputable def deed_Game_Cana {R : Type} (o : Orc) (vs : List V) (objs : List Obj) (K : Bool → V → List Obj → Option R) : Option R := match vs, List.map Obj.toRO objs with
  | [V.s (S.ptr 0 0 none 0), V.agg [Seg.one [S.i IntKind.i64 x0, S.i IntKind.i64 x1, S.i IntKind.i64 x2, S.b x3]]], [Obj.rcells 89 [Seg.one [S.ptr 1 0 none 0, S.i IntKind.u64 x4, S.sl 2 0 x5 true]], Obj.rcells 69 [Seg.arr IntKind.i8 81 x6, Seg.arr IntKind.i8 16 x7, Seg.one [S.i IntKind.i8 x8], Seg.rows [.i .u64, .i .u64] 32 x9, Seg.rows [.i .u64, .i .u64] 2 x10], Obj.sli 109 true (Seg.rows [.i .i64, .i .i64, .i .i64, .b, .i .i8, .i .i8] x11 x12)] => ob (deed_Game_Can x0 x1 x2 x3 x4 x5 x6 x7 x8 x9 x10 x11 x12) fun y0 => K true (V.s (S.b y0)) ([])
  | _, _ => o 97 vs objs K
noncomputable def deed_Game_Cano (o : Orc) : Orc := hook 97 (deed_Game_Cana o) o
theorem deed_Game_Cano_ok (o : Orc) (ho : OSound Tryd.prog o) : OSound Tryd.prog (deed_Game_Cano o) := hook_ok ho fun vs objs K r h => by
  unfold deed_Game_Cana at h
  split at h
  · skip
    have hq : List.map Obj.toRO objs = _ := (by rename_i hq; first | exact hq | assumption)
    obtain ⟨t, h1, h2⟩ := ob_ok h
    refine purOK_by mixed deed_Game_Canc_ok (m := 3) (fn := Tryd.f97) (b := (Tryd.f97).body.getD .skip) (by kernel_rfl) (by kernel_rfl) (by kernel_rfl) hq (by kernel_rfl) (by kernel_rfl) (AllP.of (l' := []) (by kernel_rfl) trivial) ((deed_Game_Can_eq _ _ _ _ _ _ _ _ _ _ _ _ _).trans h1) fun v objs' hd => ?_
    unfold deed_Game_Cand at hd
    split at hd
    · skip
      cases hd
      exact h2
    · cases hd
  · exact ho _ _ _ _ _ h
noncomputable def deed_Game_handc : Ctx := mkC 54 ((key_Hando (board_Hando oNil))) [] lpNil
theorem deed_Game_handc_ok : CtxOK Tryd.prog deed_Game_handc := mkC_ok ((key_Hando_ok _ (board_Hando_ok _ oNil_ok)))
noncomputable def deed_Game_handd : V → List Obj → Option (Int × Nat × List Int × List Int × Int × List (List Int) × List (List Int) × Nat × List (List Int)) := fun v objs => match v, objs with
  | V.tup [], [Obj.cells 89 [Seg.one [S.ptr 1 0 none 0, S.i IntKind.u64 y0, S.sl 2 0 y1 true]], Obj.cells 69 [Seg.arr IntKind.i8 81 y2, Seg.arr IntKind.i8 16 y3, Seg.one [S.i IntKind.i8 y4], Seg.rows [.i .u64, .i .u64] 32 y5, Seg.rows [.i .u64, .i .u64] 2 y6], Obj.sli 109 false (Seg.rows [.i .i64, .i .i64, .i .i64, .b, .i .i8, .i .i8] y7 y8)] => some (y0, y1, y2, y3, y4, y5, y6, y7, y8)
  | _, _ => none
theorem deed_Game_hand_eq (x0 x1 : Int) (x2 x3 : Int) (x4 : Nat) (x5 x6 : List Int) (x7 : Int) (x8 x9 : List (List Int)) (x10 : Nat) (x11 : List (List Int)) : fnE deed_Game_handc Tryd.f98 ([V.s (S.ptr 0 0 none 0), V.s (S.i IntKind.i64 x0), V.s (S.i IntKind.i64 x1), V.s (S.i IntKind.i64 x2)]) ([Obj.cells 89 [Seg.one [S.ptr 1 0 none 0, S.i IntKind.u64 x3, S.sl 2 0 x4 true]], Obj.cells 69 [Seg.arr IntKind.i8 81 x5, Seg.arr IntKind.i8 16 x6, Seg.one [S.i IntKind.i8 x7], Seg.rows [.i .u64, .i .u64] 32 x8, Seg.rows [.i .u64, .i .u64] 2 x9], Obj.sli 109 false (Seg.rows [.i .i64, .i .i64, .i .i64, .b, .i .i8, .i .i8] x10 x11)]) deed_Game_handd = deed_Game_hand x0 x1 x2 x3 x4 x5 x6 x7 x8 x9 x10 x11 := by kernel_rfl
noncomputable def deed_Game_handa {R : Type} (o : Orc) (vs : List V) (objs : List Obj) (K : Bool → V → List Obj → Option R) : Option R := match vs, objs with
  | [V.s (S.ptr 0 0 none 0), V.s (S.i IntKind.i64 x0), V.s (S.i IntKind.i64 x1), V.s (S.i IntKind.i64 x2)], [Obj.cells 89 [Seg.one [S.ptr 1 0 none 0, S.i IntKind.u64 x3, S.sl 2 0 x4 true]], Obj.cells 69 [Seg.arr IntKind.i8 81 x5, Seg.arr IntKind.i8 16 x6, Seg.one [S.i IntKind.i8 x7], Seg.rows [.i .u64, .i .u64] 32 x8, Seg.rows [.i .u64, .i .u64] 2 x9], Obj.sli 109 false (Seg.rows [.i .i64, .i .i64, .i .i64, .b, .i .i8, .i .i8] x10 x11)] => ob (deed_Game_hand x0 x1 x2 x3 x4 x5 x6 x7 x8 x9 x10 x11) fun z => K false (V.tup []) ([Obj.cells 89 [Seg.one [S.ptr 1 0 none 0, S.i IntKind.u64 (z.1), S.sl 2 0 (z.2.1) true]], Obj.cells 69 [Seg.arr IntKind.i8 81 (z.2.2.1), Seg.arr IntKind.i8 16 (z.2.2.2.1), Seg.one [S.i IntKind.i8 (z.2.2.2.2.1)], Seg.rows [.i .u64, .i .u64] 32 (z.2.2.2.2.2.1), Seg.rows [.i .u64, .i .u64] 2 (z.2.2.2.2.2.2.1)], Obj.sli 109 false (Seg.rows [.i .i64, .i .i64, .i .i64, .b, .i .i8, .i .i8] (z.2.2.2.2.2.2.2.1) (z.2.2.2.2.2.2.2.2))])
  | _, _ => o 98 vs objs K
noncomputable def deed_Game_hando (o : Orc) : Orc := hook 98 (deed_Game_handa o) o
theorem deed_Game_hando_ok (o : Orc) (ho : OSound Tryd.prog o) : OSound Tryd.prog (deed_Game_hando o) := hook_ok ho fun vs objs K r h => by
  unfold deed_Game_handa at h
  split at h
  · skip
    obtain ⟨t, h1, h2⟩ := ob_ok h
    refine anyOK_of mixed deed_Game_handc_ok (fn := Tryd.f98) (b := (Tryd.f98).body.getD .skip) (by kernel_rfl) (by kernel_rfl) (by kernel_rfl) ((deed_Game_hand_eq _ _ _ _ _ _ _ _ _ _ _ _).trans h1) (m := 3) rfl (AllP.of (l' := []) (by kernel_rfl) trivial) fun v objs' hd => ?_
    unfold deed_Game_handd at hd
    split at hd
    · skip
      cases hd
      exact h2
    · cases hd
  · exact ho _ _ _ _ _ h
noncomputable def deed_Game_putc : Ctx := mkC 32 ((board_Puto (key_Pieceo (board_Ato oNil)))) [] lpNil
theorem deed_Game_putc_ok : CtxOK Tryd.prog deed_Game_putc := mkC_ok ((board_Puto_ok _ (key_Pieceo_ok _ (board_Ato_ok _ oNil_ok))))
noncomputable def deed_Game_putd : V → List Obj → Option (Int × Nat × List Int × List Int × Int × List (List Int) × List (List Int) × Nat × List (List Int)) := fun v objs => match v, objs with
  | V.tup [], [Obj.cells 89 [Seg.one [S.ptr 1 0 none 0, S.i IntKind.u64 y0, S.sl 2 0 y1 true]], Obj.cells 69 [Seg.arr IntKind.i8 81 y2, Seg.arr IntKind.i8 16 y3, Seg.one [S.i IntKind.i8 y4], Seg.rows [.i .u64, .i .u64] 32 y5, Seg.rows [.i .u64, .i .u64] 2 y6], Obj.sli 109 false (Seg.rows [.i .i64, .i .i64, .i .i64, .b, .i .i8, .i .i8] y7 y8)] => some (y0, y1, y2, y3, y4, y5, y6, y7, y8)
  | _, _ => none
theorem deed_Game_put_eq (x0 x1 x2 : Int) (x3 : Nat) (x4 x5 : List Int) (x6 : Int) (x7 x8 : List (List Int)) (x9 : Nat) (x10 : List (List Int)) : fnE deed_Game_putc Tryd.f99 ([V.s (S.ptr 0 0 none 0), V.s (S.i IntKind.i64 x0), V.s (S.i IntKind.i8 x1)]) ([Obj.cells 89 [Seg.one [S.ptr 1 0 none 0, S.i IntKind.u64 x2, S.sl 2 0 x3 true]], Obj.cells 69 [Seg.arr IntKind.i8 81 x4, Seg.arr IntKind.i8 16 x5, Seg.one [S.i IntKind.i8 x6], Seg.rows [.i .u64, .i .u64] 32 x7, Seg.rows [.i .u64, .i .u64] 2 x8], Obj.sli 109 false (Seg.rows [.i .i64, .i .i64, .i .i64, .b, .i .i8, .i .i8] x9 x10)]) deed_Game_putd = deed_Game_put x0 x1 x2 x3 x4 x5 x6 x7 x8 x9 x10 := by kernel_rfl
noncomputable def deed_Game_puta {R : Type} (o : Orc) (vs : List V) (objs : List Obj) (K : Bool → V → List Obj → Option R) : Option R := match vs, objs with
  | [V.s (S.ptr 0 0 none 0), V.s (S.i IntKind.i64 x0), V.s (S.i IntKind.i8 x1)], [Obj.cells 89 [Seg.one [S.ptr 1 0 none 0, S.i IntKind.u64 x2, S.sl 2 0 x3 true]], Obj.cells 69 [Seg.arr IntKind.i8 81 x4, Seg.arr IntKind.i8 16 x5, Seg.one [S.i IntKind.i8 x6], Seg.rows [.i .u64, .i .u64] 32 x7, Seg.rows [.i .u64, .i .u64] 2 x8], Obj.sli 109 false (Seg.rows [.i .i64, .i .i64, .i .i64, .b, .i .i8, .i .i8] x9 x10)] => ob (deed_Game_put x0 x1 x2 x3 x4 x5 x6 x7 x8 x9 x10) fun z => K false (V.tup []) ([Obj.cells 89 [Seg.one [S.ptr 1 0 none 0, S.i IntKind.u64 (z.1), S.sl 2 0 (z.2.1) true]], Obj.cells 69 [Seg.arr IntKind.i8 81 (z.2.2.1), Seg.arr IntKind.i8 16 (z.2.2.2.1), Seg.one [S.i IntKind.i8 (z.2.2.2.2.1)], Seg.rows [.i .u64, .i .u64] 32 (z.2.2.2.2.2.1), Seg.rows [.i .u64, .i .u64] 2 (z.2.2.2.2.2.2.1)], Obj.sli 109 false (Seg.rows [.i .i64, .i .i64, .i .i64, .b, .i .i8, .i .i8] (z.2.2.2.2.2.2.2.1) (z.2.2.2.2.2.2.2.2))])
  | _, _ => o 99 vs objs K
noncomputable def deed_Game_puto (o : Orc) : Orc := hook 99 (deed_Game_puta o) o
theorem deed_Game_puto_ok (o : Orc) (ho : OSound Tryd.prog o) : OSound Tryd.prog (deed_Game_puto o) := hook_ok ho fun vs objs K r h => by
  unfold deed_Game_puta at h
  split at h
  · skip
    obtain ⟨t, h1, h2⟩ := ob_ok h
    refine anyOK_of mixed deed_Game_putc_ok (fn := Tryd.f99) (b := (Tryd.f99).body.getD .skip) (by kernel_rfl) (by kernel_rfl) (by kernel_rfl) ((deed_Game_put_eq _ _ _ _ _ _ _ _ _ _ _).trans h1) (m := 3) rfl (AllP.of (l' := []) (by kernel_rfl) trivial) fun v objs' hd => ?_
    unfold deed_Game_putd at hd
    split at hd
    · skip
      cases hd
      exact h2
    · cases hd
  · exact ho _ _ _ _ _ h
noncomputable def deed_Game_turnc : Ctx := mkC 26 ((key_Sideo oNil)) [] lpNil
theorem deed_Game_turnc_ok : CtxOK Tryd.prog deed_Game_turnc := mkC_ok ((key_Sideo_ok _ oNil_ok))
noncomputable def deed_Game_turnd : V → List Obj → Option (Int × Nat × List Int × List Int × Int × List (List Int) × List (List Int) × Nat × List (List Int)) := fun v objs => match v, objs with
  | V.tup [], [Obj.cells 89 [Seg.one [S.ptr 1 0 none 0, S.i IntKind.u64 y0, S.sl 2 0 y1 true]], Obj.cells 69 [Seg.arr IntKind.i8 81 y2, Seg.arr IntKind.i8 16 y3, Seg.one [S.i IntKind.i8 y4], Seg.rows [.i .u64, .i .u64] 32 y5, Seg.rows [.i .u64, .i .u64] 2 y6], Obj.sli 109 false (Seg.rows [.i .i64, .i .i64, .i .i64, .b, .i .i8, .i .i8] y7 y8)] => some (y0, y1, y2, y3, y4, y5, y6, y7, y8)
  | _, _ => none
theorem deed_Game_turn_eq (x0 : Int) (x1 : Nat) (x2 x3 : List Int) (x4 : Int) (x5 x6 : List (List Int)) (x7 : Nat) (x8 : List (List Int)) : fnE deed_Game_turnc Tryd.f102 ([V.s (S.ptr 0 0 none 0)]) ([Obj.cells 89 [Seg.one [S.ptr 1 0 none 0, S.i IntKind.u64 x0, S.sl 2 0 x1 true]], Obj.cells 69 [Seg.arr IntKind.i8 81 x2, Seg.arr IntKind.i8 16 x3, Seg.one [S.i IntKind.i8 x4], Seg.rows [.i .u64, .i .u64] 32 x5, Seg.rows [.i .u64, .i .u64] 2 x6], Obj.sli 109 false (Seg.rows [.i .i64, .i .i64, .i .i64, .b, .i .i8, .i .i8] x7 x8)]) deed_Game_turnd = deed_Game_turn x0 x1 x2 x3 x4 x5 x6 x7 x8 := by kernel_rfl
noncomputable def deed_Game_turna {R : Type} (o : Orc) (vs : List V) (objs : List Obj) (K : Bool → V → List Obj → Option R) : Option R := match vs, objs with
  | [V.s (S.ptr 0 0 none 0)], [Obj.cells 89 [Seg.one [S.ptr 1 0 none 0, S.i IntKind.u64 x0, S.sl 2 0 x1 true]], Obj.cells 69 [Seg.arr IntKind.i8 81 x2, Seg.arr IntKind.i8 16 x3, Seg.one [S.i IntKind.i8 x4], Seg.rows [.i .u64, .i .u64] 32 x5, Seg.rows [.i .u64, .i .u64] 2 x6], Obj.sli 109 false (Seg.rows [.i .i64, .i .i64, .i .i64, .b, .i .i8, .i .i8] x7 x8)] => ob (deed_Game_turn x0 x1 x2 x3 x4 x5 x6 x7 x8) fun z => K false (V.tup []) ([Obj.cells 89 [Seg.one [S.ptr 1 0 none 0, S.i IntKind.u64 (z.1), S.sl 2 0 (z.2.1) true]], Obj.cells 69 [Seg.arr IntKind.i8 81 (z.2.2.1), Seg.arr IntKind.i8 16 (z.2.2.2.1), Seg.one [S.i IntKind.i8 (z.2.2.2.2.1)], Seg.rows [.i .u64, .i .u64] 32 (z.2.2.2.2.2.1), Seg.rows [.i .u64, .i .u64] 2 (z.2.2.2.2.2.2.1)], Obj.sli 109 false (Seg.rows [.i .i64, .i .i64, .i .i64, .b, .i .i8, .i .i8] (z.2.2.2.2.2.2.2.1) (z.2.2.2.2.2.2.2.2))])
  | _, _ => o 102 vs objs K
noncomputable def deed_Game_turno (o : Orc) : Orc := hook 102 (deed_Game_turna o) o
theorem deed_Game_turno_ok (o : Orc) (ho : OSound Tryd.prog o) : OSound Tryd.prog (deed_Game_turno o) := hook_ok ho fun vs objs K r h => by
  unfold deed_Game_turna at h
  split at h
  · skip
    obtain ⟨t, h1, h2⟩ := ob_ok h
    refine anyOK_of mixed deed_Game_turnc_ok (fn := Tryd.f102) (b := (Tryd.f102).body.getD .skip) (by kernel_rfl) (by kernel_rfl) (by kernel_rfl) ((deed_Game_turn_eq _ _ _ _ _ _ _ _ _).trans h1) (m := 3) rfl (AllP.of (l' := []) (by kernel_rfl) trivial) fun v objs' hd => ?_
    unfold deed_Game_turnd at hd
    split at hd
    · skip
      cases hd
      exact h2
    · cases hd
  · exact ho _ _ _ _ _ h
noncomputable def piece_Rawc : Ctx := mkC 13 ((piece_Ofo oNil)) [] lpNil
theorem piece_Rawc_ok : CtxOK Tryd.prog piece_Rawc := mkC_ok ((piece_Ofo_ok _ oNil_ok))
noncomputable def piece_Rawd : V → List Obj → Option (Int) := fun v objs => match v, objs with
  | V.s (S.i IntKind.i64 y0), [] => some (y0)
  | _, _ => none
theorem piece_Raw_eq (x0 : Int) : fnE piece_Rawc Tryd.f101 ([V.s (S.i IntKind.i64 x0)]) ([]) piece_Rawd = piece_Raw x0 := by kernel_rfl
noncomputable def piece_Rawa {R : Type} (o : Orc) (vs : List V) (objs : List Obj) (K : Bool → V → List Obj → Option R) : Option R := match vs, objs with
  | [V.s (S.i IntKind.i64 x0)], [] => ob (piece_Raw x0) fun y0 => K false (V.s (S.i IntKind.i64 y0)) ([])
  | _, _ => o 101 vs objs K
noncomputable def piece_Rawo (o : Orc) : Orc := hook 101 (piece_Rawa o) o
theorem piece_Rawo_ok (o : Orc) (ho : OSound Tryd.prog o) : OSound Tryd.prog (piece_Rawo o) := hook_ok ho fun vs objs K r h => by
  unfold piece_Rawa at h
  split at h
  · skip
    obtain ⟨t, h1, h2⟩ := ob_ok h
    refine anyOK_of mixed piece_Rawc_ok (fn := Tryd.f101) (b := (Tryd.f101).body.getD .skip) (by kernel_rfl) (by kernel_rfl) (by kernel_rfl) ((piece_Raw_eq _).trans h1) (m := 0) rfl (AllP.of (l' := []) (by kernel_rfl) trivial) fun v objs' hd => ?_
    unfold piece_Rawd at hd
    split at hd
    · skip
      cases hd
      exact h2
    · cases hd
  · exact ho _ _ _ _ _ h
noncomputable def deed_Game_Makec : Ctx := mkC 97 ((piece_Rawo (piece_Upo (piece_Kindo (deed_Game_turno (deed_Game_puto (deed_Game_hando (piece_Ofo (board_Ato (deed_Game_Cano oNil)))))))))) [] lpNil
theorem deed_Game_Makec_ok : CtxOK Tryd.prog deed_Game_Makec := mkC_ok ((piece_Rawo_ok _ (piece_Upo_ok _ (piece_Kindo_ok _ (deed_Game_turno_ok _ (deed_Game_puto_ok _ (deed_Game_hando_ok _ (piece_Ofo_ok _ (board_Ato_ok _ (deed_Game_Cano_ok _ oNil_ok))))))))))
noncomputable def deed_Game_Maked : V → List Obj → Option ((Bool × Int × Nat × List Int × List Int × Int × List (List Int) × List (List Int) × Nat × List (List Int)) ⊕ (Bool × Int × Nat × List Int × List Int × Int × List (List Int) × List (List Int) × Nat × List (List Int))) := fun v objs => match v, objs with
  | V.s (S.b y0), [Obj.cells 89 [Seg.one [S.ptr 1 0 none 0, S.i IntKind.u64 y1, S.sl 2 0 y2 true]], Obj.cells 69 [Seg.arr IntKind.i8 81 y3, Seg.arr IntKind.i8 16 y4, Seg.one [S.i IntKind.i8 y5], Seg.rows [.i .u64, .i .u64] 32 y6, Seg.rows [.i .u64, .i .u64] 2 y7], Obj.sli 109 false (Seg.rows [.i .i64, .i .i64, .i .i64, .b, .i .i8, .i .i8] y8 y9)] => some (Sum.inl (y0, y1, y2, y3, y4, y5, y6, y7, y8, y9))
  | V.s (S.b y0), [Obj.cells 89 [Seg.one [S.ptr 1 0 none 0, S.i IntKind.u64 y1, S.sl 3 0 y2 true]], Obj.cells 69 [Seg.arr IntKind.i8 81 y3, Seg.arr IntKind.i8 16 y4, Seg.one [S.i IntKind.i8 y5], Seg.rows [.i .u64, .i .u64] 32 y6, Seg.rows [.i .u64, .i .u64] 2 y7], Obj.dead, Obj.sli 109 false (Seg.rows [.i .i64, .i .i64, .i .i64, .b, .i .i8, .i .i8] y8 y9)] => some (Sum.inr (y0, y1, y2, y3, y4, y5, y6, y7, y8, y9))
  | _, _ => none
theorem deed_Game_Make_eq (x0 x1 x2 : Int) (x3 : Bool) (x4 : Int) (x5 : Nat) (x6 x7 : List Int) (x8 : Int) (x9 x10 : List (List Int)) (x11 : Nat) (x12 : List (List Int)) : fnE deed_Game_Makec Tryd.f65 ([V.s (S.ptr 0 0 none 0), V.agg [Seg.one [S.i IntKind.i64 x0, S.i IntKind.i64 x1, S.i IntKind.i64 x2, S.b x3]]]) ([Obj.cells 89 [Seg.one [S.ptr 1 0 none 0, S.i IntKind.u64 x4, S.sl 2 0 x5 true]], Obj.cells 69 [Seg.arr IntKind.i8 81 x6, Seg.arr IntKind.i8 16 x7, Seg.one [S.i IntKind.i8 x8], Seg.rows [.i .u64, .i .u64] 32 x9, Seg.rows [.i .u64, .i .u64] 2 x10], Obj.sli 109 false (Seg.rows [.i .i64, .i .i64, .i .i64, .b, .i .i8, .i .i8] x11 x12)]) deed_Game_Maked = deed_Game_Make x0 x1 x2 x3 x4 x5 x6 x7 x8 x9 x10 x11 x12 := by kernel_rfl
noncomputable def deed_Game_Makea {R : Type} (o : Orc) (vs : List V) (objs : List Obj) (K : Bool → V → List Obj → Option R) : Option R := match vs, objs with
  | [V.s (S.ptr 0 0 none 0), V.agg [Seg.one [S.i IntKind.i64 x0, S.i IntKind.i64 x1, S.i IntKind.i64 x2, S.b x3]]], [Obj.cells 89 [Seg.one [S.ptr 1 0 none 0, S.i IntKind.u64 x4, S.sl 2 0 x5 true]], Obj.cells 69 [Seg.arr IntKind.i8 81 x6, Seg.arr IntKind.i8 16 x7, Seg.one [S.i IntKind.i8 x8], Seg.rows [.i .u64, .i .u64] 32 x9, Seg.rows [.i .u64, .i .u64] 2 x10], Obj.sli 109 false (Seg.rows [.i .i64, .i .i64, .i .i64, .b, .i .i8, .i .i8] x11 x12)] => ob (deed_Game_Make x0 x1 x2 x3 x4 x5 x6 x7 x8 x9 x10 x11 x12) fun t0 => sw t0 (fun z => K false (V.s (S.b (z.1))) ([Obj.cells 89 [Seg.one [S.ptr 1 0 none 0, S.i IntKind.u64 (z.2.1), S.sl 2 0 (z.2.2.1) true]], Obj.cells 69 [Seg.arr IntKind.i8 81 (z.2.2.2.1), Seg.arr IntKind.i8 16 (z.2.2.2.2.1), Seg.one [S.i IntKind.i8 (z.2.2.2.2.2.1)], Seg.rows [.i .u64, .i .u64] 32 (z.2.2.2.2.2.2.1), Seg.rows [.i .u64, .i .u64] 2 (z.2.2.2.2.2.2.2.1)], Obj.sli 109 false (Seg.rows [.i .i64, .i .i64, .i .i64, .b, .i .i8, .i .i8] (z.2.2.2.2.2.2.2.2.1) (z.2.2.2.2.2.2.2.2.2))])) (fun z => K false (V.s (S.b (z.1))) ([Obj.cells 89 [Seg.one [S.ptr 1 0 none 0, S.i IntKind.u64 (z.2.1), S.sl 3 0 (z.2.2.1) true]], Obj.cells 69 [Seg.arr IntKind.i8 81 (z.2.2.2.1), Seg.arr IntKind.i8 16 (z.2.2.2.2.1), Seg.one [S.i IntKind.i8 (z.2.2.2.2.2.1)], Seg.rows [.i .u64, .i .u64] 32 (z.2.2.2.2.2.2.1), Seg.rows [.i .u64, .i .u64] 2 (z.2.2.2.2.2.2.2.1)], Obj.dead, Obj.sli 109 false (Seg.rows [.i .i64, .i .i64, .i .i64, .b, .i .i8, .i .i8] (z.2.2.2.2.2.2.2.2.1) (z.2.2.2.2.2.2.2.2.2))]))
  | _, _ => o 65 vs objs K
noncomputable def deed_Game_Makeo (o : Orc) : Orc := hook 65 (deed_Game_Makea o) o
theorem deed_Game_Makeo_ok (o : Orc) (ho : OSound Tryd.prog o) : OSound Tryd.prog (deed_Game_Makeo o) := hook_ok ho fun vs objs K r h => by
  unfold deed_Game_Makea at h
  split at h
  · skip
    obtain ⟨t, h1, h2⟩ := ob_ok h
    refine anyOK_of mixed deed_Game_Makec_ok (fn := Tryd.f65) (b := (Tryd.f65).body.getD .skip) (by kernel_rfl) (by kernel_rfl) (by kernel_rfl) ((deed_Game_Make_eq _ _ _ _ _ _ _ _ _ _ _ _ _).trans h1) (m := 3) rfl (AllP.of (l' := []) (by kernel_rfl) trivial) fun v objs' hd => ?_
    unfold deed_Game_Maked at hd
    split at hd
    · skip
      cases hd
      exact h2
    · skip
      cases hd
      exact h2
    · cases hd
  · exact ho _ _ _ _ _ h
noncomputable def deed_Afterc : Ctx := mkC 21 ((deed_Game_Makeo (deed_Newo oNil))) [] lpNil
theorem deed_Afterc_ok : CtxOK Tryd.prog deed_Afterc := mkC_ok ((deed_Game_Makeo_ok _ (deed_Newo_ok _ oNil_ok)))
noncomputable def deed_Afterd : V → List Obj → Option (List Int × List Int × Int × Bool) := fun v objs => match v, objs with
  | V.tup [W.agg [Seg.arr IntKind.i8 81 y0, Seg.arr IntKind.i8 16 y1, Seg.one [S.i IntKind.i8 y2]], W.s (S.b y3)], [] => some (y0, y1, y2, y3)
  | _, _ => none
theorem deed_After_eq (x0 x1 : List Int) (x2 x3 : Int) (x4 x5 : Int) (x6 : Bool) : fnE deed_Afterc Tryd.f27 ([V.agg [Seg.arr IntKind.i8 81 x0, Seg.arr IntKind.i8 16 x1, Seg.one [S.i IntKind.i8 x2]], V.agg [Seg.one [S.i IntKind.i64 x3, S.i IntKind.i64 x4, S.i IntKind.i64 x5, S.b x6]]]) ([]) deed_Afterd = deed_After x0 x1 x2 x3 x4 x5 x6 := by kernel_rfl
noncomputable def deed_Aftera {R : Type} (o : Orc) (vs : List V) (objs : List Obj) (K : Bool → V → List Obj → Option R) : Option R := match vs, objs with
  | [V.agg [Seg.arr IntKind.i8 81 x0, Seg.arr IntKind.i8 16 x1, Seg.one [S.i IntKind.i8 x2]], V.agg [Seg.one [S.i IntKind.i64 x3, S.i IntKind.i64 x4, S.i IntKind.i64 x5, S.b x6]]], [] => ob (deed_After x0 x1 x2 x3 x4 x5 x6) fun z => K false (V.tup [W.agg [Seg.arr IntKind.i8 81 (z.1), Seg.arr IntKind.i8 16 (z.2.1), Seg.one [S.i IntKind.i8 (z.2.2.1)]], W.s (S.b (z.2.2.2))]) ([])
  | _, _ => o 27 vs objs K
noncomputable def deed_Aftero (o : Orc) : Orc := hook 27 (deed_Aftera o) o
theorem deed_Aftero_ok (o : Orc) (ho : OSound Tryd.prog o) : OSound Tryd.prog (deed_Aftero o) := hook_ok ho fun vs objs K r h => by
  unfold deed_Aftera at h
  split at h
  · skip
    obtain ⟨t, h1, h2⟩ := ob_ok h
    refine anyOK_of mixed deed_Afterc_ok (fn := Tryd.f27) (b := (Tryd.f27).body.getD .skip) (by kernel_rfl) (by kernel_rfl) (by kernel_rfl) ((deed_After_eq _ _ _ _ _ _ _).trans h1) (m := 0) rfl (AllP.of (l' := []) (by kernel_rfl) trivial) fun v objs' hd => ?_
    unfold deed_Afterd at hd
    split at hd
    · skip
      cases hd
      exact h2
    · cases hd
  · exact ho _ _ _ _ _ h
noncomputable def law11_LegalKingsl10d : Ex → List V → List Obj → Option ((Bool) ⊕ (Unit)) := fun e vs objs => match e, vs, objs with
  | Ex.ret, [V.s (S.b y0)], [] => some (Sum.inl (y0))
  | Ex.exit 0, [V.s S.bad], [] => some (Sum.inr ())
  | _, _, _ => none
noncomputable def law11_LegalKingsp10 {R : Type} (vs : List V) (objs : List Obj) (K : Ex → List V → List Obj → Option R) : Option R := match vs, objs with
  | [V.s (S.ptr 0 0 none 0), V.s (S.i IntKind.i64 x0), V.s (S.i IntKind.i64 x1), V.s (S.b x2), V.s (S.sl 1 0 x3 true), V.s (S.i IntKind.i64 x4), V.s (S.i IntKind.i64 x5)], [Obj.cells 28 [Seg.arr IntKind.i8 81 x6, Seg.arr IntKind.i8 16 x7, Seg.one [S.i IntKind.i8 x8]], Obj.sli 39 false (Seg.rows [.i .i64, .i .i64, .i .i64, .b] x9 x10)] => ob (law11_LegalKingsl10 many x0 x1 x2 x3 x4 x5 x6 x7 x8 x9 x10) fun t0 => sw t0 (fun y0 => K (Ex.ret) ([V.s (S.b y0)]) ([])) (fun _ => K (Ex.exit 0) ([V.s S.bad]) ([]))
  | _, _ => none
noncomputable def law11_LegalKingslp : {R : Type} → Nat → List V → List Obj → (Ex → List V → List Obj → Option R) → Option R := fun q vs objs K => bif Nat.beq q 10 then law11_LegalKingsp10 vs objs K else none
noncomputable def law11_LegalKingsc : Ctx := mkC 69 ((set_Emptyo (attack_Ono (board_Takeno (deed_Aftero (legal_Allo (set_Counto (attack_Checkerso (board_Kingo (board_Newo (ref08_Checko (law11_allowso oNil)))))))))))) [(10, [1, 4, 5, 6, 30, 31, 32], [2])] law11_LegalKingslp
theorem law11_LegalKingsc_ok : CtxOK Tryd.prog law11_LegalKingsc := mkC_ok ((set_Emptyo_ok _ (attack_Ono_ok _ (board_Takeno_ok _ (deed_Aftero_ok _ (legal_Allo_ok _ (set_Counto_ok _ (attack_Checkerso_ok _ (board_Kingo_ok _ (board_Newo_ok _ (ref08_Checko_ok _ (law11_allowso_ok _ oNil_ok))))))))))))
noncomputable def law11_LegalKingsl10r (f : Nat) (x0 x1 : Int) (x2 : Bool) (x3 : Nat) (x4 x5 : Int) (x6 x7 : List Int) (x8 : Int) (x9 : Nat) (x10 : List (List Int)) : Option ((Bool) ⊕ (Unit)) := lrun law11_LegalKingsc 0 [1, 4, 5, 6, 30, 31, 32] [2] (loopOf Tryd.f7 10) f ([V.s (S.ptr 0 0 none 0), V.s (S.i IntKind.i64 x0), V.s (S.i IntKind.i64 x1), V.s (S.b x2), V.s (S.sl 1 0 x3 true), V.s (S.i IntKind.i64 x4), V.s (S.i IntKind.i64 x5)]) ([Obj.cells 28 [Seg.arr IntKind.i8 81 x6, Seg.arr IntKind.i8 16 x7, Seg.one [S.i IntKind.i8 x8]], Obj.sli 39 false (Seg.rows [.i .i64, .i .i64, .i .i64, .b] x9 x10)]) law11_LegalKingsl10d
theorem law11_LegalKingsl10_step (f : Nat) (x0 x1 : Int) (x2 : Bool) (x3 : Nat) (x4 x5 : Int) (x6 x7 : List Int) (x8 : Int) (x9 : Nat) (x10 : List (List Int)) : law11_LegalKingsl10r (f + 1) x0 x1 x2 x3 x4 x5 x6 x7 x8 x9 x10 = law11_LegalKingsl10s (law11_LegalKingsl10r f) x0 x1 x2 x3 x4 x5 x6 x7 x8 x9 x10 := by kernel_rfl
theorem law11_LegalKingsl10_eq : ∀ f, law11_LegalKingsl10r f = law11_LegalKingsl10 f
  | 0 => rfl
  | f + 1 => by funext x0 x1 x2 x3 x4 x5 x6 x7 x8 x9 x10; rw [law11_LegalKingsl10_step, law11_LegalKingsl10_eq f]; rfl
theorem law11_LegalKingss10 : LoopSound Tryd.prog law11_LegalKingsc 0 (loopOf Tryd.f7 10) :=
  loopSound_by mixed law11_LegalKingsc_ok (AllP.of (l' := []) (by kernel_rfl) trivial) (q := 10) (kin := [1, 4, 5, 6, 30, 31, 32]) (kout := [2]) (by kernel_rfl) (by kernel_rfl) fun vs objs K r h => by
    replace h : law11_LegalKingsp10 vs objs K = some r := h
    unfold law11_LegalKingsp10 at h
    split at h
    · skip
      obtain ⟨t, h1, h2⟩ := ob_ok h
      rw [← law11_LegalKingsl10_eq] at h1
      refine ⟨_, law11_LegalKingsl10d, t, many, h1, fun e vs' objs' hd => ?_⟩
      unfold law11_LegalKingsl10d at hd
      split at hd
      · skip
        cases hd
        exact h2
      · skip
        cases hd
        exact h2
      · cases hd
    · cases h
noncomputable def law11_LegalKingsd : V → List Obj → Option (Bool) := fun v objs => match v, objs with
  | V.s (S.b y0), [] => some (y0)
  | _, _ => none
theorem law11_LegalKings_eq (x0 x1 : List Int) (x2 : Int) : fnE law11_LegalKingsc Tryd.f7 ([V.agg [Seg.arr IntKind.i8 81 x0, Seg.arr IntKind.i8 16 x1, Seg.one [S.i IntKind.i8 x2]]]) ([]) law11_LegalKingsd = law11_LegalKings x0 x1 x2 := by kernel_rfl
noncomputable def law11_LegalKingsa {R : Type} (o : Orc) (vs : List V) (objs : List Obj) (K : Bool → V → List Obj → Option R) : Option R := match vs, objs with
  | [V.agg [Seg.arr IntKind.i8 81 x0, Seg.arr IntKind.i8 16 x1, Seg.one [S.i IntKind.i8 x2]]], [] => ob (law11_LegalKings x0 x1 x2) fun y0 => K false (V.s (S.b y0)) ([])
  | _, _ => o 7 vs objs K
noncomputable def law11_LegalKingso (o : Orc) : Orc := hook 7 (law11_LegalKingsa o) o
theorem law11_LegalKings_ok {vs : List V} {objs : List Obj} (x0 x1 : List Int) (x2 : Int) {R : Type} {K : Bool → V → List Obj → Option R} {r : R} (hv : vs = [V.agg [Seg.arr IntKind.i8 81 x0, Seg.arr IntKind.i8 16 x1, Seg.one [S.i IntKind.i8 x2]]]) (ho : objs = []) (h : ob (law11_LegalKings x0 x1 x2) (fun y0 => K false (V.s (S.b y0)) ([])) = some r) :
    ∃ p v objs', K p v objs' = some r ∧ AnyOK Tryd.prog 7 vs objs p v objs' := by
  subst hv
  subst ho
  obtain ⟨t, h1, h2⟩ := ob_ok h
  refine anyOK_of mixed law11_LegalKingsc_ok (fn := Tryd.f7) (b := (Tryd.f7).body.getD .skip) (by kernel_rfl) (by kernel_rfl) (by kernel_rfl) ((law11_LegalKings_eq _ _ _).trans h1) (m := 0) rfl (AllP.of (l' := [loopOf Tryd.f7 10]) (by kernel_rfl) ⟨law11_LegalKingss10, trivial⟩) fun v objs' hd => ?_
  unfold law11_LegalKingsd at hd
  split at hd
  · skip
    cases hd
    exact h2
  · cases hd
theorem law11_LegalKingso_ok (o : Orc) (ho : OSound Tryd.prog o) : OSound Tryd.prog (law11_LegalKingso o) := hook_ok ho fun vs objs K r h => by
  unfold law11_LegalKingsa at h
  split at h
  · skip
    obtain ⟨t, h1, h2⟩ := ob_ok h
    refine anyOK_of mixed law11_LegalKingsc_ok (fn := Tryd.f7) (b := (Tryd.f7).body.getD .skip) (by kernel_rfl) (by kernel_rfl) (by kernel_rfl) ((law11_LegalKings_eq _ _ _).trans h1) (m := 0) rfl (AllP.of (l' := [loopOf Tryd.f7 10]) (by kernel_rfl) ⟨law11_LegalKingss10, trivial⟩) fun v objs' hd => ?_
    unfold law11_LegalKingsd at hd
    split at hd
    · skip
      cases hd
      exact h2
    · cases hd
  · exact ho _ _ _ _ _ h
end Go.Kk.KkLA
