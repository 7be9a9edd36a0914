/- Printed by a tool of this project (KkGen): the program's functions come to the plain ones. -/
import Derived.Test.YtaoifdkheaagpaaDoorKkGAb
namespace Go.Kk.KkGA
open Go.Proofs Go.Kk.Pl
set_option maxRecDepth 100000
set_option maxHeartbeats 4000000

noncomputable def set_Ofl3d : Ex → List V → List Obj → Option (Nat × List Int × Int × Int × Int × Int) := fun e vs objs => match e, vs, objs with
  | Ex.exit 0, [V.s (S.ptr 1 0 none 0), V.s (S.ptr 2 0 none 0)], [Obj.sli 3 true (Seg.arr IntKind.i64 y0 y1), Obj.cells 57 [Seg.one [S.i IntKind.u64 y2, S.i IntKind.u64 y3]], Obj.cells 57 [Seg.one [S.i IntKind.u64 y4, S.i IntKind.u64 y5]]] => some (y0, y1, y2, y3, y4, y5)
  | _, _, _ => none

noncomputable def set_Ofp3 {R : Type} (vs : List V) (objs : List Obj) (K : Ex → List V → List Obj → Option R) : Option R := match vs, objs with
  | [V.s (S.ptr 1 0 none 0), V.s (S.ptr 2 0 none 0), V.s (S.sl 0 0 x0 true), V.s (S.i IntKind.i64 x1), V.s (S.i IntKind.i64 x2)], [Obj.sli 3 true (Seg.arr IntKind.i64 x3 x4), Obj.cells 57 [Seg.one [S.i IntKind.u64 x5, S.i IntKind.u64 x6]], Obj.cells 57 [Seg.one [S.i IntKind.u64 x7, S.i IntKind.u64 x8]]] => ob (set_Ofl3 many x0 x1 x2 x3 x4 x5 x6 x7 x8) fun z => K (Ex.exit 0) ([V.s (S.ptr 1 0 none 0), V.s (S.ptr 2 0 none 0)]) ([Obj.sli 3 true (Seg.arr IntKind.i64 (z.1) (z.2.1)), Obj.cells 57 [Seg.one [S.i IntKind.u64 (z.2.2.1), S.i IntKind.u64 (z.2.2.2.1)]], Obj.cells 57 [Seg.one [S.i IntKind.u64 (z.2.2.2.2.1), S.i IntKind.u64 (z.2.2.2.2.2)]]])
  | _, _ => none

noncomputable def set_Oflp : {R : Type} → Nat → List V → List Obj → (Ex → List V → List Obj → Option R) → Option R := fun q vs objs K => bif Nat.beq q 3 then set_Ofp3 vs objs K else none

noncomputable def set_Ofc : Ctx := mkC 17 ((set_Witho oNil)) [(3, [2, 3, 6, 7, 8], [2, 3])] set_Oflp

theorem set_Ofc_ok : CtxOK Tryd.prog set_Ofc := mkC_ok ((set_Witho_ok _ oNil_ok))

noncomputable def set_Ofl3r (f : Nat) (x0 : Nat) (x1 : Int) (x2 : Int) (x3 : Nat) (x4 : List Int) (x5 : Int) (x6 : Int) (x7 : Int) (x8 : Int) : Option (Nat × List Int × Int × Int × Int × Int) := lrun set_Ofc 1 [2, 3, 6, 7, 8] [2, 3] (loopOf Tryd.f43 3) f ([V.s (S.ptr 1 0 none 0), V.s (S.ptr 2 0 none 0), V.s (S.sl 0 0 x0 true), V.s (S.i IntKind.i64 x1), V.s (S.i IntKind.i64 x2)]) ([Obj.sli 3 true (Seg.arr IntKind.i64 x3 x4), Obj.cells 57 [Seg.one [S.i IntKind.u64 x5, S.i IntKind.u64 x6]], Obj.cells 57 [Seg.one [S.i IntKind.u64 x7, S.i IntKind.u64 x8]]]) set_Ofl3d

theorem set_Ofl3_step (f : Nat) (x0 : Nat) (x1 : Int) (x2 : Int) (x3 : Nat) (x4 : List Int) (x5 : Int) (x6 : Int) (x7 : Int) (x8 : Int) : set_Ofl3r (f + 1) x0 x1 x2 x3 x4 x5 x6 x7 x8 = set_Ofl3s (set_Ofl3r f) x0 x1 x2 x3 x4 x5 x6 x7 x8 := by kernel_rfl

theorem set_Ofl3_eq : ∀ f, set_Ofl3r f = set_Ofl3 f
  | 0 => rfl
  | f + 1 => by funext x0 x1 x2 x3 x4 x5 x6 x7 x8; rw [set_Ofl3_step, set_Ofl3_eq f]; rfl

theorem set_Ofs3 : LoopSound Tryd.prog set_Ofc 1 (loopOf Tryd.f43 3) :=
  loopSound_by mixed set_Ofc_ok (AllP.of (l' := []) (by kernel_rfl) trivial) (q := 3) (kin := [2, 3, 6, 7, 8]) (kout := [2, 3]) (by kernel_rfl) (by kernel_rfl) fun vs objs K r h => by
    replace h : set_Ofp3 vs objs K = some r := h
    unfold set_Ofp3 at h
    split at h
    · skip
      obtain ⟨t, h1, h2⟩ := ob_ok h
      rw [← set_Ofl3_eq] at h1
      refine ⟨_, set_Ofl3d, t, many, h1, fun e vs' objs' hd => ?_⟩
      unfold set_Ofl3d at hd
      split at hd
      · skip
        cases hd
        exact h2
      · cases hd
    · cases h

noncomputable def set_Ofd : V → List Obj → Option (Int × Int) := fun v objs => match v, objs with
  | V.agg [Seg.one [S.i IntKind.u64 y0, S.i IntKind.u64 y1]], [] => some (y0, y1)
  | _, _ => none

theorem set_Of_eq (x0 : Nat) (x1 : Nat) (x2 : List Int) : fnE set_Ofc Tryd.f43 ([V.s (S.sl 0 0 x0 true)]) ([Obj.sli 3 true (Seg.arr IntKind.i64 x1 x2)]) (pureD 1 set_Ofd) = set_Of x0 x1 x2 := by kernel_rfl

noncomputable def set_Ofa {R : Type} (o : Orc) (vs : List V) (objs : List Obj) (K : Bool → V → List Obj → Option R) : Option R := match vs, List.map Obj.toRO objs with
  | [V.s (S.sl 0 0 x0 true)], [Obj.sli 3 true (Seg.arr IntKind.i64 x1 x2)] => ob (set_Of x0 x1 x2) fun z => K true (V.agg [Seg.one [S.i IntKind.u64 (z.1), S.i IntKind.u64 (z.2)]]) ([])
  | _, _ => o 43 vs objs K

noncomputable def set_Ofo (o : Orc) : Orc := hook 43 (set_Ofa o) o

theorem set_Ofo_ok (o : Orc) (ho : OSound Tryd.prog o) : OSound Tryd.prog (set_Ofo o) := hook_ok ho fun vs objs K r h => by
  unfold set_Ofa at h
  split at h
  · skip
    have hq : List.map Obj.toRO objs = _ := (by rename_i hq; first | exact hq | assumption)
    obtain ⟨t, h1, h2⟩ := ob_ok h
    refine purOK_by mixed set_Ofc_ok (m := 1) (fn := Tryd.f43) (b := (Tryd.f43).body.getD .skip) (by kernel_rfl) (by kernel_rfl) (by kernel_rfl) hq (by kernel_rfl) (by kernel_rfl) (AllP.of (l' := [loopOf Tryd.f43 3]) (by kernel_rfl) ⟨set_Ofs3, trivial⟩) ((set_Of_eq _ _ _).trans h1) fun v objs' hd => ?_
    unfold set_Ofd at hd
    split at hd
    · skip
      cases hd
      exact h2
    · cases hd
  · exact ho _ _ _ _ _ h

noncomputable def law08_attacksc : Ctx := mkC 34 ((set_Ofo (attack_Checkerso (attack_Checko (attack_InChecko (board_Newo oNil)))))) [] lpNil

theorem law08_attacksc_ok : CtxOK Tryd.prog law08_attacksc := mkC_ok ((set_Ofo_ok _ (attack_Checkerso_ok _ (attack_Checko_ok _ (attack_InChecko_ok _ (board_Newo_ok _ oNil_ok))))))

noncomputable def law08_attacksd : V → List Obj → Option (Bool) := fun v objs => match v, objs with
  | V.s (S.b y0), [] => some (y0)
  | _, _ => none

theorem law08_attacks_eq : fnE law08_attacksc Tryd.f38 ([]) ([]) law08_attacksd = law08_attacks  := by kernel_rfl

noncomputable def law08_attacksa {R : Type} (o : Orc) (vs : List V) (objs : List Obj) (K : Bool → V → List Obj → Option R) : Option R := match vs, objs with
  | [], [] => ob (law08_attacks ) fun y0 => K false (V.s (S.b y0)) ([])
  | _, _ => o 38 vs objs K

noncomputable def law08_attackso (o : Orc) : Orc := hook 38 (law08_attacksa o) o

theorem law08_attackso_ok (o : Orc) (ho : OSound Tryd.prog o) : OSound Tryd.prog (law08_attackso o) := hook_ok ho fun vs objs K r h => by
  unfold law08_attacksa at h
  split at h
  · skip
    obtain ⟨t, h1, h2⟩ := ob_ok h
    refine anyOK_of mixed law08_attacksc_ok (fn := Tryd.f38) (b := (Tryd.f38).body.getD .skip) (by kernel_rfl) (by kernel_rfl) (by kernel_rfl) ((law08_attacks_eq).trans h1) (m := 0) rfl (AllP.of (l' := []) (by kernel_rfl) trivial) fun v objs' hd => ?_
    unfold law08_attacksd at hd
    split at hd
    · skip
      cases hd
      exact h2
    · cases hd
  · exact ho _ _ _ _ _ h

noncomputable def ref05_Onl3d : Ex → List V → List Obj → Option (Int) := fun e vs objs => match e, vs, objs with
  | Ex.exit 0, [V.s (S.i IntKind.i64 y0)], [] => some (y0)
  | _, _, _ => none

noncomputable def ref05_Onp3 {R : Type} (vs : List V) (objs : List Obj) (K : Ex → List V → List Obj → Option R) : Option R := match vs, objs with
  | [V.s (S.i IntKind.i64 x0), V.s (S.i IntKind.i64 x1), V.s (S.ptr 0 0 none 0), V.s (S.i IntKind.i64 x2), V.s (S.i IntKind.i64 x3)], [Obj.cells 28 [Seg.arr IntKind.i8 81 x4, Seg.arr IntKind.i8 16 x5, Seg.one [S.i IntKind.i8 x6]]] => ob (ref05_Onl3 many x0 x1 x2 x3 x4 x5 x6) fun y0 => K (Ex.exit 0) ([V.s (S.i IntKind.i64 y0)]) ([])
  | _, _ => none

noncomputable def ref05_Onlp : {R : Type} → Nat → List V → List Obj → (Ex → List V → List Obj → Option R) → Option R := fun q vs objs K => bif Nat.beq q 3 then ref05_Onp3 vs objs K else none

noncomputable def ref05_Onc : Ctx := mkC 26 (oNil) [(3, [1, 2, 3, 7, 8], [7])] ref05_Onlp

theorem ref05_Onc_ok : CtxOK Tryd.prog ref05_Onc := mkC_ok (oNil_ok)

noncomputable def ref05_Onl3r (f : Nat) (x0 : Int) (x1 : Int) (x2 : Int) (x3 : Int) (x4 : List Int) (x5 : List Int) (x6 : Int) : Option (Int) := lrun ref05_Onc 0 [1, 2, 3, 7, 8] [7] (loopOf Tryd.f72 3) f ([V.s (S.i IntKind.i64 x0), V.s (S.i IntKind.i64 x1), V.s (S.ptr 0 0 none 0), V.s (S.i IntKind.i64 x2), V.s (S.i IntKind.i64 x3)]) ([Obj.cells 28 [Seg.arr IntKind.i8 81 x4, Seg.arr IntKind.i8 16 x5, Seg.one [S.i IntKind.i8 x6]]]) ref05_Onl3d

theorem ref05_Onl3_step (f : Nat) (x0 : Int) (x1 : Int) (x2 : Int) (x3 : Int) (x4 : List Int) (x5 : List Int) (x6 : Int) : ref05_Onl3r (f + 1) x0 x1 x2 x3 x4 x5 x6 = ref05_Onl3s (ref05_Onl3r f) x0 x1 x2 x3 x4 x5 x6 := by kernel_rfl

theorem ref05_Onl3_eq : ∀ f, ref05_Onl3r f = ref05_Onl3 f
  | 0 => rfl
  | f + 1 => by funext x0 x1 x2 x3 x4 x5 x6; rw [ref05_Onl3_step, ref05_Onl3_eq f]; rfl

theorem ref05_Ons3 : LoopSound Tryd.prog ref05_Onc 0 (loopOf Tryd.f72 3) :=
  loopSound_by mixed ref05_Onc_ok (AllP.of (l' := []) (by kernel_rfl) trivial) (q := 3) (kin := [1, 2, 3, 7, 8]) (kout := [7]) (by kernel_rfl) (by kernel_rfl) fun vs objs K r h => by
    replace h : ref05_Onp3 vs objs K = some r := h
    unfold ref05_Onp3 at h
    split at h
    · skip
      obtain ⟨t, h1, h2⟩ := ob_ok h
      rw [← ref05_Onl3_eq] at h1
      refine ⟨_, ref05_Onl3d, t, many, h1, fun e vs' objs' hd => ?_⟩
      unfold ref05_Onl3d at hd
      split at hd
      · skip
        cases hd
        exact h2
      · cases hd
    · cases h

noncomputable def ref05_Ond : V → List Obj → Option (Int) := fun v objs => match v, objs with
  | V.s (S.i IntKind.i64 y0), [] => some (y0)
  | _, _ => none

theorem ref05_On_eq (x0 : List Int) (x1 : List Int) (x2 : Int) (x3 : Int) (x4 : Int) : fnE ref05_Onc Tryd.f72 ([V.agg [Seg.arr IntKind.i8 81 x0, Seg.arr IntKind.i8 16 x1, Seg.one [S.i IntKind.i8 x2]], V.s (S.i IntKind.i64 x3), V.s (S.i IntKind.i64 x4)]) ([]) ref05_Ond = ref05_On x0 x1 x2 x3 x4 := by kernel_rfl

noncomputable def ref05_Ona {R : Type} (o : Orc) (vs : List V) (objs : List Obj) (K : Bool → V → List Obj → Option R) : Option R := match vs, objs with
  | [V.agg [Seg.arr IntKind.i8 81 x0, Seg.arr IntKind.i8 16 x1, Seg.one [S.i IntKind.i8 x2]], V.s (S.i IntKind.i64 x3), V.s (S.i IntKind.i64 x4)], [] => ob (ref05_On x0 x1 x2 x3 x4) fun y0 => K false (V.s (S.i IntKind.i64 y0)) ([])
  | _, _ => o 72 vs objs K

noncomputable def ref05_Ono (o : Orc) : Orc := hook 72 (ref05_Ona o) o

theorem ref05_Ono_ok (o : Orc) (ho : OSound Tryd.prog o) : OSound Tryd.prog (ref05_Ono o) := hook_ok ho fun vs objs K r h => by
  unfold ref05_Ona at h
  split at h
  · skip
    obtain ⟨t, h1, h2⟩ := ob_ok h
    refine anyOK_of mixed ref05_Onc_ok (fn := Tryd.f72) (b := (Tryd.f72).body.getD .skip) (by kernel_rfl) (by kernel_rfl) (by kernel_rfl) ((ref05_On_eq _ _ _ _ _).trans h1) (m := 0) rfl (AllP.of (l' := [loopOf Tryd.f72 3]) (by kernel_rfl) ⟨ref05_Ons3, trivial⟩) fun v objs' hd => ?_
    unfold ref05_Ond at hd
    split at hd
    · skip
      cases hd
      exact h2
    · cases hd
  · exact ho _ _ _ _ _ h

noncomputable def ref05_alll3d : Ex → List V → List Obj → Option (Int) := fun e vs objs => match e, vs, objs with
  | Ex.exit 0, [V.s (S.i IntKind.i64 y0)], [] => some (y0)
  | _, _, _ => none

noncomputable def ref05_allp3 {R : Type} (vs : List V) (objs : List Obj) (K : Ex → List V → List Obj → Option R) : Option R := match vs, objs with
  | [V.s (S.i IntKind.i64 x0), V.s (S.ptr 0 0 none 0), V.s (S.i IntKind.i64 x1), V.s (S.i IntKind.i64 x2)], [Obj.cells 28 [Seg.arr IntKind.i8 81 x3, Seg.arr IntKind.i8 16 x4, Seg.one [S.i IntKind.i8 x5]]] => ob (ref05_alll3 many x0 x1 x2 x3 x4 x5) fun y0 => K (Ex.exit 0) ([V.s (S.i IntKind.i64 y0)]) ([])
  | _, _ => none

noncomputable def ref05_alllp : {R : Type} → Nat → List V → List Obj → (Ex → List V → List Obj → Option R) → Option R := fun q vs objs K => bif Nat.beq q 3 then ref05_allp3 vs objs K else none

noncomputable def ref05_allc : Ctx := mkC 18 ((ref05_Ono oNil)) [(3, [1, 2, 5, 6], [5])] ref05_alllp

theorem ref05_allc_ok : CtxOK Tryd.prog ref05_allc := mkC_ok ((ref05_Ono_ok _ oNil_ok))

noncomputable def ref05_alll3r (f : Nat) (x0 : Int) (x1 : Int) (x2 : Int) (x3 : List Int) (x4 : List Int) (x5 : Int) : Option (Int) := lrun ref05_allc 0 [1, 2, 5, 6] [5] (loopOf Tryd.f68 3) f ([V.s (S.i IntKind.i64 x0), V.s (S.ptr 0 0 none 0), V.s (S.i IntKind.i64 x1), V.s (S.i IntKind.i64 x2)]) ([Obj.cells 28 [Seg.arr IntKind.i8 81 x3, Seg.arr IntKind.i8 16 x4, Seg.one [S.i IntKind.i8 x5]]]) ref05_alll3d

theorem ref05_alll3_step (f : Nat) (x0 : Int) (x1 : Int) (x2 : Int) (x3 : List Int) (x4 : List Int) (x5 : Int) : ref05_alll3r (f + 1) x0 x1 x2 x3 x4 x5 = ref05_alll3s (ref05_alll3r f) x0 x1 x2 x3 x4 x5 := by kernel_rfl

theorem ref05_alll3_eq : ∀ f, ref05_alll3r f = ref05_alll3 f
  | 0 => rfl
  | f + 1 => by funext x0 x1 x2 x3 x4 x5; rw [ref05_alll3_step, ref05_alll3_eq f]; rfl

theorem ref05_alls3 : LoopSound Tryd.prog ref05_allc 0 (loopOf Tryd.f68 3) :=
  loopSound_by mixed ref05_allc_ok (AllP.of (l' := []) (by kernel_rfl) trivial) (q := 3) (kin := [1, 2, 5, 6]) (kout := [5]) (by kernel_rfl) (by kernel_rfl) fun vs objs K r h => by
    replace h : ref05_allp3 vs objs K = some r := h
    unfold ref05_allp3 at h
    split at h
    · skip
      obtain ⟨t, h1, h2⟩ := ob_ok h
      rw [← ref05_alll3_eq] at h1
      refine ⟨_, ref05_alll3d, t, many, h1, fun e vs' objs' hd => ?_⟩
      unfold ref05_alll3d at hd
      split at hd
      · skip
        cases hd
        exact h2
      · cases hd
    · cases h

noncomputable def ref05_alld : V → List Obj → Option (Int) := fun v objs => match v, objs with
  | V.s (S.i IntKind.i64 y0), [] => some (y0)
  | _, _ => none

theorem ref05_all_eq (x0 : List Int) (x1 : List Int) (x2 : Int) (x3 : Int) : fnE ref05_allc Tryd.f68 ([V.agg [Seg.arr IntKind.i8 81 x0, Seg.arr IntKind.i8 16 x1, Seg.one [S.i IntKind.i8 x2]], V.s (S.i IntKind.i64 x3)]) ([]) ref05_alld = ref05_all x0 x1 x2 x3 := by kernel_rfl

noncomputable def ref05_alla {R : Type} (o : Orc) (vs : List V) (objs : List Obj) (K : Bool → V → List Obj → Option R) : Option R := match vs, objs with
  | [V.agg [Seg.arr IntKind.i8 81 x0, Seg.arr IntKind.i8 16 x1, Seg.one [S.i IntKind.i8 x2]], V.s (S.i IntKind.i64 x3)], [] => ob (ref05_all x0 x1 x2 x3) fun y0 => K false (V.s (S.i IntKind.i64 y0)) ([])
  | _, _ => o 68 vs objs K

noncomputable def ref05_allo (o : Orc) : Orc := hook 68 (ref05_alla o) o

theorem ref05_allo_ok (o : Orc) (ho : OSound Tryd.prog o) : OSound Tryd.prog (ref05_allo o) := hook_ok ho fun vs objs K r h => by
  unfold ref05_alla at h
  split at h
  · skip
    obtain ⟨t, h1, h2⟩ := ob_ok h
    refine anyOK_of mixed ref05_allc_ok (fn := Tryd.f68) (b := (Tryd.f68).body.getD .skip) (by kernel_rfl) (by kernel_rfl) (by kernel_rfl) ((ref05_all_eq _ _ _ _).trans h1) (m := 0) rfl (AllP.of (l' := [loopOf Tryd.f68 3]) (by kernel_rfl) ⟨ref05_alls3, trivial⟩) fun v objs' hd => ?_
    unfold ref05_alld at hd
    split at hd
    · skip
      cases hd
      exact h2
    · cases hd
  · exact ho _ _ _ _ _ h

noncomputable def ref02_Rawc : Ctx := mkC 18 (oNil) [] lpNil

theorem ref02_Rawc_ok : CtxOK Tryd.prog ref02_Rawc := mkC_ok (oNil_ok)

noncomputable def ref02_Rawd : V → List Obj → Option (Int) := fun v objs => match v, objs with
  | V.s (S.i IntKind.i64 y0), [] => some (y0)
  | _, _ => none

theorem ref02_Raw_eq (x0 : Int) : fnE ref02_Rawc Tryd.f106 ([V.s (S.i IntKind.i64 x0)]) ([]) ref02_Rawd = ref02_Raw x0 := by kernel_rfl

noncomputable def ref02_Rawa {R : Type} (o : Orc) (vs : List V) (objs : List Obj) (K : Bool → V → List Obj → Option R) : Option R := match vs, objs with
  | [V.s (S.i IntKind.i64 x0)], [] => ob (ref02_Raw x0) fun y0 => K false (V.s (S.i IntKind.i64 y0)) ([])
  | _, _ => o 106 vs objs K

noncomputable def ref02_Rawo (o : Orc) : Orc := hook 106 (ref02_Rawa o) o

theorem ref02_Rawo_ok (o : Orc) (ho : OSound Tryd.prog o) : OSound Tryd.prog (ref02_Rawo o) := hook_ok ho fun vs objs K r h => by
  unfold ref02_Rawa at h
  split at h
  · skip
    obtain ⟨t, h1, h2⟩ := ob_ok h
    refine anyOK_of mixed ref02_Rawc_ok (fn := Tryd.f106) (b := (Tryd.f106).body.getD .skip) (by kernel_rfl) (by kernel_rfl) (by kernel_rfl) ((ref02_Raw_eq _).trans h1) (m := 0) rfl (AllP.of (l' := []) (by kernel_rfl) trivial) fun v objs' hd => ?_
    unfold ref02_Rawd at hd
    split at hd
    · skip
      cases hd
      exact h2
    · cases hd
  · exact ho _ _ _ _ _ h

noncomputable def ref05_Countl3d : Ex → List V → List Obj → Option (Int × Int × List Int × List Int × Int) := fun e vs objs => match e, vs, objs with
  | Ex.exit 0, [V.s (S.i IntKind.i64 y0), V.s (S.ptr 0 0 none 0), V.s (S.i IntKind.i64 y1)], [Obj.cells 28 [Seg.arr IntKind.i8 81 y2, Seg.arr IntKind.i8 16 y3, Seg.one [S.i IntKind.i8 y4]]] => some (y0, y1, y2, y3, y4)
  | _, _, _ => none

noncomputable def ref05_Countp3 {R : Type} (vs : List V) (objs : List Obj) (K : Ex → List V → List Obj → Option R) : Option R := match vs, objs with
  | [V.s (S.i IntKind.i64 x0), V.s (S.ptr 0 0 none 0), V.s (S.i IntKind.i64 x1), V.s (S.i IntKind.i64 x2)], [Obj.cells 28 [Seg.arr IntKind.i8 81 x3, Seg.arr IntKind.i8 16 x4, Seg.one [S.i IntKind.i8 x5]]] => ob (ref05_Countl3 many x0 x1 x2 x3 x4 x5) fun z => K (Ex.exit 0) ([V.s (S.i IntKind.i64 (z.1)), V.s (S.ptr 0 0 none 0), V.s (S.i IntKind.i64 (z.2.1))]) ([Obj.cells 28 [Seg.arr IntKind.i8 81 (z.2.2.1), Seg.arr IntKind.i8 16 (z.2.2.2.1), Seg.one [S.i IntKind.i8 (z.2.2.2.2)]]])
  | _, _ => none

noncomputable def ref05_Countlp : {R : Type} → Nat → List V → List Obj → (Ex → List V → List Obj → Option R) → Option R := fun q vs objs K => bif Nat.beq q 3 then ref05_Countp3 vs objs K else none

noncomputable def ref05_Countc : Ctx := mkC 37 ((ref02_Rawo (ref02_Kindo oNil))) [(3, [1, 2, 5, 6], [1, 2, 5])] ref05_Countlp

theorem ref05_Countc_ok : CtxOK Tryd.prog ref05_Countc := mkC_ok ((ref02_Rawo_ok _ (ref02_Kindo_ok _ oNil_ok)))

noncomputable def ref05_Countl3r (f : Nat) (x0 : Int) (x1 : Int) (x2 : Int) (x3 : List Int) (x4 : List Int) (x5 : Int) : Option (Int × Int × List Int × List Int × Int) := lrun ref05_Countc 0 [1, 2, 5, 6] [1, 2, 5] (loopOf Tryd.f69 3) f ([V.s (S.i IntKind.i64 x0), V.s (S.ptr 0 0 none 0), V.s (S.i IntKind.i64 x1), V.s (S.i IntKind.i64 x2)]) ([Obj.cells 28 [Seg.arr IntKind.i8 81 x3, Seg.arr IntKind.i8 16 x4, Seg.one [S.i IntKind.i8 x5]]]) ref05_Countl3d

theorem ref05_Countl3_step (f : Nat) (x0 : Int) (x1 : Int) (x2 : Int) (x3 : List Int) (x4 : List Int) (x5 : Int) : ref05_Countl3r (f + 1) x0 x1 x2 x3 x4 x5 = ref05_Countl3s (ref05_Countl3r f) x0 x1 x2 x3 x4 x5 := by kernel_rfl

theorem ref05_Countl3_eq : ∀ f, ref05_Countl3r f = ref05_Countl3 f
  | 0 => rfl
  | f + 1 => by funext x0 x1 x2 x3 x4 x5; rw [ref05_Countl3_step, ref05_Countl3_eq f]; rfl

theorem ref05_Counts3 : LoopSound Tryd.prog ref05_Countc 0 (loopOf Tryd.f69 3) :=
  loopSound_by mixed ref05_Countc_ok (AllP.of (l' := []) (by kernel_rfl) trivial) (q := 3) (kin := [1, 2, 5, 6]) (kout := [1, 2, 5]) (by kernel_rfl) (by kernel_rfl) fun vs objs K r h => by
    replace h : ref05_Countp3 vs objs K = some r := h
    unfold ref05_Countp3 at h
    split at h
    · skip
      obtain ⟨t, h1, h2⟩ := ob_ok h
      rw [← ref05_Countl3_eq] at h1
      refine ⟨_, ref05_Countl3d, t, many, h1, fun e vs' objs' hd => ?_⟩
      unfold ref05_Countl3d at hd
      split at hd
      · skip
        cases hd
        exact h2
      · cases hd
    · cases h

noncomputable def ref05_Countd : V → List Obj → Option (Int) := fun v objs => match v, objs with
  | V.s (S.i IntKind.i64 y0), [] => some (y0)
  | _, _ => none

theorem ref05_Count_eq (x0 : List Int) (x1 : List Int) (x2 : Int) (x3 : Int) : fnE ref05_Countc Tryd.f69 ([V.agg [Seg.arr IntKind.i8 81 x0, Seg.arr IntKind.i8 16 x1, Seg.one [S.i IntKind.i8 x2]], V.s (S.i IntKind.i64 x3)]) ([]) ref05_Countd = ref05_Count x0 x1 x2 x3 := by kernel_rfl

noncomputable def ref05_Counta {R : Type} (o : Orc) (vs : List V) (objs : List Obj) (K : Bool → V → List Obj → Option R) : Option R := match vs, objs with
  | [V.agg [Seg.arr IntKind.i8 81 x0, Seg.arr IntKind.i8 16 x1, Seg.one [S.i IntKind.i8 x2]], V.s (S.i IntKind.i64 x3)], [] => ob (ref05_Count x0 x1 x2 x3) fun y0 => K false (V.s (S.i IntKind.i64 y0)) ([])
  | _, _ => o 69 vs objs K

noncomputable def ref05_Counto (o : Orc) : Orc := hook 69 (ref05_Counta o) o

theorem ref05_Counto_ok (o : Orc) (ho : OSound Tryd.prog o) : OSound Tryd.prog (ref05_Counto o) := hook_ok ho fun vs objs K r h => by
  unfold ref05_Counta at h
  split at h
  · skip
    obtain ⟨t, h1, h2⟩ := ob_ok h
    refine anyOK_of mixed ref05_Countc_ok (fn := Tryd.f69) (b := (Tryd.f69).body.getD .skip) (by kernel_rfl) (by kernel_rfl) (by kernel_rfl) ((ref05_Count_eq _ _ _ _).trans h1) (m := 0) rfl (AllP.of (l' := [loopOf Tryd.f69 3]) (by kernel_rfl) ⟨ref05_Counts3, trivial⟩) fun v objs' hd => ?_
    unfold ref05_Countd at hd
    split at hd
    · skip
      cases hd
      exact h2
    · cases hd
  · exact ho _ _ _ _ _ h

noncomputable def ref02_Totalc : Ctx := mkC 15 (oNil) [] lpNil

theorem ref02_Totalc_ok : CtxOK Tryd.prog ref02_Totalc := mkC_ok (oNil_ok)

noncomputable def ref02_Totald : V → List Obj → Option (Int) := fun v objs => match v, objs with
  | V.s (S.i IntKind.i64 y0), [] => some (y0)
  | _, _ => none

theorem ref02_Total_eq (x0 : Int) : fnE ref02_Totalc Tryd.f70 ([V.s (S.i IntKind.i64 x0)]) ([]) ref02_Totald = ref02_Total x0 := by kernel_rfl

noncomputable def ref02_Totala {R : Type} (o : Orc) (vs : List V) (objs : List Obj) (K : Bool → V → List Obj → Option R) : Option R := match vs, objs with
  | [V.s (S.i IntKind.i64 x0)], [] => ob (ref02_Total x0) fun y0 => K false (V.s (S.i IntKind.i64 y0)) ([])
  | _, _ => o 70 vs objs K

noncomputable def ref02_Totalo (o : Orc) : Orc := hook 70 (ref02_Totala o) o

theorem ref02_Totalo_ok (o : Orc) (ho : OSound Tryd.prog o) : OSound Tryd.prog (ref02_Totalo o) := hook_ok ho fun vs objs K r h => by
  unfold ref02_Totala at h
  split at h
  · skip
    obtain ⟨t, h1, h2⟩ := ob_ok h
    refine anyOK_of mixed ref02_Totalc_ok (fn := Tryd.f70) (b := (Tryd.f70).body.getD .skip) (by kernel_rfl) (by kernel_rfl) (by kernel_rfl) ((ref02_Total_eq _).trans h1) (m := 0) rfl (AllP.of (l' := []) (by kernel_rfl) trivial) fun v objs' hd => ?_
    unfold ref02_Totald at hd
    split at hd
    · skip
      cases hd
      exact h2
    · cases hd
  · exact ho _ _ _ _ _ h

noncomputable def ref05_Checkl4d : Ex → List V → List Obj → Option ((Int × List Int × List Int × Int) ⊕ (List Int × List Int × Int)) := fun e vs objs => match e, vs, objs with
  | Ex.ret, [V.s (S.ptr 0 0 none 0), V.s (S.i IntKind.i64 y0)], [Obj.cells 28 [Seg.arr IntKind.i8 81 y1, Seg.arr IntKind.i8 16 y2, Seg.one [S.i IntKind.i8 y3]]] => some (Sum.inl (y0, y1, y2, y3))
  | Ex.exit 0, [V.s (S.ptr 0 0 none 0), V.s S.bad], [Obj.cells 28 [Seg.arr IntKind.i8 81 y0, Seg.arr IntKind.i8 16 y1, Seg.one [S.i IntKind.i8 y2]]] => some (Sum.inr (y0, y1, y2))
  | _, _, _ => none

noncomputable def ref05_Checkl12d : Ex → List V → List Obj → Option ((Int × Int × List Int × List Int × Int) ⊕ (Int × List Int × List Int × Int)) := fun e vs objs => match e, vs, objs with
  | Ex.ret, [V.s (S.ptr 0 0 none 0), V.s (S.i IntKind.i64 y0), V.s (S.i IntKind.i64 y1)], [Obj.cells 28 [Seg.arr IntKind.i8 81 y2, Seg.arr IntKind.i8 16 y3, Seg.one [S.i IntKind.i8 y4]]] => some (Sum.inl (y0, y1, y2, y3, y4))
  | Ex.exit 4, [V.s (S.ptr 0 0 none 0), V.s S.bad, V.s (S.i IntKind.i64 y0)], [Obj.cells 28 [Seg.arr IntKind.i8 81 y1, Seg.arr IntKind.i8 16 y2, Seg.one [S.i IntKind.i8 y3]]] => some (Sum.inr (y0, y1, y2, y3))
  | _, _, _ => none

noncomputable def ref05_Checkl9d : Ex → List V → List Obj → Option ((Int × List Int × List Int × Int) ⊕ (List Int × List Int × Int)) := fun e vs objs => match e, vs, objs with
  | Ex.ret, [V.s (S.ptr 0 0 none 0), V.s (S.i IntKind.i64 y0)], [Obj.cells 28 [Seg.arr IntKind.i8 81 y1, Seg.arr IntKind.i8 16 y2, Seg.one [S.i IntKind.i8 y3]]] => some (Sum.inl (y0, y1, y2, y3))
  | Ex.exit 2, [V.s (S.ptr 0 0 none 0), V.s S.bad], [Obj.cells 28 [Seg.arr IntKind.i8 81 y0, Seg.arr IntKind.i8 16 y1, Seg.one [S.i IntKind.i8 y2]]] => some (Sum.inr (y0, y1, y2))
  | _, _, _ => none

noncomputable def ref05_Checkl20d : Ex → List V → List Obj → Option ((Int × List Int × List Int × Int) ⊕ (List Int × List Int × Int)) := fun e vs objs => match e, vs, objs with
  | Ex.ret, [V.s (S.ptr 0 0 none 0), V.s (S.i IntKind.i64 y0)], [Obj.cells 28 [Seg.arr IntKind.i8 81 y1, Seg.arr IntKind.i8 16 y2, Seg.one [S.i IntKind.i8 y3]]] => some (Sum.inl (y0, y1, y2, y3))
  | Ex.exit 6, [V.s (S.ptr 0 0 none 0), V.s S.bad], [Obj.cells 28 [Seg.arr IntKind.i8 81 y0, Seg.arr IntKind.i8 16 y1, Seg.one [S.i IntKind.i8 y2]]] => some (Sum.inr (y0, y1, y2))
  | _, _, _ => none

noncomputable def ref05_Checkl25d : Ex → List V → List Obj → Option ((Int × List Int × List Int × Int) ⊕ (List Int × List Int × Int)) := fun e vs objs => match e, vs, objs with
  | Ex.ret, [V.s (S.ptr 0 0 none 0), V.s (S.i IntKind.i64 y0)], [Obj.cells 28 [Seg.arr IntKind.i8 81 y1, Seg.arr IntKind.i8 16 y2, Seg.one [S.i IntKind.i8 y3]]] => some (Sum.inl (y0, y1, y2, y3))
  | Ex.exit 8, [V.s (S.ptr 0 0 none 0), V.s S.bad], [Obj.cells 28 [Seg.arr IntKind.i8 81 y0, Seg.arr IntKind.i8 16 y1, Seg.one [S.i IntKind.i8 y2]]] => some (Sum.inr (y0, y1, y2))
  | _, _, _ => none

noncomputable def ref05_Checkl30d : Ex → List V → List Obj → Option ((Int) ⊕ (Unit)) := fun e vs objs => match e, vs, objs with
  | Ex.ret, [V.s (S.i IntKind.i64 y0)], [] => some (Sum.inl (y0))
  | Ex.exit 10, [V.s S.bad], [] => some (Sum.inr ())
  | _, _, _ => none

noncomputable def ref05_Checkp4 {R : Type} (vs : List V) (objs : List Obj) (K : Ex → List V → List Obj → Option R) : Option R := match vs, objs with
  | [V.s (S.ptr 0 0 none 0), V.s (S.i IntKind.i64 x0)], [Obj.cells 28 [Seg.arr IntKind.i8 81 x1, Seg.arr IntKind.i8 16 x2, Seg.one [S.i IntKind.i8 x3]]] => ob (ref05_Checkl4 many x0 x1 x2 x3) fun t0 => sw t0 (fun z => K (Ex.ret) ([V.s (S.ptr 0 0 none 0), V.s (S.i IntKind.i64 (z.1))]) ([Obj.cells 28 [Seg.arr IntKind.i8 81 (z.2.1), Seg.arr IntKind.i8 16 (z.2.2.1), Seg.one [S.i IntKind.i8 (z.2.2.2)]]])) (fun z => K (Ex.exit 0) ([V.s (S.ptr 0 0 none 0), V.s S.bad]) ([Obj.cells 28 [Seg.arr IntKind.i8 81 (z.1), Seg.arr IntKind.i8 16 (z.2.1), Seg.one [S.i IntKind.i8 (z.2.2)]]]))
  | _, _ => none

noncomputable def ref05_Checkp12 {R : Type} (vs : List V) (objs : List Obj) (K : Ex → List V → List Obj → Option R) : Option R := match vs, objs with
  | [V.s (S.ptr 0 0 none 0), V.s (S.i IntKind.i64 x0), V.s (S.i IntKind.i64 x1)], [Obj.cells 28 [Seg.arr IntKind.i8 81 x2, Seg.arr IntKind.i8 16 x3, Seg.one [S.i IntKind.i8 x4]]] => ob (ref05_Checkl12 many x0 x1 x2 x3 x4) fun t0 => sw t0 (fun z => K (Ex.ret) ([V.s (S.ptr 0 0 none 0), V.s (S.i IntKind.i64 (z.1)), V.s (S.i IntKind.i64 (z.2.1))]) ([Obj.cells 28 [Seg.arr IntKind.i8 81 (z.2.2.1), Seg.arr IntKind.i8 16 (z.2.2.2.1), Seg.one [S.i IntKind.i8 (z.2.2.2.2)]]])) (fun z => K (Ex.exit 4) ([V.s (S.ptr 0 0 none 0), V.s S.bad, V.s (S.i IntKind.i64 (z.1))]) ([Obj.cells 28 [Seg.arr IntKind.i8 81 (z.2.1), Seg.arr IntKind.i8 16 (z.2.2.1), Seg.one [S.i IntKind.i8 (z.2.2.2)]]]))
  | _, _ => none

noncomputable def ref05_Checkp9 {R : Type} (vs : List V) (objs : List Obj) (K : Ex → List V → List Obj → Option R) : Option R := match vs, objs with
  | [V.s (S.ptr 0 0 none 0), V.s (S.i IntKind.i64 x0)], [Obj.cells 28 [Seg.arr IntKind.i8 81 x1, Seg.arr IntKind.i8 16 x2, Seg.one [S.i IntKind.i8 x3]]] => ob (ref05_Checkl9 many x0 x1 x2 x3) fun t0 => sw t0 (fun z => K (Ex.ret) ([V.s (S.ptr 0 0 none 0), V.s (S.i IntKind.i64 (z.1))]) ([Obj.cells 28 [Seg.arr IntKind.i8 81 (z.2.1), Seg.arr IntKind.i8 16 (z.2.2.1), Seg.one [S.i IntKind.i8 (z.2.2.2)]]])) (fun z => K (Ex.exit 2) ([V.s (S.ptr 0 0 none 0), V.s S.bad]) ([Obj.cells 28 [Seg.arr IntKind.i8 81 (z.1), Seg.arr IntKind.i8 16 (z.2.1), Seg.one [S.i IntKind.i8 (z.2.2)]]]))
  | _, _ => none

noncomputable def ref05_Checkp20 {R : Type} (vs : List V) (objs : List Obj) (K : Ex → List V → List Obj → Option R) : Option R := match vs, objs with
  | [V.s (S.ptr 0 0 none 0), V.s (S.i IntKind.i64 x0)], [Obj.cells 28 [Seg.arr IntKind.i8 81 x1, Seg.arr IntKind.i8 16 x2, Seg.one [S.i IntKind.i8 x3]]] => ob (ref05_Checkl20 many x0 x1 x2 x3) fun t0 => sw t0 (fun z => K (Ex.ret) ([V.s (S.ptr 0 0 none 0), V.s (S.i IntKind.i64 (z.1))]) ([Obj.cells 28 [Seg.arr IntKind.i8 81 (z.2.1), Seg.arr IntKind.i8 16 (z.2.2.1), Seg.one [S.i IntKind.i8 (z.2.2.2)]]])) (fun z => K (Ex.exit 6) ([V.s (S.ptr 0 0 none 0), V.s S.bad]) ([Obj.cells 28 [Seg.arr IntKind.i8 81 (z.1), Seg.arr IntKind.i8 16 (z.2.1), Seg.one [S.i IntKind.i8 (z.2.2)]]]))
  | _, _ => none

noncomputable def ref05_Checkp25 {R : Type} (vs : List V) (objs : List Obj) (K : Ex → List V → List Obj → Option R) : Option R := match vs, objs with
  | [V.s (S.ptr 0 0 none 0), V.s (S.i IntKind.i64 x0)], [Obj.cells 28 [Seg.arr IntKind.i8 81 x1, Seg.arr IntKind.i8 16 x2, Seg.one [S.i IntKind.i8 x3]]] => ob (ref05_Checkl25 many x0 x1 x2 x3) fun t0 => sw t0 (fun z => K (Ex.ret) ([V.s (S.ptr 0 0 none 0), V.s (S.i IntKind.i64 (z.1))]) ([Obj.cells 28 [Seg.arr IntKind.i8 81 (z.2.1), Seg.arr IntKind.i8 16 (z.2.2.1), Seg.one [S.i IntKind.i8 (z.2.2.2)]]])) (fun z => K (Ex.exit 8) ([V.s (S.ptr 0 0 none 0), V.s S.bad]) ([Obj.cells 28 [Seg.arr IntKind.i8 81 (z.1), Seg.arr IntKind.i8 16 (z.2.1), Seg.one [S.i IntKind.i8 (z.2.2)]]]))
  | _, _ => none

noncomputable def ref05_Checkp30 {R : Type} (vs : List V) (objs : List Obj) (K : Ex → List V → List Obj → Option R) : Option R := match vs, objs with
  | [V.s (S.ptr 0 0 none 0), V.s (S.i IntKind.i64 x0)], [Obj.cells 28 [Seg.arr IntKind.i8 81 x1, Seg.arr IntKind.i8 16 x2, Seg.one [S.i IntKind.i8 x3]]] => ob (ref05_Checkl30 many x0 x1 x2 x3) fun t0 => sw t0 (fun y0 => K (Ex.ret) ([V.s (S.i IntKind.i64 y0)]) ([])) (fun _ => K (Ex.exit 10) ([V.s S.bad]) ([]))
  | _, _ => none

noncomputable def ref05_Checklp : {R : Type} → Nat → List V → List Obj → (Ex → List V → List Obj → Option R) → Option R := fun q vs objs K => bif Nat.beq q 4 then ref05_Checkp4 vs objs K else bif Nat.beq q 12 then ref05_Checkp12 vs objs K else bif Nat.beq q 9 then ref05_Checkp9 vs objs K else bif Nat.beq q 20 then ref05_Checkp20 vs objs K else bif Nat.beq q 25 then ref05_Checkp25 vs objs K else bif Nat.beq q 30 then ref05_Checkp30 vs objs K else none

noncomputable def ref05_Checkc : Ctx := mkC 103 ((ref05_Ono (ref03_Deado (ref02_Totalo (ref05_Counto (ref05_allo (ref02_Kindo oNil))))))) [(4, [1, 3], [1, 2]), (9, [1, 4], [1, 2]), (12, [1, 4, 5], [1, 2, 4]), (20, [1, 7], [1, 2]), (25, [1, 8], [1, 2]), (30, [1, 9], [2])] ref05_Checklp

theorem ref05_Checkc_ok : CtxOK Tryd.prog ref05_Checkc := mkC_ok ((ref05_Ono_ok _ (ref03_Deado_ok _ (ref02_Totalo_ok _ (ref05_Counto_ok _ (ref05_allo_ok _ (ref02_Kindo_ok _ oNil_ok)))))))

noncomputable def ref05_Checkl4r (f : Nat) (x0 : Int) (x1 : List Int) (x2 : List Int) (x3 : Int) : Option ((Int × List Int × List Int × Int) ⊕ (List Int × List Int × Int)) := lrun ref05_Checkc 0 [1, 3] [1, 2] (loopOf Tryd.f22 4) f ([V.s (S.ptr 0 0 none 0), V.s (S.i IntKind.i64 x0)]) ([Obj.cells 28 [Seg.arr IntKind.i8 81 x1, Seg.arr IntKind.i8 16 x2, Seg.one [S.i IntKind.i8 x3]]]) ref05_Checkl4d

theorem ref05_Checkl4_step (f : Nat) (x0 : Int) (x1 : List Int) (x2 : List Int) (x3 : Int) : ref05_Checkl4r (f + 1) x0 x1 x2 x3 = ref05_Checkl4s (ref05_Checkl4r f) x0 x1 x2 x3 := by kernel_rfl

theorem ref05_Checkl4_eq : ∀ f, ref05_Checkl4r f = ref05_Checkl4 f
  | 0 => rfl
  | f + 1 => by funext x0 x1 x2 x3; rw [ref05_Checkl4_step, ref05_Checkl4_eq f]; rfl

noncomputable def ref05_Checkl12r (f : Nat) (x0 : Int) (x1 : Int) (x2 : List Int) (x3 : List Int) (x4 : Int) : Option ((Int × Int × List Int × List Int × Int) ⊕ (Int × List Int × List Int × Int)) := lrun ref05_Checkc 0 [1, 4, 5] [1, 2, 4] (loopOf Tryd.f22 12) f ([V.s (S.ptr 0 0 none 0), V.s (S.i IntKind.i64 x0), V.s (S.i IntKind.i64 x1)]) ([Obj.cells 28 [Seg.arr IntKind.i8 81 x2, Seg.arr IntKind.i8 16 x3, Seg.one [S.i IntKind.i8 x4]]]) ref05_Checkl12d

theorem ref05_Checkl12_step (f : Nat) (x0 : Int) (x1 : Int) (x2 : List Int) (x3 : List Int) (x4 : Int) : ref05_Checkl12r (f + 1) x0 x1 x2 x3 x4 = ref05_Checkl12s (ref05_Checkl12r f) x0 x1 x2 x3 x4 := by kernel_rfl

theorem ref05_Checkl12_eq : ∀ f, ref05_Checkl12r f = ref05_Checkl12 f
  | 0 => rfl
  | f + 1 => by funext x0 x1 x2 x3 x4; rw [ref05_Checkl12_step, ref05_Checkl12_eq f]; rfl

noncomputable def ref05_Checkl9r (f : Nat) (x0 : Int) (x1 : List Int) (x2 : List Int) (x3 : Int) : Option ((Int × List Int × List Int × Int) ⊕ (List Int × List Int × Int)) := lrun ref05_Checkc 0 [1, 4] [1, 2] (loopOf Tryd.f22 9) f ([V.s (S.ptr 0 0 none 0), V.s (S.i IntKind.i64 x0)]) ([Obj.cells 28 [Seg.arr IntKind.i8 81 x1, Seg.arr IntKind.i8 16 x2, Seg.one [S.i IntKind.i8 x3]]]) ref05_Checkl9d

theorem ref05_Checkl9_step (f : Nat) (x0 : Int) (x1 : List Int) (x2 : List Int) (x3 : Int) : ref05_Checkl9r (f + 1) x0 x1 x2 x3 = ref05_Checkl9s (ref05_Checkl9r f) x0 x1 x2 x3 := by kernel_rfl

theorem ref05_Checkl9_eq : ∀ f, ref05_Checkl9r f = ref05_Checkl9 f
  | 0 => rfl
  | f + 1 => by funext x0 x1 x2 x3; rw [ref05_Checkl9_step, ref05_Checkl9_eq f]; rfl

noncomputable def ref05_Checkl20r (f : Nat) (x0 : Int) (x1 : List Int) (x2 : List Int) (x3 : Int) : Option ((Int × List Int × List Int × Int) ⊕ (List Int × List Int × Int)) := lrun ref05_Checkc 0 [1, 7] [1, 2] (loopOf Tryd.f22 20) f ([V.s (S.ptr 0 0 none 0), V.s (S.i IntKind.i64 x0)]) ([Obj.cells 28 [Seg.arr IntKind.i8 81 x1, Seg.arr IntKind.i8 16 x2, Seg.one [S.i IntKind.i8 x3]]]) ref05_Checkl20d

theorem ref05_Checkl20_step (f : Nat) (x0 : Int) (x1 : List Int) (x2 : List Int) (x3 : Int) : ref05_Checkl20r (f + 1) x0 x1 x2 x3 = ref05_Checkl20s (ref05_Checkl20r f) x0 x1 x2 x3 := by kernel_rfl

theorem ref05_Checkl20_eq : ∀ f, ref05_Checkl20r f = ref05_Checkl20 f
  | 0 => rfl
  | f + 1 => by funext x0 x1 x2 x3; rw [ref05_Checkl20_step, ref05_Checkl20_eq f]; rfl

noncomputable def ref05_Checkl25r (f : Nat) (x0 : Int) (x1 : List Int) (x2 : List Int) (x3 : Int) : Option ((Int × List Int × List Int × Int) ⊕ (List Int × List Int × Int)) := lrun ref05_Checkc 0 [1, 8] [1, 2] (loopOf Tryd.f22 25) f ([V.s (S.ptr 0 0 none 0), V.s (S.i IntKind.i64 x0)]) ([Obj.cells 28 [Seg.arr IntKind.i8 81 x1, Seg.arr IntKind.i8 16 x2, Seg.one [S.i IntKind.i8 x3]]]) ref05_Checkl25d

theorem ref05_Checkl25_step (f : Nat) (x0 : Int) (x1 : List Int) (x2 : List Int) (x3 : Int) : ref05_Checkl25r (f + 1) x0 x1 x2 x3 = ref05_Checkl25s (ref05_Checkl25r f) x0 x1 x2 x3 := by kernel_rfl

theorem ref05_Checkl25_eq : ∀ f, ref05_Checkl25r f = ref05_Checkl25 f
  | 0 => rfl
  | f + 1 => by funext x0 x1 x2 x3; rw [ref05_Checkl25_step, ref05_Checkl25_eq f]; rfl

noncomputable def ref05_Checkl30r (f : Nat) (x0 : Int) (x1 : List Int) (x2 : List Int) (x3 : Int) : Option ((Int) ⊕ (Unit)) := lrun ref05_Checkc 0 [1, 9] [2] (loopOf Tryd.f22 30) f ([V.s (S.ptr 0 0 none 0), V.s (S.i IntKind.i64 x0)]) ([Obj.cells 28 [Seg.arr IntKind.i8 81 x1, Seg.arr IntKind.i8 16 x2, Seg.one [S.i IntKind.i8 x3]]]) ref05_Checkl30d

theorem ref05_Checkl30_step (f : Nat) (x0 : Int) (x1 : List Int) (x2 : List Int) (x3 : Int) : ref05_Checkl30r (f + 1) x0 x1 x2 x3 = ref05_Checkl30s (ref05_Checkl30r f) x0 x1 x2 x3 := by kernel_rfl

theorem ref05_Checkl30_eq : ∀ f, ref05_Checkl30r f = ref05_Checkl30 f
  | 0 => rfl
  | f + 1 => by funext x0 x1 x2 x3; rw [ref05_Checkl30_step, ref05_Checkl30_eq f]; rfl

theorem ref05_Checks4 : LoopSound Tryd.prog ref05_Checkc 0 (loopOf Tryd.f22 4) :=
  loopSound_by mixed ref05_Checkc_ok (AllP.of (l' := []) (by kernel_rfl) trivial) (q := 4) (kin := [1, 3]) (kout := [1, 2]) (by kernel_rfl) (by kernel_rfl) fun vs objs K r h => by
    replace h : ref05_Checkp4 vs objs K = some r := h
    unfold ref05_Checkp4 at h
    split at h
    · skip
      obtain ⟨t, h1, h2⟩ := ob_ok h
      rw [← ref05_Checkl4_eq] at h1
      refine ⟨_, ref05_Checkl4d, t, many, h1, fun e vs' objs' hd => ?_⟩
      unfold ref05_Checkl4d at hd
      split at hd
      · skip
        cases hd
        exact h2
      · skip
        cases hd
        exact h2
      · cases hd
    · cases h

theorem ref05_Checks12 : LoopSound Tryd.prog ref05_Checkc 0 (loopOf Tryd.f22 12) :=
  loopSound_by mixed ref05_Checkc_ok (AllP.of (l' := []) (by kernel_rfl) trivial) (q := 12) (kin := [1, 4, 5]) (kout := [1, 2, 4]) (by kernel_rfl) (by kernel_rfl) fun vs objs K r h => by
    replace h : ref05_Checkp12 vs objs K = some r := h
    unfold ref05_Checkp12 at h
    split at h
    · skip
      obtain ⟨t, h1, h2⟩ := ob_ok h
      rw [← ref05_Checkl12_eq] at h1
      refine ⟨_, ref05_Checkl12d, t, many, h1, fun e vs' objs' hd => ?_⟩
      unfold ref05_Checkl12d at hd
      split at hd
      · skip
        cases hd
        exact h2
      · skip
        cases hd
        exact h2
      · cases hd
    · cases h

theorem ref05_Checks20 : LoopSound Tryd.prog ref05_Checkc 0 (loopOf Tryd.f22 20) :=
  loopSound_by mixed ref05_Checkc_ok (AllP.of (l' := []) (by kernel_rfl) trivial) (q := 20) (kin := [1, 7]) (kout := [1, 2]) (by kernel_rfl) (by kernel_rfl) fun vs objs K r h => by
    replace h : ref05_Checkp20 vs objs K = some r := h
    unfold ref05_Checkp20 at h
    split at h
    · skip
      obtain ⟨t, h1, h2⟩ := ob_ok h
      rw [← ref05_Checkl20_eq] at h1
      refine ⟨_, ref05_Checkl20d, t, many, h1, fun e vs' objs' hd => ?_⟩
      unfold ref05_Checkl20d at hd
      split at hd
      · skip
        cases hd
        exact h2
      · skip
        cases hd
        exact h2
      · cases hd
    · cases h

theorem ref05_Checks25 : LoopSound Tryd.prog ref05_Checkc 0 (loopOf Tryd.f22 25) :=
  loopSound_by mixed ref05_Checkc_ok (AllP.of (l' := []) (by kernel_rfl) trivial) (q := 25) (kin := [1, 8]) (kout := [1, 2]) (by kernel_rfl) (by kernel_rfl) fun vs objs K r h => by
    replace h : ref05_Checkp25 vs objs K = some r := h
    unfold ref05_Checkp25 at h
    split at h
    · skip
      obtain ⟨t, h1, h2⟩ := ob_ok h
      rw [← ref05_Checkl25_eq] at h1
      refine ⟨_, ref05_Checkl25d, t, many, h1, fun e vs' objs' hd => ?_⟩
      unfold ref05_Checkl25d at hd
      split at hd
      · skip
        cases hd
        exact h2
      · skip
        cases hd
        exact h2
      · cases hd
    · cases h

theorem ref05_Checks30 : LoopSound Tryd.prog ref05_Checkc 0 (loopOf Tryd.f22 30) :=
  loopSound_by mixed ref05_Checkc_ok (AllP.of (l' := []) (by kernel_rfl) trivial) (q := 30) (kin := [1, 9]) (kout := [2]) (by kernel_rfl) (by kernel_rfl) fun vs objs K r h => by
    replace h : ref05_Checkp30 vs objs K = some r := h
    unfold ref05_Checkp30 at h
    split at h
    · skip
      obtain ⟨t, h1, h2⟩ := ob_ok h
      rw [← ref05_Checkl30_eq] at h1
      refine ⟨_, ref05_Checkl30d, t, many, h1, fun e vs' objs' hd => ?_⟩
      unfold ref05_Checkl30d at hd
      split at hd
      · skip
        cases hd
        exact h2
      · skip
        cases hd
        exact h2
      · cases hd
    · cases h

theorem ref05_Checks9 : LoopSound Tryd.prog ref05_Checkc 0 (loopOf Tryd.f22 9) :=
  loopSound_by mixed ref05_Checkc_ok (AllP.of (l' := [loopOf Tryd.f22 12]) (by kernel_rfl) ⟨ref05_Checks12, trivial⟩) (q := 9) (kin := [1, 4]) (kout := [1, 2]) (by kernel_rfl) (by kernel_rfl) fun vs objs K r h => by
    replace h : ref05_Checkp9 vs objs K = some r := h
    unfold ref05_Checkp9 at h
    split at h
    · skip
      obtain ⟨t, h1, h2⟩ := ob_ok h
      rw [← ref05_Checkl9_eq] at h1
      refine ⟨_, ref05_Checkl9d, t, many, h1, fun e vs' objs' hd => ?_⟩
      unfold ref05_Checkl9d at hd
      split at hd
      · skip
        cases hd
        exact h2
      · skip
        cases hd
        exact h2
      · cases hd
    · cases h

noncomputable def ref05_Checkd : V → List Obj → Option (Int) := fun v objs => match v, objs with
  | V.s (S.i IntKind.i64 y0), [] => some (y0)
  | _, _ => none

theorem ref05_Check_eq (x0 : List Int) (x1 : List Int) (x2 : Int) : fnE ref05_Checkc Tryd.f22 ([V.agg [Seg.arr IntKind.i8 81 x0, Seg.arr IntKind.i8 16 x1, Seg.one [S.i IntKind.i8 x2]]]) ([]) ref05_Checkd = ref05_Check x0 x1 x2 := by kernel_rfl

noncomputable def ref05_Checka {R : Type} (o : Orc) (vs : List V) (objs : List Obj) (K : Bool → V → List Obj → Option R) : Option R := match vs, objs with
  | [V.agg [Seg.arr IntKind.i8 81 x0, Seg.arr IntKind.i8 16 x1, Seg.one [S.i IntKind.i8 x2]]], [] => ob (ref05_Check x0 x1 x2) fun y0 => K false (V.s (S.i IntKind.i64 y0)) ([])
  | _, _ => o 22 vs objs K

noncomputable def ref05_Checko (o : Orc) : Orc := hook 22 (ref05_Checka o) o

theorem ref05_Checko_ok (o : Orc) (ho : OSound Tryd.prog o) : OSound Tryd.prog (ref05_Checko o) := hook_ok ho fun vs objs K r h => by
  unfold ref05_Checka at h
  split at h
  · skip
    obtain ⟨t, h1, h2⟩ := ob_ok h
    refine anyOK_of mixed ref05_Checkc_ok (fn := Tryd.f22) (b := (Tryd.f22).body.getD .skip) (by kernel_rfl) (by kernel_rfl) (by kernel_rfl) ((ref05_Check_eq _ _ _).trans h1) (m := 0) rfl (AllP.of (l' := [loopOf Tryd.f22 4, loopOf Tryd.f22 9, loopOf Tryd.f22 20, loopOf Tryd.f22 25, loopOf Tryd.f22 30]) (by kernel_rfl) ⟨ref05_Checks4, ref05_Checks9, ref05_Checks20, ref05_Checks25, ref05_Checks30, trivial⟩) fun v objs' hd => ?_
    unfold ref05_Checkd at hd
    split at hd
    · skip
      cases hd
      exact h2
    · cases hd
  · exact ho _ _ _ _ _ h

noncomputable def ref05_Takenl3d : Ex → List V → List Obj → Option (List Bool × List Bool) := fun e vs objs => match e, vs, objs with
  | Ex.exit 0, [V.s (S.ptr 0 0 none 0), V.s (S.ptr 1 0 none 0)], [Obj.cells 71 [Seg.barr 81 y0], Obj.cells 71 [Seg.barr 81 y1]] => some (y0, y1)
  | _, _, _ => none

noncomputable def ref05_Takenp3 {R : Type} (vs : List V) (objs : List Obj) (K : Ex → List V → List Obj → Option R) : Option R := match vs, objs with
  | [V.s (S.ptr 0 0 none 0), V.s (S.ptr 1 0 none 0), V.s (S.ptr 2 0 none 0), V.s (S.i IntKind.i64 x0)], [Obj.cells 28 [Seg.arr IntKind.i8 81 x1, Seg.arr IntKind.i8 16 x2, Seg.one [S.i IntKind.i8 x3]], Obj.cells 71 [Seg.barr 81 x4], Obj.cells 71 [Seg.barr 81 x5]] => ob (ref05_Takenl3 many x0 x1 x2 x3 x4 x5) fun z => K (Ex.exit 0) ([V.s (S.ptr 0 0 none 0), V.s (S.ptr 1 0 none 0)]) ([Obj.cells 71 [Seg.barr 81 (z.1)], Obj.cells 71 [Seg.barr 81 (z.2)]])
  | _, _ => none

noncomputable def ref05_Takenlp : {R : Type} → Nat → List V → List Obj → (Ex → List V → List Obj → Option R) → Option R := fun q vs objs K => bif Nat.beq q 3 then ref05_Takenp3 vs objs K else none

noncomputable def ref05_Takenc : Ctx := mkC 18 (oNil) [(3, [1, 2, 3, 4], [2, 3])] ref05_Takenlp

theorem ref05_Takenc_ok : CtxOK Tryd.prog ref05_Takenc := mkC_ok (oNil_ok)

noncomputable def ref05_Takenl3r (f : Nat) (x0 : Int) (x1 : List Int) (x2 : List Int) (x3 : Int) (x4 : List Bool) (x5 : List Bool) : Option (List Bool × List Bool) := lrun ref05_Takenc 0 [1, 2, 3, 4] [2, 3] (loopOf Tryd.f46 3) f ([V.s (S.ptr 0 0 none 0), V.s (S.ptr 1 0 none 0), V.s (S.ptr 2 0 none 0), V.s (S.i IntKind.i64 x0)]) ([Obj.cells 28 [Seg.arr IntKind.i8 81 x1, Seg.arr IntKind.i8 16 x2, Seg.one [S.i IntKind.i8 x3]], Obj.cells 71 [Seg.barr 81 x4], Obj.cells 71 [Seg.barr 81 x5]]) ref05_Takenl3d

theorem ref05_Takenl3_step (f : Nat) (x0 : Int) (x1 : List Int) (x2 : List Int) (x3 : Int) (x4 : List Bool) (x5 : List Bool) : ref05_Takenl3r (f + 1) x0 x1 x2 x3 x4 x5 = ref05_Takenl3s (ref05_Takenl3r f) x0 x1 x2 x3 x4 x5 := by kernel_rfl

theorem ref05_Takenl3_eq : ∀ f, ref05_Takenl3r f = ref05_Takenl3 f
  | 0 => rfl
  | f + 1 => by funext x0 x1 x2 x3 x4 x5; rw [ref05_Takenl3_step, ref05_Takenl3_eq f]; rfl

theorem ref05_Takens3 : LoopSound Tryd.prog ref05_Takenc 0 (loopOf Tryd.f46 3) :=
  loopSound_by mixed ref05_Takenc_ok (AllP.of (l' := []) (by kernel_rfl) trivial) (q := 3) (kin := [1, 2, 3, 4]) (kout := [2, 3]) (by kernel_rfl) (by kernel_rfl) fun vs objs K r h => by
    replace h : ref05_Takenp3 vs objs K = some r := h
    unfold ref05_Takenp3 at h
    split at h
    · skip
      obtain ⟨t, h1, h2⟩ := ob_ok h
      rw [← ref05_Takenl3_eq] at h1
      refine ⟨_, ref05_Takenl3d, t, many, h1, fun e vs' objs' hd => ?_⟩
      unfold ref05_Takenl3d at hd
      split at hd
      · skip
        cases hd
        exact h2
      · cases hd
    · cases h

noncomputable def ref05_Takend : V → List Obj → Option (List Bool) := fun v objs => match v, objs with
  | V.agg [Seg.barr 81 y0], [] => some (y0)
  | _, _ => none

theorem ref05_Taken_eq (x0 : List Int) (x1 : List Int) (x2 : Int) : fnE ref05_Takenc Tryd.f46 ([V.agg [Seg.arr IntKind.i8 81 x0, Seg.arr IntKind.i8 16 x1, Seg.one [S.i IntKind.i8 x2]]]) ([]) ref05_Takend = ref05_Taken x0 x1 x2 := by kernel_rfl

noncomputable def ref05_Takena {R : Type} (o : Orc) (vs : List V) (objs : List Obj) (K : Bool → V → List Obj → Option R) : Option R := match vs, objs with
  | [V.agg [Seg.arr IntKind.i8 81 x0, Seg.arr IntKind.i8 16 x1, Seg.one [S.i IntKind.i8 x2]]], [] => ob (ref05_Taken x0 x1 x2) fun y0 => K false (V.agg [Seg.barr 81 y0]) ([])
  | _, _ => o 46 vs objs K

noncomputable def ref05_Takeno (o : Orc) : Orc := hook 46 (ref05_Takena o) o

theorem ref05_Takeno_ok (o : Orc) (ho : OSound Tryd.prog o) : OSound Tryd.prog (ref05_Takeno o) := hook_ok ho fun vs objs K r h => by
  unfold ref05_Takena at h
  split at h
  · skip
    obtain ⟨t, h1, h2⟩ := ob_ok h
    refine anyOK_of mixed ref05_Takenc_ok (fn := Tryd.f46) (b := (Tryd.f46).body.getD .skip) (by kernel_rfl) (by kernel_rfl) (by kernel_rfl) ((ref05_Taken_eq _ _ _).trans h1) (m := 0) rfl (AllP.of (l' := [loopOf Tryd.f46 3]) (by kernel_rfl) ⟨ref05_Takens3, trivial⟩) fun v objs' hd => ?_
    unfold ref05_Takend at hd
    split at hd
    · skip
      cases hd
      exact h2
    · cases hd
  · exact ho _ _ _ _ _ h

noncomputable def ref08_Kingl2d : Ex → List V → List Obj → Option ((Int) ⊕ (Unit)) := fun e vs objs => match e, vs, objs with
  | Ex.ret, [V.s (S.i IntKind.i64 y0)], [] => some (Sum.inl (y0))
  | Ex.exit 0, [V.s S.bad], [] => some (Sum.inr ())
  | _, _, _ => none

noncomputable def ref08_Kingp2 {R : Type} (vs : List V) (objs : List Obj) (K : Ex → List V → List Obj → Option R) : Option R := match vs, objs with
  | [V.s (S.i IntKind.i64 x0), V.s (S.ptr 0 0 none 0), V.s (S.i IntKind.i64 x1)], [Obj.cells 28 [Seg.arr IntKind.i8 81 x2, Seg.arr IntKind.i8 16 x3, Seg.one [S.i IntKind.i8 x4]]] => ob (ref08_Kingl2 many x0 x1 x2 x3 x4) fun t0 => sw t0 (fun y0 => K (Ex.ret) ([V.s (S.i IntKind.i64 y0)]) ([])) (fun _ => K (Ex.exit 0) ([V.s S.bad]) ([]))
  | _, _ => none

noncomputable def ref08_Kinglp : {R : Type} → Nat → List V → List Obj → (Ex → List V → List Obj → Option R) → Option R := fun q vs objs K => bif Nat.beq q 2 then ref08_Kingp2 vs objs K else none

noncomputable def ref08_Kingc : Ctx := mkC 20 (oNil) [(2, [1, 2, 5], [4])] ref08_Kinglp

theorem ref08_Kingc_ok : CtxOK Tryd.prog ref08_Kingc := mkC_ok (oNil_ok)

noncomputable def ref08_Kingl2r (f : Nat) (x0 : Int) (x1 : Int) (x2 : List Int) (x3 : List Int) (x4 : Int) : Option ((Int) ⊕ (Unit)) := lrun ref08_Kingc 0 [1, 2, 5] [4] (loopOf Tryd.f45 2) f ([V.s (S.i IntKind.i64 x0), V.s (S.ptr 0 0 none 0), V.s (S.i IntKind.i64 x1)]) ([Obj.cells 28 [Seg.arr IntKind.i8 81 x2, Seg.arr IntKind.i8 16 x3, Seg.one [S.i IntKind.i8 x4]]]) ref08_Kingl2d

theorem ref08_Kingl2_step (f : Nat) (x0 : Int) (x1 : Int) (x2 : List Int) (x3 : List Int) (x4 : Int) : ref08_Kingl2r (f + 1) x0 x1 x2 x3 x4 = ref08_Kingl2s (ref08_Kingl2r f) x0 x1 x2 x3 x4 := by kernel_rfl

theorem ref08_Kingl2_eq : ∀ f, ref08_Kingl2r f = ref08_Kingl2 f
  | 0 => rfl
  | f + 1 => by funext x0 x1 x2 x3 x4; rw [ref08_Kingl2_step, ref08_Kingl2_eq f]; rfl

theorem ref08_Kings2 : LoopSound Tryd.prog ref08_Kingc 0 (loopOf Tryd.f45 2) :=
  loopSound_by mixed ref08_Kingc_ok (AllP.of (l' := []) (by kernel_rfl) trivial) (q := 2) (kin := [1, 2, 5]) (kout := [4]) (by kernel_rfl) (by kernel_rfl) fun vs objs K r h => by
    replace h : ref08_Kingp2 vs objs K = some r := h
    unfold ref08_Kingp2 at h
    split at h
    · skip
      obtain ⟨t, h1, h2⟩ := ob_ok h
      rw [← ref08_Kingl2_eq] at h1
      refine ⟨_, ref08_Kingl2d, t, many, h1, fun e vs' objs' hd => ?_⟩
      unfold ref08_Kingl2d at hd
      split at hd
      · skip
        cases hd
        exact h2
      · skip
        cases hd
        exact h2
      · cases hd
    · cases h

noncomputable def ref08_Kingd : V → List Obj → Option (Int) := fun v objs => match v, objs with
  | V.s (S.i IntKind.i64 y0), [] => some (y0)
  | _, _ => none

theorem ref08_King_eq (x0 : List Int) (x1 : List Int) (x2 : Int) (x3 : Int) : fnE ref08_Kingc Tryd.f45 ([V.agg [Seg.arr IntKind.i8 81 x0, Seg.arr IntKind.i8 16 x1, Seg.one [S.i IntKind.i8 x2]], V.s (S.i IntKind.i64 x3)]) ([]) ref08_Kingd = ref08_King x0 x1 x2 x3 := by kernel_rfl

noncomputable def ref08_Kinga {R : Type} (o : Orc) (vs : List V) (objs : List Obj) (K : Bool → V → List Obj → Option R) : Option R := match vs, objs with
  | [V.agg [Seg.arr IntKind.i8 81 x0, Seg.arr IntKind.i8 16 x1, Seg.one [S.i IntKind.i8 x2]], V.s (S.i IntKind.i64 x3)], [] => ob (ref08_King x0 x1 x2 x3) fun y0 => K false (V.s (S.i IntKind.i64 y0)) ([])
  | _, _ => o 45 vs objs K

noncomputable def ref08_Kingo (o : Orc) : Orc := hook 45 (ref08_Kinga o) o

theorem ref08_Kingo_ok (o : Orc) (ho : OSound Tryd.prog o) : OSound Tryd.prog (ref08_Kingo o) := hook_ok ho fun vs objs K r h => by
  unfold ref08_Kinga at h
  split at h
  · skip
    obtain ⟨t, h1, h2⟩ := ob_ok h
    refine anyOK_of mixed ref08_Kingc_ok (fn := Tryd.f45) (b := (Tryd.f45).body.getD .skip) (by kernel_rfl) (by kernel_rfl) (by kernel_rfl) ((ref08_King_eq _ _ _ _).trans h1) (m := 0) rfl (AllP.of (l' := [loopOf Tryd.f45 2]) (by kernel_rfl) ⟨ref08_Kings2, trivial⟩) fun v objs' hd => ?_
    unfold ref08_Kingd at hd
    split at hd
    · skip
      cases hd
      exact h2
    · cases hd
  · exact ho _ _ _ _ _ h

noncomputable def ref03_sizec : Ctx := mkC 8 (oNil) [] lpNil

theorem ref03_sizec_ok : CtxOK Tryd.prog ref03_sizec := mkC_ok (oNil_ok)

noncomputable def ref03_sized : V → List Obj → Option (Int) := fun v objs => match v, objs with
  | V.s (S.i IntKind.i64 y0), [] => some (y0)
  | _, _ => none

theorem ref03_size_eq (x0 : Int) : fnE ref03_sizec Tryd.f120 ([V.s (S.i IntKind.i64 x0)]) ([]) ref03_sized = ref03_size x0 := by kernel_rfl

noncomputable def ref03_sizea {R : Type} (o : Orc) (vs : List V) (objs : List Obj) (K : Bool → V → List Obj → Option R) : Option R := match vs, objs with
  | [V.s (S.i IntKind.i64 x0)], [] => ob (ref03_size x0) fun y0 => K false (V.s (S.i IntKind.i64 y0)) ([])
  | _, _ => o 120 vs objs K

noncomputable def ref03_sizeo (o : Orc) : Orc := hook 120 (ref03_sizea o) o

theorem ref03_sizeo_ok (o : Orc) (ho : OSound Tryd.prog o) : OSound Tryd.prog (ref03_sizeo o) := hook_ok ho fun vs objs K r h => by
  unfold ref03_sizea at h
  split at h
  · skip
    obtain ⟨t, h1, h2⟩ := ob_ok h
    refine anyOK_of mixed ref03_sizec_ok (fn := Tryd.f120) (b := (Tryd.f120).body.getD .skip) (by kernel_rfl) (by kernel_rfl) (by kernel_rfl) ((ref03_size_eq _).trans h1) (m := 0) rfl (AllP.of (l' := []) (by kernel_rfl) trivial) fun v objs' hd => ?_
    unfold ref03_sized at hd
    split at hd
    · skip
      cases hd
      exact h2
    · cases hd
  · exact ho _ _ _ _ _ h

noncomputable def ref03_Stepc : Ctx := mkC 125 ((ref02_Kindo (ref02_Sideo (ref03_sizeo oNil)))) [] lpNil

theorem ref03_Stepc_ok : CtxOK Tryd.prog ref03_Stepc := mkC_ok ((ref02_Kindo_ok _ (ref02_Sideo_ok _ (ref03_sizeo_ok _ oNil_ok))))

noncomputable def ref03_Stepd : V → List Obj → Option (Bool) := fun v objs => match v, objs with
  | V.s (S.b y0), [] => some (y0)
  | _, _ => none

theorem ref03_Step_eq (x0 : Int) (x1 : Int) (x2 : Int) : fnE ref03_Stepc Tryd.f107 ([V.s (S.i IntKind.i64 x0), V.s (S.i IntKind.i64 x1), V.s (S.i IntKind.i64 x2)]) ([]) ref03_Stepd = ref03_Step x0 x1 x2 := by kernel_rfl

noncomputable def ref03_Stepa {R : Type} (o : Orc) (vs : List V) (objs : List Obj) (K : Bool → V → List Obj → Option R) : Option R := match vs, objs with
  | [V.s (S.i IntKind.i64 x0), V.s (S.i IntKind.i64 x1), V.s (S.i IntKind.i64 x2)], [] => ob (ref03_Step x0 x1 x2) fun y0 => K false (V.s (S.b y0)) ([])
  | _, _ => o 107 vs objs K

noncomputable def ref03_Stepo (o : Orc) : Orc := hook 107 (ref03_Stepa o) o

theorem ref03_Stepo_ok (o : Orc) (ho : OSound Tryd.prog o) : OSound Tryd.prog (ref03_Stepo o) := hook_ok ho fun vs objs K r h => by
  unfold ref03_Stepa at h
  split at h
  · skip
    obtain ⟨t, h1, h2⟩ := ob_ok h
    refine anyOK_of mixed ref03_Stepc_ok (fn := Tryd.f107) (b := (Tryd.f107).body.getD .skip) (by kernel_rfl) (by kernel_rfl) (by kernel_rfl) ((ref03_Step_eq _ _ _).trans h1) (m := 0) rfl (AllP.of (l' := []) (by kernel_rfl) trivial) fun v objs' hd => ?_
    unfold ref03_Stepd at hd
    split at hd
    · skip
      cases hd
      exact h2
    · cases hd
  · exact ho _ _ _ _ _ h

noncomputable def ref04_Linec : Ctx := mkC 51 (oNil) [] lpNil

theorem ref04_Linec_ok : CtxOK Tryd.prog ref04_Linec := mkC_ok (oNil_ok)

noncomputable def ref04_Lined : V → List Obj → Option (Int) := fun v objs => match v, objs with
  | V.s (S.i IntKind.i64 y0), [] => some (y0)
  | _, _ => none

theorem ref04_Line_eq (x0 : Int) (x1 : Int) : fnE ref04_Linec Tryd.f108 ([V.s (S.i IntKind.i64 x0), V.s (S.i IntKind.i64 x1)]) ([]) ref04_Lined = ref04_Line x0 x1 := by kernel_rfl

noncomputable def ref04_Linea {R : Type} (o : Orc) (vs : List V) (objs : List Obj) (K : Bool → V → List Obj → Option R) : Option R := match vs, objs with
  | [V.s (S.i IntKind.i64 x0), V.s (S.i IntKind.i64 x1)], [] => ob (ref04_Line x0 x1) fun y0 => K false (V.s (S.i IntKind.i64 y0)) ([])
  | _, _ => o 108 vs objs K

noncomputable def ref04_Lineo (o : Orc) : Orc := hook 108 (ref04_Linea o) o

theorem ref04_Lineo_ok (o : Orc) (ho : OSound Tryd.prog o) : OSound Tryd.prog (ref04_Lineo o) := hook_ok ho fun vs objs K r h => by
  unfold ref04_Linea at h
  split at h
  · skip
    obtain ⟨t, h1, h2⟩ := ob_ok h
    refine anyOK_of mixed ref04_Linec_ok (fn := Tryd.f108) (b := (Tryd.f108).body.getD .skip) (by kernel_rfl) (by kernel_rfl) (by kernel_rfl) ((ref04_Line_eq _ _).trans h1) (m := 0) rfl (AllP.of (l' := []) (by kernel_rfl) trivial) fun v objs' hd => ?_
    unfold ref04_Lined at hd
    split at hd
    · skip
      cases hd
      exact h2
    · cases hd
  · exact ho _ _ _ _ _ h

noncomputable def ref04_signc : Ctx := mkC 7 (oNil) [] lpNil

theorem ref04_signc_ok : CtxOK Tryd.prog ref04_signc := mkC_ok (oNil_ok)

noncomputable def ref04_signd : V → List Obj → Option (Int) := fun v objs => match v, objs with
  | V.s (S.i IntKind.i64 y0), [] => some (y0)
  | _, _ => none

theorem ref04_sign_eq (x0 : Int) : fnE ref04_signc Tryd.f126 ([V.s (S.i IntKind.i64 x0)]) ([]) ref04_signd = ref04_sign x0 := by kernel_rfl

noncomputable def ref04_signa {R : Type} (o : Orc) (vs : List V) (objs : List Obj) (K : Bool → V → List Obj → Option R) : Option R := match vs, objs with
  | [V.s (S.i IntKind.i64 x0)], [] => ob (ref04_sign x0) fun y0 => K false (V.s (S.i IntKind.i64 y0)) ([])
  | _, _ => o 126 vs objs K

noncomputable def ref04_signo (o : Orc) : Orc := hook 126 (ref04_signa o) o

theorem ref04_signo_ok (o : Orc) (ho : OSound Tryd.prog o) : OSound Tryd.prog (ref04_signo o) := hook_ok ho fun vs objs K r h => by
  unfold ref04_signa at h
  split at h
  · skip
    obtain ⟨t, h1, h2⟩ := ob_ok h
    refine anyOK_of mixed ref04_signc_ok (fn := Tryd.f126) (b := (Tryd.f126).body.getD .skip) (by kernel_rfl) (by kernel_rfl) (by kernel_rfl) ((ref04_sign_eq _).trans h1) (m := 0) rfl (AllP.of (l' := []) (by kernel_rfl) trivial) fun v objs' hd => ?_
    unfold ref04_signd at hd
    split at hd
    · skip
      cases hd
      exact h2
    · cases hd
  · exact ho _ _ _ _ _ h

noncomputable def ref04_Betweenl6d : Ex → List V → List Obj → Option (Nat × Nat × List Int) := fun e vs objs => match e, vs, objs with
  | Ex.exit 0, [V.s (S.sl 0 0 y0 true)], [Obj.sli 3 false (Seg.arr IntKind.i64 y1 y2)] => some (y0, y1, y2)
  | _, _, _ => none

noncomputable def ref04_Betweenp6 {R : Type} (vs : List V) (objs : List Obj) (K : Ex → List V → List Obj → Option R) : Option R := match vs, objs with
  | [V.s (S.i IntKind.i64 x0), V.s (S.sl 0 0 x1 true), V.s (S.i IntKind.i64 x2), V.s (S.i IntKind.i64 x3)], [Obj.sli 3 false (Seg.arr IntKind.i64 x4 x5)] => ob (ref04_Betweenl6 many x0 x1 x2 x3 x4 x5) fun z => K (Ex.exit 0) ([V.s (S.sl 0 0 (z.1) true)]) ([Obj.sli 3 false (Seg.arr IntKind.i64 (z.2.1) (z.2.2))])
  | _, _ => none

noncomputable def ref04_Betweenlp : {R : Type} → Nat → List V → List Obj → (Ex → List V → List Obj → Option R) → Option R := fun q vs objs K => bif Nat.beq q 6 then ref04_Betweenp6 vs objs K else none

noncomputable def ref04_Betweenc : Ctx := mkC 41 ((ref04_signo (ref04_Lineo oNil))) [(6, [1, 5, 6, 7], [5])] ref04_Betweenlp

theorem ref04_Betweenc_ok : CtxOK Tryd.prog ref04_Betweenc := mkC_ok ((ref04_signo_ok _ (ref04_Lineo_ok _ oNil_ok)))

noncomputable def ref04_Betweenl6r (f : Nat) (x0 : Int) (x1 : Nat) (x2 : Int) (x3 : Int) (x4 : Nat) (x5 : List Int) : Option (Nat × Nat × List Int) := lrun ref04_Betweenc 0 [1, 5, 6, 7] [5] (loopOf Tryd.f121 6) f ([V.s (S.i IntKind.i64 x0), V.s (S.sl 0 0 x1 true), V.s (S.i IntKind.i64 x2), V.s (S.i IntKind.i64 x3)]) ([Obj.sli 3 false (Seg.arr IntKind.i64 x4 x5)]) ref04_Betweenl6d

theorem ref04_Betweenl6_step (f : Nat) (x0 : Int) (x1 : Nat) (x2 : Int) (x3 : Int) (x4 : Nat) (x5 : List Int) : ref04_Betweenl6r (f + 1) x0 x1 x2 x3 x4 x5 = ref04_Betweenl6s (ref04_Betweenl6r f) x0 x1 x2 x3 x4 x5 := by kernel_rfl

theorem ref04_Betweenl6_eq : ∀ f, ref04_Betweenl6r f = ref04_Betweenl6 f
  | 0 => rfl
  | f + 1 => by funext x0 x1 x2 x3 x4 x5; rw [ref04_Betweenl6_step, ref04_Betweenl6_eq f]; rfl

theorem ref04_Betweens6 : LoopSound Tryd.prog ref04_Betweenc 0 (loopOf Tryd.f121 6) :=
  loopSound_by mixed ref04_Betweenc_ok (AllP.of (l' := []) (by kernel_rfl) trivial) (q := 6) (kin := [1, 5, 6, 7]) (kout := [5]) (by kernel_rfl) (by kernel_rfl) fun vs objs K r h => by
    replace h : ref04_Betweenp6 vs objs K = some r := h
    unfold ref04_Betweenp6 at h
    split at h
    · skip
      obtain ⟨t, h1, h2⟩ := ob_ok h
      rw [← ref04_Betweenl6_eq] at h1
      refine ⟨_, ref04_Betweenl6d, t, many, h1, fun e vs' objs' hd => ?_⟩
      unfold ref04_Betweenl6d at hd
      split at hd
      · skip
        cases hd
        exact h2
      · cases hd
    · cases h

noncomputable def ref04_Betweend : V → List Obj → Option (Nat × Nat × List Int) := fun v objs => match v, objs with
  | V.s (S.sl 0 0 y0 true), [Obj.sli 3 false (Seg.arr IntKind.i64 y1 y2)] => some (y0, y1, y2)
  | _, _ => none

theorem ref04_Between_eq (x0 : Int) (x1 : Int) : fnE ref04_Betweenc Tryd.f121 ([V.s (S.i IntKind.i64 x0), V.s (S.i IntKind.i64 x1)]) ([]) ref04_Betweend = ref04_Between x0 x1 := by kernel_rfl

noncomputable def ref04_Betweena {R : Type} (o : Orc) (vs : List V) (objs : List Obj) (K : Bool → V → List Obj → Option R) : Option R := match vs, objs with
  | [V.s (S.i IntKind.i64 x0), V.s (S.i IntKind.i64 x1)], [] => ob (ref04_Between x0 x1) fun z => K false (V.s (S.sl 0 0 (z.1) true)) ([Obj.sli 3 false (Seg.arr IntKind.i64 (z.2.1) (z.2.2))])
  | _, _ => o 121 vs objs K

noncomputable def ref04_Betweeno (o : Orc) : Orc := hook 121 (ref04_Betweena o) o

theorem ref04_Betweeno_ok (o : Orc) (ho : OSound Tryd.prog o) : OSound Tryd.prog (ref04_Betweeno o) := hook_ok ho fun vs objs K r h => by
  unfold ref04_Betweena at h
  split at h
  · skip
    obtain ⟨t, h1, h2⟩ := ob_ok h
    refine anyOK_of mixed ref04_Betweenc_ok (fn := Tryd.f121) (b := (Tryd.f121).body.getD .skip) (by kernel_rfl) (by kernel_rfl) (by kernel_rfl) ((ref04_Between_eq _ _).trans h1) (m := 0) rfl (AllP.of (l' := [loopOf Tryd.f121 6]) (by kernel_rfl) ⟨ref04_Betweens6, trivial⟩) fun v objs' hd => ?_
    unfold ref04_Betweend at hd
    split at hd
    · skip
      cases hd
      exact h2
    · cases hd
  · exact ho _ _ _ _ _ h

noncomputable def ref04_Freel3d : Ex → List V → List Obj → Option ((Bool) ⊕ (Unit)) := fun e vs objs => match e, vs, objs with
  | Ex.ret, [V.s (S.b y0)], [] => some (Sum.inl (y0))
  | Ex.exit 0, [V.s S.bad], [] => some (Sum.inr ())
  | _, _, _ => none

noncomputable def ref04_Freep3 {R : Type} (vs : List V) (objs : List Obj) (K : Ex → List V → List Obj → Option R) : Option R := match vs, objs with
  | [V.s (S.ptr 0 0 none 0), V.s (S.sl 1 0 x0 true), V.s (S.i IntKind.i64 x1)], [Obj.cells 71 [Seg.barr 81 x2], Obj.sli 3 false (Seg.arr IntKind.i64 x3 x4)] => ob (ref04_Freel3 many x0 x1 x2 x3 x4) fun t0 => sw t0 (fun y0 => K (Ex.ret) ([V.s (S.b y0)]) ([])) (fun _ => K (Ex.exit 0) ([V.s S.bad]) ([]))
  | _, _ => none

noncomputable def ref04_Freelp : {R : Type} → Nat → List V → List Obj → (Ex → List V → List Obj → Option R) → Option R := fun q vs objs K => bif Nat.beq q 3 then ref04_Freep3 vs objs K else none

noncomputable def ref04_Freec : Ctx := mkC 24 ((ref04_Betweeno oNil)) [(3, [5, 7, 8], [6])] ref04_Freelp

theorem ref04_Freec_ok : CtxOK Tryd.prog ref04_Freec := mkC_ok ((ref04_Betweeno_ok _ oNil_ok))

noncomputable def ref04_Freel3r (f : Nat) (x0 : Nat) (x1 : Int) (x2 : List Bool) (x3 : Nat) (x4 : List Int) : Option ((Bool) ⊕ (Unit)) := lrun ref04_Freec 0 [5, 7, 8] [6] (loopOf Tryd.f109 3) f ([V.s (S.ptr 0 0 none 0), V.s (S.sl 1 0 x0 true), V.s (S.i IntKind.i64 x1)]) ([Obj.cells 71 [Seg.barr 81 x2], Obj.sli 3 false (Seg.arr IntKind.i64 x3 x4)]) ref04_Freel3d

theorem ref04_Freel3_step (f : Nat) (x0 : Nat) (x1 : Int) (x2 : List Bool) (x3 : Nat) (x4 : List Int) : ref04_Freel3r (f + 1) x0 x1 x2 x3 x4 = ref04_Freel3s (ref04_Freel3r f) x0 x1 x2 x3 x4 := by kernel_rfl

theorem ref04_Freel3_eq : ∀ f, ref04_Freel3r f = ref04_Freel3 f
  | 0 => rfl
  | f + 1 => by funext x0 x1 x2 x3 x4; rw [ref04_Freel3_step, ref04_Freel3_eq f]; rfl

theorem ref04_Frees3 : LoopSound Tryd.prog ref04_Freec 0 (loopOf Tryd.f109 3) :=
  loopSound_by mixed ref04_Freec_ok (AllP.of (l' := []) (by kernel_rfl) trivial) (q := 3) (kin := [5, 7, 8]) (kout := [6]) (by kernel_rfl) (by kernel_rfl) fun vs objs K r h => by
    replace h : ref04_Freep3 vs objs K = some r := h
    unfold ref04_Freep3 at h
    split at h
    · skip
      obtain ⟨t, h1, h2⟩ := ob_ok h
      rw [← ref04_Freel3_eq] at h1
      refine ⟨_, ref04_Freel3d, t, many, h1, fun e vs' objs' hd => ?_⟩
      unfold ref04_Freel3d at hd
      split at hd
      · skip
        cases hd
        exact h2
      · skip
        cases hd
        exact h2
      · cases hd
    · cases h

noncomputable def ref04_Freed : V → List Obj → Option (Bool) := fun v objs => match v, objs with
  | V.s (S.b y0), [] => some (y0)
  | _, _ => none

theorem ref04_Free_eq (x0 : Int) (x1 : Int) (x2 : List Bool) : fnE ref04_Freec Tryd.f109 ([V.s (S.i IntKind.i64 x0), V.s (S.i IntKind.i64 x1), V.agg [Seg.barr 81 x2]]) ([]) ref04_Freed = ref04_Free x0 x1 x2 := by kernel_rfl

noncomputable def ref04_Freea {R : Type} (o : Orc) (vs : List V) (objs : List Obj) (K : Bool → V → List Obj → Option R) : Option R := match vs, objs with
  | [V.s (S.i IntKind.i64 x0), V.s (S.i IntKind.i64 x1), V.agg [Seg.barr 81 x2]], [] => ob (ref04_Free x0 x1 x2) fun y0 => K false (V.s (S.b y0)) ([])
  | _, _ => o 109 vs objs K

noncomputable def ref04_Freeo (o : Orc) : Orc := hook 109 (ref04_Freea o) o

theorem ref04_Freeo_ok (o : Orc) (ho : OSound Tryd.prog o) : OSound Tryd.prog (ref04_Freeo o) := hook_ok ho fun vs objs K r h => by
  unfold ref04_Freea at h
  split at h
  · skip
    obtain ⟨t, h1, h2⟩ := ob_ok h
    refine anyOK_of mixed ref04_Freec_ok (fn := Tryd.f109) (b := (Tryd.f109).body.getD .skip) (by kernel_rfl) (by kernel_rfl) (by kernel_rfl) ((ref04_Free_eq _ _ _).trans h1) (m := 0) rfl (AllP.of (l' := [loopOf Tryd.f109 3]) (by kernel_rfl) ⟨ref04_Frees3, trivial⟩) fun v objs' hd => ?_
    unfold ref04_Freed at hd
    split at hd
    · skip
      cases hd
      exact h2
    · cases hd
  · exact ho _ _ _ _ _ h

noncomputable def ref04_Reachesc : Ctx := mkC 63 ((ref04_Freeo (ref02_Kindo (ref02_Sideo (ref04_Lineo (ref03_Stepo oNil)))))) [] lpNil

theorem ref04_Reachesc_ok : CtxOK Tryd.prog ref04_Reachesc := mkC_ok ((ref04_Freeo_ok _ (ref02_Kindo_ok _ (ref02_Sideo_ok _ (ref04_Lineo_ok _ (ref03_Stepo_ok _ oNil_ok))))))

noncomputable def ref04_Reachesd : V → List Obj → Option (Bool) := fun v objs => match v, objs with
  | V.s (S.b y0), [] => some (y0)
  | _, _ => none

theorem ref04_Reaches_eq (x0 : Int) (x1 : Int) (x2 : Int) (x3 : List Bool) : fnE ref04_Reachesc Tryd.f73 ([V.s (S.i IntKind.i64 x0), V.s (S.i IntKind.i64 x1), V.s (S.i IntKind.i64 x2), V.agg [Seg.barr 81 x3]]) ([]) ref04_Reachesd = ref04_Reaches x0 x1 x2 x3 := by kernel_rfl

noncomputable def ref04_Reachesa {R : Type} (o : Orc) (vs : List V) (objs : List Obj) (K : Bool → V → List Obj → Option R) : Option R := match vs, objs with
  | [V.s (S.i IntKind.i64 x0), V.s (S.i IntKind.i64 x1), V.s (S.i IntKind.i64 x2), V.agg [Seg.barr 81 x3]], [] => ob (ref04_Reaches x0 x1 x2 x3) fun y0 => K false (V.s (S.b y0)) ([])
  | _, _ => o 73 vs objs K

noncomputable def ref04_Reacheso (o : Orc) : Orc := hook 73 (ref04_Reachesa o) o

theorem ref04_Reacheso_ok (o : Orc) (ho : OSound Tryd.prog o) : OSound Tryd.prog (ref04_Reacheso o) := hook_ok ho fun vs objs K r h => by
  unfold ref04_Reachesa at h
  split at h
  · skip
    obtain ⟨t, h1, h2⟩ := ob_ok h
    refine anyOK_of mixed ref04_Reachesc_ok (fn := Tryd.f73) (b := (Tryd.f73).body.getD .skip) (by kernel_rfl) (by kernel_rfl) (by kernel_rfl) ((ref04_Reaches_eq _ _ _ _).trans h1) (m := 0) rfl (AllP.of (l' := []) (by kernel_rfl) trivial) fun v objs' hd => ?_
    unfold ref04_Reachesd at hd
    split at hd
    · skip
      cases hd
      exact h2
    · cases hd
  · exact ho _ _ _ _ _ h

noncomputable def ref08_InCheckl6d : Ex → List V → List Obj → Option ((Bool) ⊕ (Unit)) := fun e vs objs => match e, vs, objs with
  | Ex.ret, [V.s (S.b y0)], [] => some (Sum.inl (y0))
  | Ex.exit 0, [V.s S.bad], [] => some (Sum.inr ())
  | _, _, _ => none

noncomputable def ref08_InCheckp6 {R : Type} (vs : List V) (objs : List Obj) (K : Ex → List V → List Obj → Option R) : Option R := match vs, objs with
  | [V.s (S.i IntKind.i64 x0), V.s (S.ptr 0 0 none 0), V.s (S.ptr 1 0 none 0), V.s (S.i IntKind.i64 x1), V.s (S.i IntKind.i64 x2)], [Obj.cells 28 [Seg.arr IntKind.i8 81 x3, Seg.arr IntKind.i8 16 x4, Seg.one [S.i IntKind.i8 x5]], Obj.cells 71 [Seg.barr 81 x6]] => ob (ref08_InCheckl6 many x0 x1 x2 x3 x4 x5 x6) fun t0 => sw t0 (fun y0 => K (Ex.ret) ([V.s (S.b y0)]) ([])) (fun _ => K (Ex.exit 0) ([V.s S.bad]) ([]))
  | _, _ => none

noncomputable def ref08_InChecklp : {R : Type} → Nat → List V → List Obj → (Ex → List V → List Obj → Option R) → Option R := fun q vs objs K => bif Nat.beq q 6 then ref08_InCheckp6 vs objs K else none

noncomputable def ref08_InCheckc : Ctx := mkC 39 ((ref04_Reacheso (ref02_Sideo (ref08_Kingo (ref05_Takeno oNil))))) [(6, [1, 2, 5, 6, 7], [4])] ref08_InChecklp

theorem ref08_InCheckc_ok : CtxOK Tryd.prog ref08_InCheckc := mkC_ok ((ref04_Reacheso_ok _ (ref02_Sideo_ok _ (ref08_Kingo_ok _ (ref05_Takeno_ok _ oNil_ok)))))

noncomputable def ref08_InCheckl6r (f : Nat) (x0 : Int) (x1 : Int) (x2 : Int) (x3 : List Int) (x4 : List Int) (x5 : Int) (x6 : List Bool) : Option ((Bool) ⊕ (Unit)) := lrun ref08_InCheckc 0 [1, 2, 5, 6, 7] [4] (loopOf Tryd.f41 6) f ([V.s (S.i IntKind.i64 x0), V.s (S.ptr 0 0 none 0), V.s (S.ptr 1 0 none 0), V.s (S.i IntKind.i64 x1), V.s (S.i IntKind.i64 x2)]) ([Obj.cells 28 [Seg.arr IntKind.i8 81 x3, Seg.arr IntKind.i8 16 x4, Seg.one [S.i IntKind.i8 x5]], Obj.cells 71 [Seg.barr 81 x6]]) ref08_InCheckl6d

theorem ref08_InCheckl6_step (f : Nat) (x0 : Int) (x1 : Int) (x2 : Int) (x3 : List Int) (x4 : List Int) (x5 : Int) (x6 : List Bool) : ref08_InCheckl6r (f + 1) x0 x1 x2 x3 x4 x5 x6 = ref08_InCheckl6s (ref08_InCheckl6r f) x0 x1 x2 x3 x4 x5 x6 := by kernel_rfl

theorem ref08_InCheckl6_eq : ∀ f, ref08_InCheckl6r f = ref08_InCheckl6 f
  | 0 => rfl
  | f + 1 => by funext x0 x1 x2 x3 x4 x5 x6; rw [ref08_InCheckl6_step, ref08_InCheckl6_eq f]; rfl

theorem ref08_InChecks6 : LoopSound Tryd.prog ref08_InCheckc 0 (loopOf Tryd.f41 6) :=
  loopSound_by mixed ref08_InCheckc_ok (AllP.of (l' := []) (by kernel_rfl) trivial) (q := 6) (kin := [1, 2, 5, 6, 7]) (kout := [4]) (by kernel_rfl) (by kernel_rfl) fun vs objs K r h => by
    replace h : ref08_InCheckp6 vs objs K = some r := h
    unfold ref08_InCheckp6 at h
    split at h
    · skip
      obtain ⟨t, h1, h2⟩ := ob_ok h
      rw [← ref08_InCheckl6_eq] at h1
      refine ⟨_, ref08_InCheckl6d, t, many, h1, fun e vs' objs' hd => ?_⟩
      unfold ref08_InCheckl6d at hd
      split at hd
      · skip
        cases hd
        exact h2
      · skip
        cases hd
        exact h2
      · cases hd
    · cases h

noncomputable def ref08_InCheckd : V → List Obj → Option (Bool) := fun v objs => match v, objs with
  | V.s (S.b y0), [] => some (y0)
  | _, _ => none

theorem ref08_InCheck_eq (x0 : List Int) (x1 : List Int) (x2 : Int) (x3 : Int) : fnE ref08_InCheckc Tryd.f41 ([V.agg [Seg.arr IntKind.i8 81 x0, Seg.arr IntKind.i8 16 x1, Seg.one [S.i IntKind.i8 x2]], V.s (S.i IntKind.i64 x3)]) ([]) ref08_InCheckd = ref08_InCheck x0 x1 x2 x3 := by kernel_rfl

noncomputable def ref08_InChecka {R : Type} (o : Orc) (vs : List V) (objs : List Obj) (K : Bool → V → List Obj → Option R) : Option R := match vs, objs with
  | [V.agg [Seg.arr IntKind.i8 81 x0, Seg.arr IntKind.i8 16 x1, Seg.one [S.i IntKind.i8 x2]], V.s (S.i IntKind.i64 x3)], [] => ob (ref08_InCheck x0 x1 x2 x3) fun y0 => K false (V.s (S.b y0)) ([])
  | _, _ => o 41 vs objs K

noncomputable def ref08_InChecko (o : Orc) : Orc := hook 41 (ref08_InChecka o) o

theorem ref08_InChecko_ok (o : Orc) (ho : OSound Tryd.prog o) : OSound Tryd.prog (ref08_InChecko o) := hook_ok ho fun vs objs K r h => by
  unfold ref08_InChecka at h
  split at h
  · skip
    obtain ⟨t, h1, h2⟩ := ob_ok h
    refine anyOK_of mixed ref08_InCheckc_ok (fn := Tryd.f41) (b := (Tryd.f41).body.getD .skip) (by kernel_rfl) (by kernel_rfl) (by kernel_rfl) ((ref08_InCheck_eq _ _ _ _).trans h1) (m := 0) rfl (AllP.of (l' := [loopOf Tryd.f41 6]) (by kernel_rfl) ⟨ref08_InChecks6, trivial⟩) fun v objs' hd => ?_
    unfold ref08_InCheckd at hd
    split at hd
    · skip
      cases hd
      exact h2
    · cases hd
  · exact ho _ _ _ _ _ h

noncomputable def ref08_Checkc : Ctx := mkC 15 ((ref08_InChecko (ref05_Checko oNil))) [] lpNil

theorem ref08_Checkc_ok : CtxOK Tryd.prog ref08_Checkc := mkC_ok ((ref08_InChecko_ok _ (ref05_Checko_ok _ oNil_ok)))

noncomputable def ref08_Checkd : V → List Obj → Option (Int) := fun v objs => match v, objs with
  | V.s (S.i IntKind.i64 y0), [] => some (y0)
  | _, _ => none

theorem ref08_Check_eq (x0 : List Int) (x1 : List Int) (x2 : Int) : fnE ref08_Checkc Tryd.f39 ([V.agg [Seg.arr IntKind.i8 81 x0, Seg.arr IntKind.i8 16 x1, Seg.one [S.i IntKind.i8 x2]]]) ([]) ref08_Checkd = ref08_Check x0 x1 x2 := by kernel_rfl

noncomputable def ref08_Checka {R : Type} (o : Orc) (vs : List V) (objs : List Obj) (K : Bool → V → List Obj → Option R) : Option R := match vs, objs with
  | [V.agg [Seg.arr IntKind.i8 81 x0, Seg.arr IntKind.i8 16 x1, Seg.one [S.i IntKind.i8 x2]]], [] => ob (ref08_Check x0 x1 x2) fun y0 => K false (V.s (S.i IntKind.i64 y0)) ([])
  | _, _ => o 39 vs objs K

noncomputable def ref08_Checko (o : Orc) : Orc := hook 39 (ref08_Checka o) o

theorem ref08_Checko_ok (o : Orc) (ho : OSound Tryd.prog o) : OSound Tryd.prog (ref08_Checko o) := hook_ok ho fun vs objs K r h => by
  unfold ref08_Checka at h
  split at h
  · skip
    obtain ⟨t, h1, h2⟩ := ob_ok h
    refine anyOK_of mixed ref08_Checkc_ok (fn := Tryd.f39) (b := (Tryd.f39).body.getD .skip) (by kernel_rfl) (by kernel_rfl) (by kernel_rfl) ((ref08_Check_eq _ _ _).trans h1) (m := 0) rfl (AllP.of (l' := []) (by kernel_rfl) trivial) fun v objs' hd => ?_
    unfold ref08_Checkd at hd
    split at hd
    · skip
      cases hd
      exact h2
    · cases hd
  · exact ho _ _ _ _ _ h

noncomputable def law08_cleanl2d : Ex → List V → List Obj → Option (List Int × List Int × Int × List Int × List Int × Int) := fun e vs objs => match e, vs, objs with
  | Ex.exit 0, [V.s (S.ptr 0 0 none 0), V.s (S.ptr 1 0 none 0)], [Obj.cells 28 [Seg.arr IntKind.i8 81 y0, Seg.arr IntKind.i8 16 y1, Seg.one [S.i IntKind.i8 y2]], Obj.cells 28 [Seg.arr IntKind.i8 81 y3, Seg.arr IntKind.i8 16 y4, Seg.one [S.i IntKind.i8 y5]]] => some (y0, y1, y2, y3, y4, y5)
  | _, _, _ => none

noncomputable def law08_cleanp2 {R : Type} (vs : List V) (objs : List Obj) (K : Ex → List V → List Obj → Option R) : Option R := match vs, objs with
  | [V.s (S.ptr 0 0 none 0), V.s (S.ptr 1 0 none 0), V.s (S.i IntKind.i64 x0)], [Obj.cells 28 [Seg.arr IntKind.i8 81 x1, Seg.arr IntKind.i8 16 x2, Seg.one [S.i IntKind.i8 x3]], Obj.cells 28 [Seg.arr IntKind.i8 81 x4, Seg.arr IntKind.i8 16 x5, Seg.one [S.i IntKind.i8 x6]]] => ob (law08_cleanl2 many x0 x1 x2 x3 x4 x5 x6) fun z => K (Ex.exit 0) ([V.s (S.ptr 0 0 none 0), V.s (S.ptr 1 0 none 0)]) ([Obj.cells 28 [Seg.arr IntKind.i8 81 (z.1), Seg.arr IntKind.i8 16 (z.2.1), Seg.one [S.i IntKind.i8 (z.2.2.1)]], Obj.cells 28 [Seg.arr IntKind.i8 81 (z.2.2.2.1), Seg.arr IntKind.i8 16 (z.2.2.2.2.1), Seg.one [S.i IntKind.i8 (z.2.2.2.2.2)]]])
  | _, _ => none

noncomputable def law08_cleanlp : {R : Type} → Nat → List V → List Obj → (Ex → List V → List Obj → Option R) → Option R := fun q vs objs K => bif Nat.beq q 2 then law08_cleanp2 vs objs K else none

noncomputable def law08_cleanc : Ctx := mkC 19 ((ref02_Kindo oNil)) [(2, [1, 2, 4], [1, 2])] law08_cleanlp

theorem law08_cleanc_ok : CtxOK Tryd.prog law08_cleanc := mkC_ok ((ref02_Kindo_ok _ oNil_ok))

noncomputable def law08_cleanl2r (f : Nat) (x0 : Int) (x1 : List Int) (x2 : List Int) (x3 : Int) (x4 : List Int) (x5 : List Int) (x6 : Int) : Option (List Int × List Int × Int × List Int × List Int × Int) := lrun law08_cleanc 0 [1, 2, 4] [1, 2] (loopOf Tryd.f40 2) f ([V.s (S.ptr 0 0 none 0), V.s (S.ptr 1 0 none 0), V.s (S.i IntKind.i64 x0)]) ([Obj.cells 28 [Seg.arr IntKind.i8 81 x1, Seg.arr IntKind.i8 16 x2, Seg.one [S.i IntKind.i8 x3]], Obj.cells 28 [Seg.arr IntKind.i8 81 x4, Seg.arr IntKind.i8 16 x5, Seg.one [S.i IntKind.i8 x6]]]) law08_cleanl2d

theorem law08_cleanl2_step (f : Nat) (x0 : Int) (x1 : List Int) (x2 : List Int) (x3 : Int) (x4 : List Int) (x5 : List Int) (x6 : Int) : law08_cleanl2r (f + 1) x0 x1 x2 x3 x4 x5 x6 = law08_cleanl2s (law08_cleanl2r f) x0 x1 x2 x3 x4 x5 x6 := by kernel_rfl

theorem law08_cleanl2_eq : ∀ f, law08_cleanl2r f = law08_cleanl2 f
  | 0 => rfl
  | f + 1 => by funext x0 x1 x2 x3 x4 x5 x6; rw [law08_cleanl2_step, law08_cleanl2_eq f]; rfl

theorem law08_cleans2 : LoopSound Tryd.prog law08_cleanc 0 (loopOf Tryd.f40 2) :=
  loopSound_by mixed law08_cleanc_ok (AllP.of (l' := []) (by kernel_rfl) trivial) (q := 2) (kin := [1, 2, 4]) (kout := [1, 2]) (by kernel_rfl) (by kernel_rfl) fun vs objs K r h => by
    replace h : law08_cleanp2 vs objs K = some r := h
    unfold law08_cleanp2 at h
    split at h
    · skip
      obtain ⟨t, h1, h2⟩ := ob_ok h
      rw [← law08_cleanl2_eq] at h1
      refine ⟨_, law08_cleanl2d, t, many, h1, fun e vs' objs' hd => ?_⟩
      unfold law08_cleanl2d at hd
      split at hd
      · skip
        cases hd
        exact h2
      · cases hd
    · cases h

noncomputable def law08_cleand : V → List Obj → Option (List Int × List Int × Int) := fun v objs => match v, objs with
  | V.agg [Seg.arr IntKind.i8 81 y0, Seg.arr IntKind.i8 16 y1, Seg.one [S.i IntKind.i8 y2]], [] => some (y0, y1, y2)
  | _, _ => none

theorem law08_clean_eq (x0 : List Int) (x1 : List Int) (x2 : Int) : fnE law08_cleanc Tryd.f40 ([V.agg [Seg.arr IntKind.i8 81 x0, Seg.arr IntKind.i8 16 x1, Seg.one [S.i IntKind.i8 x2]]]) ([]) law08_cleand = law08_clean x0 x1 x2 := by kernel_rfl

noncomputable def law08_cleana {R : Type} (o : Orc) (vs : List V) (objs : List Obj) (K : Bool → V → List Obj → Option R) : Option R := match vs, objs with
  | [V.agg [Seg.arr IntKind.i8 81 x0, Seg.arr IntKind.i8 16 x1, Seg.one [S.i IntKind.i8 x2]]], [] => ob (law08_clean x0 x1 x2) fun z => K false (V.agg [Seg.arr IntKind.i8 81 (z.1), Seg.arr IntKind.i8 16 (z.2.1), Seg.one [S.i IntKind.i8 (z.2.2)]]) ([])
  | _, _ => o 40 vs objs K

noncomputable def law08_cleano (o : Orc) : Orc := hook 40 (law08_cleana o) o

theorem law08_cleano_ok (o : Orc) (ho : OSound Tryd.prog o) : OSound Tryd.prog (law08_cleano o) := hook_ok ho fun vs objs K r h => by
  unfold law08_cleana at h
  split at h
  · skip
    obtain ⟨t, h1, h2⟩ := ob_ok h
    refine anyOK_of mixed law08_cleanc_ok (fn := Tryd.f40) (b := (Tryd.f40).body.getD .skip) (by kernel_rfl) (by kernel_rfl) (by kernel_rfl) ((law08_clean_eq _ _ _).trans h1) (m := 0) rfl (AllP.of (l' := [loopOf Tryd.f40 2]) (by kernel_rfl) ⟨law08_cleans2, trivial⟩) fun v objs' hd => ?_
    unfold law08_cleand at hd
    split at hd
    · skip
      cases hd
      exact h2
    · cases hd
  · exact ho _ _ _ _ _ h

noncomputable def ref08_Onl5d : Ex → List V → List Obj → Option (Nat × Nat × List Int) := fun e vs objs => match e, vs, objs with
  | Ex.exit 0, [V.s (S.sl 0 0 y0 true)], [Obj.sli 3 false (Seg.arr IntKind.i64 y1 y2)] => some (y0, y1, y2)
  | _, _, _ => none

noncomputable def ref08_Onp5 {R : Type} (vs : List V) (objs : List Obj) (K : Ex → List V → List Obj → Option R) : Option R := match vs, objs with
  | [V.s (S.i IntKind.i64 x0), V.s (S.i IntKind.i64 x1), V.s (S.ptr 0 0 none 0), V.s (S.ptr 1 0 none 0), V.s (S.sl 2 0 x2 true), V.s (S.i IntKind.i64 x3)], [Obj.cells 28 [Seg.arr IntKind.i8 81 x4, Seg.arr IntKind.i8 16 x5, Seg.one [S.i IntKind.i8 x6]], Obj.cells 71 [Seg.barr 81 x7], Obj.sli 3 false (Seg.arr IntKind.i64 x8 x9)] => ob (ref08_Onl5 many x0 x1 x2 x3 x4 x5 x6 x7 x8 x9) fun z => K (Ex.exit 0) ([V.s (S.sl 0 0 (z.1) true)]) ([Obj.sli 3 false (Seg.arr IntKind.i64 (z.2.1) (z.2.2))])
  | _, _ => none

noncomputable def ref08_Onlp : {R : Type} → Nat → List V → List Obj → (Ex → List V → List Obj → Option R) → Option R := fun q vs objs K => bif Nat.beq q 5 then ref08_Onp5 vs objs K else none

noncomputable def ref08_Onc : Ctx := mkC 46 ((ref04_Reacheso (ref02_Sideo oNil))) [(5, [1, 2, 4, 7, 9, 10], [9])] ref08_Onlp

theorem ref08_Onc_ok : CtxOK Tryd.prog ref08_Onc := mkC_ok ((ref04_Reacheso_ok _ (ref02_Sideo_ok _ oNil_ok)))

noncomputable def ref08_Onl5r (f : Nat) (x0 : Int) (x1 : Int) (x2 : Nat) (x3 : Int) (x4 : List Int) (x5 : List Int) (x6 : Int) (x7 : List Bool) (x8 : Nat) (x9 : List Int) : Option (Nat × Nat × List Int) := lrun ref08_Onc 0 [1, 2, 4, 7, 9, 10] [9] (loopOf Tryd.f44 5) f ([V.s (S.i IntKind.i64 x0), V.s (S.i IntKind.i64 x1), V.s (S.ptr 0 0 none 0), V.s (S.ptr 1 0 none 0), V.s (S.sl 2 0 x2 true), V.s (S.i IntKind.i64 x3)]) ([Obj.cells 28 [Seg.arr IntKind.i8 81 x4, Seg.arr IntKind.i8 16 x5, Seg.one [S.i IntKind.i8 x6]], Obj.cells 71 [Seg.barr 81 x7], Obj.sli 3 false (Seg.arr IntKind.i64 x8 x9)]) ref08_Onl5d

theorem ref08_Onl5_step (f : Nat) (x0 : Int) (x1 : Int) (x2 : Nat) (x3 : Int) (x4 : List Int) (x5 : List Int) (x6 : Int) (x7 : List Bool) (x8 : Nat) (x9 : List Int) : ref08_Onl5r (f + 1) x0 x1 x2 x3 x4 x5 x6 x7 x8 x9 = ref08_Onl5s (ref08_Onl5r f) x0 x1 x2 x3 x4 x5 x6 x7 x8 x9 := by kernel_rfl

theorem ref08_Onl5_eq : ∀ f, ref08_Onl5r f = ref08_Onl5 f
  | 0 => rfl
  | f + 1 => by funext x0 x1 x2 x3 x4 x5 x6 x7 x8 x9; rw [ref08_Onl5_step, ref08_Onl5_eq f]; rfl

theorem ref08_Ons5 : LoopSound Tryd.prog ref08_Onc 0 (loopOf Tryd.f44 5) :=
  loopSound_by mixed ref08_Onc_ok (AllP.of (l' := []) (by kernel_rfl) trivial) (q := 5) (kin := [1, 2, 4, 7, 9, 10]) (kout := [9]) (by kernel_rfl) (by kernel_rfl) fun vs objs K r h => by
    replace h : ref08_Onp5 vs objs K = some r := h
    unfold ref08_Onp5 at h
    split at h
    · skip
      obtain ⟨t, h1, h2⟩ := ob_ok h
      rw [← ref08_Onl5_eq] at h1
      refine ⟨_, ref08_Onl5d, t, many, h1, fun e vs' objs' hd => ?_⟩
      unfold ref08_Onl5d at hd
      split at hd
      · skip
        cases hd
        exact h2
      · cases hd
    · cases h

noncomputable def ref08_Ond : V → List Obj → Option (Nat × Nat × List Int) := fun v objs => match v, objs with
  | V.s (S.sl 0 0 y0 true), [Obj.sli 3 false (Seg.arr IntKind.i64 y1 y2)] => some (y0, y1, y2)
  | _, _ => none

theorem ref08_On_eq (x0 : List Int) (x1 : List Int) (x2 : Int) (x3 : Int) (x4 : Int) (x5 : List Bool) : fnE ref08_Onc Tryd.f44 ([V.agg [Seg.arr IntKind.i8 81 x0, Seg.arr IntKind.i8 16 x1, Seg.one [S.i IntKind.i8 x2]], V.s (S.i IntKind.i64 x3), V.s (S.i IntKind.i64 x4), V.agg [Seg.barr 81 x5]]) ([]) ref08_Ond = ref08_On x0 x1 x2 x3 x4 x5 := by kernel_rfl

noncomputable def ref08_Ona {R : Type} (o : Orc) (vs : List V) (objs : List Obj) (K : Bool → V → List Obj → Option R) : Option R := match vs, objs with
  | [V.agg [Seg.arr IntKind.i8 81 x0, Seg.arr IntKind.i8 16 x1, Seg.one [S.i IntKind.i8 x2]], V.s (S.i IntKind.i64 x3), V.s (S.i IntKind.i64 x4), V.agg [Seg.barr 81 x5]], [] => ob (ref08_On x0 x1 x2 x3 x4 x5) fun z => K false (V.s (S.sl 0 0 (z.1) true)) ([Obj.sli 3 false (Seg.arr IntKind.i64 (z.2.1) (z.2.2))])
  | _, _ => o 44 vs objs K

noncomputable def ref08_Ono (o : Orc) : Orc := hook 44 (ref08_Ona o) o

theorem ref08_Ono_ok (o : Orc) (ho : OSound Tryd.prog o) : OSound Tryd.prog (ref08_Ono o) := hook_ok ho fun vs objs K r h => by
  unfold ref08_Ona at h
  split at h
  · skip
    obtain ⟨t, h1, h2⟩ := ob_ok h
    refine anyOK_of mixed ref08_Onc_ok (fn := Tryd.f44) (b := (Tryd.f44).body.getD .skip) (by kernel_rfl) (by kernel_rfl) (by kernel_rfl) ((ref08_On_eq _ _ _ _ _ _).trans h1) (m := 0) rfl (AllP.of (l' := [loopOf Tryd.f44 5]) (by kernel_rfl) ⟨ref08_Ons5, trivial⟩) fun v objs' hd => ?_
    unfold ref08_Ond at hd
    split at hd
    · skip
      cases hd
      exact h2
    · cases hd
  · exact ho _ _ _ _ _ h

noncomputable def law08_AttackChecksl8d : Ex → List V → List Obj → Option ((Bool) ⊕ (Unit)) := fun e vs objs => match e, vs, objs with
  | Ex.ret, [V.s (S.b y0)], [] => some (Sum.inl (y0))
  | Ex.exit 0, [V.s S.bad], [] => some (Sum.inr ())
  | _, _, _ => none

noncomputable def law08_AttackChecksp8 {R : Type} (vs : List V) (objs : List Obj) (K : Ex → List V → List Obj → Option R) : Option R := match vs, objs with
  | [V.s (S.ptr 0 0 none 0), V.s (S.ptr 1 0 none 0), V.s (S.i IntKind.i64 x0)], [Obj.cells 28 [Seg.arr IntKind.i8 81 x1, Seg.arr IntKind.i8 16 x2, Seg.one [S.i IntKind.i8 x3]], Obj.cells 81 [Seg.arr IntKind.i8 81 x4, Seg.arr IntKind.i8 16 x5, Seg.one [S.i IntKind.i8 x6], Seg.rows [.i .u64, .i .u64] 32 x7, Seg.rows [.i .u64, .i .u64] 2 x8]] => ob (law08_AttackChecksl8 many x0 x1 x2 x3 x4 x5 x6 x7 x8) fun t0 => sw t0 (fun y0 => K (Ex.ret) ([V.s (S.b y0)]) ([])) (fun _ => K (Ex.exit 0) ([V.s S.bad]) ([]))
  | _, _ => none

noncomputable def law08_AttackCheckslp : {R : Type} → Nat → List V → List Obj → (Ex → List V → List Obj → Option R) → Option R := fun q vs objs K => bif Nat.beq q 8 then law08_AttackChecksp8 vs objs K else none

noncomputable def law08_AttackChecksc : Ctx := mkC 43 ((set_Ofo (ref08_Ono (ref05_Takeno (ref08_Kingo (attack_Checkerso (ref08_InChecko (attack_InChecko (board_Newo (law08_cleano (ref08_Checko (attack_Checko (law08_attackso oNil))))))))))))) [(8, [1, 3, 4], [2])] law08_AttackCheckslp

theorem law08_AttackChecksc_ok : CtxOK Tryd.prog law08_AttackChecksc := mkC_ok ((set_Ofo_ok _ (ref08_Ono_ok _ (ref05_Takeno_ok _ (ref08_Kingo_ok _ (attack_Checkerso_ok _ (ref08_InChecko_ok _ (attack_InChecko_ok _ (board_Newo_ok _ (law08_cleano_ok _ (ref08_Checko_ok _ (attack_Checko_ok _ (law08_attackso_ok _ oNil_ok)))))))))))))

noncomputable def law08_AttackChecksl8r (f : Nat) (x0 : Int) (x1 : List Int) (x2 : List Int) (x3 : Int) (x4 : List Int) (x5 : List Int) (x6 : Int) (x7 : List (List Int)) (x8 : List (List Int)) : Option ((Bool) ⊕ (Unit)) := lrun law08_AttackChecksc 0 [1, 3, 4] [2] (loopOf Tryd.f9 8) f ([V.s (S.ptr 0 0 none 0), V.s (S.ptr 1 0 none 0), V.s (S.i IntKind.i64 x0)]) ([Obj.cells 28 [Seg.arr IntKind.i8 81 x1, Seg.arr IntKind.i8 16 x2, Seg.one [S.i IntKind.i8 x3]], Obj.cells 81 [Seg.arr IntKind.i8 81 x4, Seg.arr IntKind.i8 16 x5, Seg.one [S.i IntKind.i8 x6], Seg.rows [.i .u64, .i .u64] 32 x7, Seg.rows [.i .u64, .i .u64] 2 x8]]) law08_AttackChecksl8d

theorem law08_AttackChecksl8_step (f : Nat) (x0 : Int) (x1 : List Int) (x2 : List Int) (x3 : Int) (x4 : List Int) (x5 : List Int) (x6 : Int) (x7 : List (List Int)) (x8 : List (List Int)) : law08_AttackChecksl8r (f + 1) x0 x1 x2 x3 x4 x5 x6 x7 x8 = law08_AttackChecksl8s (law08_AttackChecksl8r f) x0 x1 x2 x3 x4 x5 x6 x7 x8 := by kernel_rfl

theorem law08_AttackChecksl8_eq : ∀ f, law08_AttackChecksl8r f = law08_AttackChecksl8 f
  | 0 => rfl
  | f + 1 => by funext x0 x1 x2 x3 x4 x5 x6 x7 x8; rw [law08_AttackChecksl8_step, law08_AttackChecksl8_eq f]; rfl

theorem law08_AttackCheckss8 : LoopSound Tryd.prog law08_AttackChecksc 0 (loopOf Tryd.f9 8) :=
  loopSound_by mixed law08_AttackChecksc_ok (AllP.of (l' := []) (by kernel_rfl) trivial) (q := 8) (kin := [1, 3, 4]) (kout := [2]) (by kernel_rfl) (by kernel_rfl) fun vs objs K r h => by
    replace h : law08_AttackChecksp8 vs objs K = some r := h
    unfold law08_AttackChecksp8 at h
    split at h
    · skip
      obtain ⟨t, h1, h2⟩ := ob_ok h
      rw [← law08_AttackChecksl8_eq] at h1
      refine ⟨_, law08_AttackChecksl8d, t, many, h1, fun e vs' objs' hd => ?_⟩
      unfold law08_AttackChecksl8d at hd
      split at hd
      · skip
        cases hd
        exact h2
      · skip
        cases hd
        exact h2
      · cases hd
    · cases h

noncomputable def law08_AttackChecksd : V → List Obj → Option (Bool) := fun v objs => match v, objs with
  | V.s (S.b y0), [] => some (y0)
  | _, _ => none

theorem law08_AttackChecks_eq (x0 : List Int) (x1 : List Int) (x2 : Int) : fnE law08_AttackChecksc Tryd.f9 ([V.agg [Seg.arr IntKind.i8 81 x0, Seg.arr IntKind.i8 16 x1, Seg.one [S.i IntKind.i8 x2]]]) ([]) law08_AttackChecksd = law08_AttackChecks x0 x1 x2 := by kernel_rfl

noncomputable def law08_AttackChecksa {R : Type} (o : Orc) (vs : List V) (objs : List Obj) (K : Bool → V → List Obj → Option R) : Option R := match vs, objs with
  | [V.agg [Seg.arr IntKind.i8 81 x0, Seg.arr IntKind.i8 16 x1, Seg.one [S.i IntKind.i8 x2]]], [] => ob (law08_AttackChecks x0 x1 x2) fun y0 => K false (V.s (S.b y0)) ([])
  | _, _ => o 9 vs objs K

noncomputable def law08_AttackCheckso (o : Orc) : Orc := hook 9 (law08_AttackChecksa o) o

theorem law08_AttackChecks_ok {vs : List V} {objs : List Obj} (x0 : List Int) (x1 : List Int) (x2 : Int) {R : Type} {K : Bool → V → List Obj → Option R} {r : R} (hv : vs = [V.agg [Seg.arr IntKind.i8 81 x0, Seg.arr IntKind.i8 16 x1, Seg.one [S.i IntKind.i8 x2]]]) (ho : objs = []) (h : ob (law08_AttackChecks x0 x1 x2) (fun y0 => K false (V.s (S.b y0)) ([])) = some r) :
    ∃ p v objs', K p v objs' = some r ∧ AnyOK Tryd.prog 9 vs objs p v objs' := by
  subst hv
  subst ho
  obtain ⟨t, h1, h2⟩ := ob_ok h
  refine anyOK_of mixed law08_AttackChecksc_ok (fn := Tryd.f9) (b := (Tryd.f9).body.getD .skip) (by kernel_rfl) (by kernel_rfl) (by kernel_rfl) ((law08_AttackChecks_eq _ _ _).trans h1) (m := 0) rfl (AllP.of (l' := [loopOf Tryd.f9 8]) (by kernel_rfl) ⟨law08_AttackCheckss8, trivial⟩) fun v objs' hd => ?_
  unfold law08_AttackChecksd at hd
  split at hd
  · skip
    cases hd
    exact h2
  · cases hd

theorem law08_AttackCheckso_ok (o : Orc) (ho : OSound Tryd.prog o) : OSound Tryd.prog (law08_AttackCheckso o) := hook_ok ho fun vs objs K r h => by
  unfold law08_AttackChecksa at h
  split at h
  · skip
    obtain ⟨t, h1, h2⟩ := ob_ok h
    refine anyOK_of mixed law08_AttackChecksc_ok (fn := Tryd.f9) (b := (Tryd.f9).body.getD .skip) (by kernel_rfl) (by kernel_rfl) (by kernel_rfl) ((law08_AttackChecks_eq _ _ _).trans h1) (m := 0) rfl (AllP.of (l' := [loopOf Tryd.f9 8]) (by kernel_rfl) ⟨law08_AttackCheckss8, trivial⟩) fun v objs' hd => ?_
    unfold law08_AttackChecksd at hd
    split at hd
    · skip
      cases hd
      exact h2
    · cases hd
  · exact ho _ _ _ _ _ h


end Go.Kk.KkGA
