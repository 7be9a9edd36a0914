/- Printed by a tool of this project (KkGen): the program's functions come to the plain ones. -/
import Derived.Test.YtaoifdkheaagpaaDoorKkGA
namespace Go.Kk.KkGA
open Go.Proofs Go.Kk.Pl
set_option maxRecDepth 100000
set_option maxHeartbeats 4000000

noncomputable def set_InFilel3d : Ex → List V → List Obj → Option (Int × Int × Int × Int) := fun e vs objs => match e, vs, objs with
  | Ex.exit 0, [V.s (S.ptr 0 0 none 0), V.s (S.ptr 1 0 none 0)], [Obj.cells 57 [Seg.one [S.i IntKind.u64 y0, S.i IntKind.u64 y1]], Obj.cells 57 [Seg.one [S.i IntKind.u64 y2, S.i IntKind.u64 y3]]] => some (y0, y1, y2, y3)
  | _, _, _ => none

noncomputable def set_InFilep3 {R : Type} (vs : List V) (objs : List Obj) (K : Ex → List V → List Obj → Option R) : Option R := match vs, objs with
  | [V.s (S.i IntKind.i64 x0), V.s (S.ptr 0 0 none 0), V.s (S.ptr 1 0 none 0), V.s (S.i IntKind.i64 x1)], [Obj.cells 57 [Seg.one [S.i IntKind.u64 x2, S.i IntKind.u64 x3]], Obj.cells 57 [Seg.one [S.i IntKind.u64 x4, S.i IntKind.u64 x5]]] => ob (set_InFilel3 many x0 x1 x2 x3 x4 x5) fun z => K (Ex.exit 0) ([V.s (S.ptr 0 0 none 0), V.s (S.ptr 1 0 none 0)]) ([Obj.cells 57 [Seg.one [S.i IntKind.u64 (z.1), S.i IntKind.u64 (z.2.1)]], Obj.cells 57 [Seg.one [S.i IntKind.u64 (z.2.2.1), S.i IntKind.u64 (z.2.2.2)]]])
  | _, _ => none

noncomputable def set_InFilelp : {R : Type} → Nat → List V → List Obj → (Ex → List V → List Obj → Option R) → Option R := fun q vs objs K => bif Nat.beq q 3 then set_InFilep3 vs objs K else none

noncomputable def set_InFilec : Ctx := mkC 15 ((set_Witho (set_Squareo oNil))) [(3, [0, 2, 3, 5], [2, 3])] set_InFilelp

theorem set_InFilec_ok : CtxOK Tryd.prog set_InFilec := mkC_ok ((set_Witho_ok _ (set_Squareo_ok _ oNil_ok)))

noncomputable def set_InFilel3r (f : Nat) (x0 : Int) (x1 : Int) (x2 : Int) (x3 : Int) (x4 : Int) (x5 : Int) : Option (Int × Int × Int × Int) := lrun set_InFilec 0 [0, 2, 3, 5] [2, 3] (loopOf Tryd.f84 3) f ([V.s (S.i IntKind.i64 x0), V.s (S.ptr 0 0 none 0), V.s (S.ptr 1 0 none 0), V.s (S.i IntKind.i64 x1)]) ([Obj.cells 57 [Seg.one [S.i IntKind.u64 x2, S.i IntKind.u64 x3]], Obj.cells 57 [Seg.one [S.i IntKind.u64 x4, S.i IntKind.u64 x5]]]) set_InFilel3d

theorem set_InFilel3_step (f : Nat) (x0 : Int) (x1 : Int) (x2 : Int) (x3 : Int) (x4 : Int) (x5 : Int) : set_InFilel3r (f + 1) x0 x1 x2 x3 x4 x5 = set_InFilel3s (set_InFilel3r f) x0 x1 x2 x3 x4 x5 := by kernel_rfl

theorem set_InFilel3_eq : ∀ f, set_InFilel3r f = set_InFilel3 f
  | 0 => rfl
  | f + 1 => by funext x0 x1 x2 x3 x4 x5; rw [set_InFilel3_step, set_InFilel3_eq f]; rfl

theorem set_InFiles3 : LoopSound Tryd.prog set_InFilec 0 (loopOf Tryd.f84 3) :=
  loopSound_by mixed set_InFilec_ok (AllP.of (l' := []) (by kernel_rfl) trivial) (q := 3) (kin := [0, 2, 3, 5]) (kout := [2, 3]) (by kernel_rfl) (by kernel_rfl) fun vs objs K r h => by
    replace h : set_InFilep3 vs objs K = some r := h
    unfold set_InFilep3 at h
    split at h
    · skip
      obtain ⟨t, h1, h2⟩ := ob_ok h
      rw [← set_InFilel3_eq] at h1
      refine ⟨_, set_InFilel3d, t, many, h1, fun e vs' objs' hd => ?_⟩
      unfold set_InFilel3d at hd
      split at hd
      · skip
        cases hd
        exact h2
      · cases hd
    · cases h

noncomputable def set_InFiled : V → List Obj → Option (Int × Int) := fun v objs => match v, objs with
  | V.agg [Seg.one [S.i IntKind.u64 y0, S.i IntKind.u64 y1]], [] => some (y0, y1)
  | _, _ => none

theorem set_InFile_eq (x0 : Int) : fnE set_InFilec Tryd.f84 ([V.s (S.i IntKind.i64 x0)]) ([]) set_InFiled = set_InFile x0 := by kernel_rfl

noncomputable def set_InFilea {R : Type} (o : Orc) (vs : List V) (objs : List Obj) (K : Bool → V → List Obj → Option R) : Option R := match vs, objs with
  | [V.s (S.i IntKind.i64 x0)], [] => ob (set_InFile x0) fun z => K false (V.agg [Seg.one [S.i IntKind.u64 (z.1), S.i IntKind.u64 (z.2)]]) ([])
  | _, _ => o 84 vs objs K

noncomputable def set_InFileo (o : Orc) : Orc := hook 84 (set_InFilea o) o

theorem set_InFileo_ok (o : Orc) (ho : OSound Tryd.prog o) : OSound Tryd.prog (set_InFileo o) := hook_ok ho fun vs objs K r h => by
  unfold set_InFilea at h
  split at h
  · skip
    obtain ⟨t, h1, h2⟩ := ob_ok h
    refine anyOK_of mixed set_InFilec_ok (fn := Tryd.f84) (b := (Tryd.f84).body.getD .skip) (by kernel_rfl) (by kernel_rfl) (by kernel_rfl) ((set_InFile_eq _).trans h1) (m := 0) rfl (AllP.of (l' := [loopOf Tryd.f84 3]) (by kernel_rfl) ⟨set_InFiles3, trivial⟩) fun v objs' hd => ?_
    unfold set_InFiled at hd
    split at hd
    · skip
      cases hd
      exact h2
    · cases hd
  · exact ho _ _ _ _ _ h

noncomputable def ref02_Kindc : Ctx := mkC 23 (oNil) [] lpNil

theorem ref02_Kindc_ok : CtxOK Tryd.prog ref02_Kindc := mkC_ok (oNil_ok)

noncomputable def ref02_Kindd : V → List Obj → Option (Int) := fun v objs => match v, objs with
  | V.s (S.i IntKind.i64 y0), [] => some (y0)
  | _, _ => none

theorem ref02_Kind_eq (x0 : Int) : fnE ref02_Kindc Tryd.f67 ([V.s (S.i IntKind.i64 x0)]) ([]) ref02_Kindd = ref02_Kind x0 := by kernel_rfl

noncomputable def ref02_Kinda {R : Type} (o : Orc) (vs : List V) (objs : List Obj) (K : Bool → V → List Obj → Option R) : Option R := match vs, objs with
  | [V.s (S.i IntKind.i64 x0)], [] => ob (ref02_Kind x0) fun y0 => K false (V.s (S.i IntKind.i64 y0)) ([])
  | _, _ => o 67 vs objs K

noncomputable def ref02_Kindo (o : Orc) : Orc := hook 67 (ref02_Kinda o) o

theorem ref02_Kindo_ok (o : Orc) (ho : OSound Tryd.prog o) : OSound Tryd.prog (ref02_Kindo o) := hook_ok ho fun vs objs K r h => by
  unfold ref02_Kinda at h
  split at h
  · skip
    obtain ⟨t, h1, h2⟩ := ob_ok h
    refine anyOK_of mixed ref02_Kindc_ok (fn := Tryd.f67) (b := (Tryd.f67).body.getD .skip) (by kernel_rfl) (by kernel_rfl) (by kernel_rfl) ((ref02_Kind_eq _).trans h1) (m := 0) rfl (AllP.of (l' := []) (by kernel_rfl) trivial) fun v objs' hd => ?_
    unfold ref02_Kindd at hd
    split at hd
    · skip
      cases hd
      exact h2
    · cases hd
  · exact ho _ _ _ _ _ h

noncomputable def ref02_Sidec : Ctx := mkC 8 ((ref02_Kindo oNil)) [] lpNil

theorem ref02_Sidec_ok : CtxOK Tryd.prog ref02_Sidec := mkC_ok ((ref02_Kindo_ok _ oNil_ok))

noncomputable def ref02_Sided : V → List Obj → Option (Int) := fun v objs => match v, objs with
  | V.s (S.i IntKind.i64 y0), [] => some (y0)
  | _, _ => none

theorem ref02_Side_eq (x0 : Int) : fnE ref02_Sidec Tryd.f34 ([V.s (S.i IntKind.i64 x0)]) ([]) ref02_Sided = ref02_Side x0 := by kernel_rfl

noncomputable def ref02_Sidea {R : Type} (o : Orc) (vs : List V) (objs : List Obj) (K : Bool → V → List Obj → Option R) : Option R := match vs, objs with
  | [V.s (S.i IntKind.i64 x0)], [] => ob (ref02_Side x0) fun y0 => K false (V.s (S.i IntKind.i64 y0)) ([])
  | _, _ => o 34 vs objs K

noncomputable def ref02_Sideo (o : Orc) : Orc := hook 34 (ref02_Sidea o) o

theorem ref02_Sideo_ok (o : Orc) (ho : OSound Tryd.prog o) : OSound Tryd.prog (ref02_Sideo o) := hook_ok ho fun vs objs K r h => by
  unfold ref02_Sidea at h
  split at h
  · skip
    obtain ⟨t, h1, h2⟩ := ob_ok h
    refine anyOK_of mixed ref02_Sidec_ok (fn := Tryd.f34) (b := (Tryd.f34).body.getD .skip) (by kernel_rfl) (by kernel_rfl) (by kernel_rfl) ((ref02_Side_eq _).trans h1) (m := 0) rfl (AllP.of (l' := []) (by kernel_rfl) trivial) fun v objs' hd => ?_
    unfold ref02_Sided at hd
    split at hd
    · skip
      cases hd
      exact h2
    · cases hd
  · exact ho _ _ _ _ _ h

noncomputable def ref03_Farc : Ctx := mkC 26 (oNil) [] lpNil

theorem ref03_Farc_ok : CtxOK Tryd.prog ref03_Farc := mkC_ok (oNil_ok)

noncomputable def ref03_Fard : V → List Obj → Option (Int) := fun v objs => match v, objs with
  | V.s (S.i IntKind.i64 y0), [] => some (y0)
  | _, _ => none

theorem ref03_Far_eq (x0 : Int) (x1 : Int) : fnE ref03_Farc Tryd.f80 ([V.s (S.i IntKind.i64 x0), V.s (S.i IntKind.i64 x1)]) ([]) ref03_Fard = ref03_Far x0 x1 := by kernel_rfl

noncomputable def ref03_Fara {R : Type} (o : Orc) (vs : List V) (objs : List Obj) (K : Bool → V → List Obj → Option R) : Option R := match vs, objs with
  | [V.s (S.i IntKind.i64 x0), V.s (S.i IntKind.i64 x1)], [] => ob (ref03_Far x0 x1) fun y0 => K false (V.s (S.i IntKind.i64 y0)) ([])
  | _, _ => o 80 vs objs K

noncomputable def ref03_Faro (o : Orc) : Orc := hook 80 (ref03_Fara o) o

theorem ref03_Faro_ok (o : Orc) (ho : OSound Tryd.prog o) : OSound Tryd.prog (ref03_Faro o) := hook_ok ho fun vs objs K r h => by
  unfold ref03_Fara at h
  split at h
  · skip
    obtain ⟨t, h1, h2⟩ := ob_ok h
    refine anyOK_of mixed ref03_Farc_ok (fn := Tryd.f80) (b := (Tryd.f80).body.getD .skip) (by kernel_rfl) (by kernel_rfl) (by kernel_rfl) ((ref03_Far_eq _ _).trans h1) (m := 0) rfl (AllP.of (l' := []) (by kernel_rfl) trivial) fun v objs' hd => ?_
    unfold ref03_Fard at hd
    split at hd
    · skip
      cases hd
      exact h2
    · cases hd
  · exact ho _ _ _ _ _ h

noncomputable def ref03_Deadc : Ctx := mkC 35 ((ref02_Kindo (ref03_Faro (ref02_Sideo oNil)))) [] lpNil

theorem ref03_Deadc_ok : CtxOK Tryd.prog ref03_Deadc := mkC_ok ((ref02_Kindo_ok _ (ref03_Faro_ok _ (ref02_Sideo_ok _ oNil_ok))))

noncomputable def ref03_Deadd : V → List Obj → Option (Bool) := fun v objs => match v, objs with
  | V.s (S.b y0), [] => some (y0)
  | _, _ => none

theorem ref03_Dead_eq (x0 : Int) (x1 : Int) : fnE ref03_Deadc Tryd.f71 ([V.s (S.i IntKind.i64 x0), V.s (S.i IntKind.i64 x1)]) ([]) ref03_Deadd = ref03_Dead x0 x1 := by kernel_rfl

noncomputable def ref03_Deada {R : Type} (o : Orc) (vs : List V) (objs : List Obj) (K : Bool → V → List Obj → Option R) : Option R := match vs, objs with
  | [V.s (S.i IntKind.i64 x0), V.s (S.i IntKind.i64 x1)], [] => ob (ref03_Dead x0 x1) fun y0 => K false (V.s (S.b y0)) ([])
  | _, _ => o 71 vs objs K

noncomputable def ref03_Deado (o : Orc) : Orc := hook 71 (ref03_Deada o) o

theorem ref03_Deado_ok (o : Orc) (ho : OSound Tryd.prog o) : OSound Tryd.prog (ref03_Deado o) := hook_ok ho fun vs objs K r h => by
  unfold ref03_Deada at h
  split at h
  · skip
    obtain ⟨t, h1, h2⟩ := ob_ok h
    refine anyOK_of mixed ref03_Deadc_ok (fn := Tryd.f71) (b := (Tryd.f71).body.getD .skip) (by kernel_rfl) (by kernel_rfl) (by kernel_rfl) ((ref03_Dead_eq _ _).trans h1) (m := 0) rfl (AllP.of (l' := []) (by kernel_rfl) trivial) fun v objs' hd => ?_
    unfold ref03_Deadd at hd
    split at hd
    · skip
      cases hd
      exact h2
    · cases hd
  · exact ho _ _ _ _ _ h

noncomputable def set_Firstc : Ctx := mkC 18 ((bits_TrailingZeros64o oNil)) [] lpNil

theorem set_Firstc_ok : CtxOK Tryd.prog set_Firstc := mkC_ok ((bits_TrailingZeros64o_ok _ oNil_ok))

noncomputable def set_Firstd : V → List Obj → Option (Int) := fun v objs => match v, objs with
  | V.s (S.i IntKind.i64 y0), [] => some (y0)
  | _, _ => none

theorem set_First_eq (x0 : Int) (x1 : Int) : fnE set_Firstc Tryd.f95 ([V.agg [Seg.one [S.i IntKind.u64 x0, S.i IntKind.u64 x1]]]) ([]) set_Firstd = set_First x0 x1 := by kernel_rfl

noncomputable def set_Firsta {R : Type} (o : Orc) (vs : List V) (objs : List Obj) (K : Bool → V → List Obj → Option R) : Option R := match vs, objs with
  | [V.agg [Seg.one [S.i IntKind.u64 x0, S.i IntKind.u64 x1]]], [] => ob (set_First x0 x1) fun y0 => K false (V.s (S.i IntKind.i64 y0)) ([])
  | _, _ => o 95 vs objs K

noncomputable def set_Firsto (o : Orc) : Orc := hook 95 (set_Firsta o) o

theorem set_Firsto_ok (o : Orc) (ho : OSound Tryd.prog o) : OSound Tryd.prog (set_Firsto o) := hook_ok ho fun vs objs K r h => by
  unfold set_Firsta at h
  split at h
  · skip
    obtain ⟨t, h1, h2⟩ := ob_ok h
    refine anyOK_of mixed set_Firstc_ok (fn := Tryd.f95) (b := (Tryd.f95).body.getD .skip) (by kernel_rfl) (by kernel_rfl) (by kernel_rfl) ((set_First_eq _ _).trans h1) (m := 0) rfl (AllP.of (l' := []) (by kernel_rfl) trivial) fun v objs' hd => ?_
    unfold set_Firstd at hd
    split at hd
    · skip
      cases hd
      exact h2
    · cases hd
  · exact ho _ _ _ _ _ h

noncomputable def board_Kingc : Ctx := mkC 9 ((set_Firsto (board_Ofo oNil))) [] lpNil

theorem board_Kingc_ok : CtxOK Tryd.prog board_Kingc := mkC_ok ((set_Firsto_ok _ (board_Ofo_ok _ oNil_ok)))

noncomputable def board_Kingd : V → List Obj → Option (Int) := fun v objs => match v, objs with
  | V.s (S.i IntKind.i64 y0), [] => some (y0)
  | _, _ => none

theorem board_King_eq (x0 : Int) (x1 : List Int) (x2 : List Int) (x3 : Int) (x4 : List (List Int)) (x5 : List (List Int)) : fnE board_Kingc Tryd.f91 ([V.s (S.ptr 0 0 none 0), V.s (S.i IntKind.i64 x0)]) ([Obj.rcells 81 [Seg.arr IntKind.i8 81 x1, Seg.arr IntKind.i8 16 x2, Seg.one [S.i IntKind.i8 x3], Seg.rows [.i .u64, .i .u64] 32 x4, Seg.rows [.i .u64, .i .u64] 2 x5]]) (pureD 1 board_Kingd) = board_King x0 x1 x2 x3 x4 x5 := by kernel_rfl

noncomputable def board_Kinga {R : Type} (o : Orc) (vs : List V) (objs : List Obj) (K : Bool → V → List Obj → Option R) : Option R := match vs, List.map Obj.toRO objs with
  | [V.s (S.ptr 0 0 none 0), V.s (S.i IntKind.i64 x0)], [Obj.rcells 81 [Seg.arr IntKind.i8 81 x1, Seg.arr IntKind.i8 16 x2, Seg.one [S.i IntKind.i8 x3], Seg.rows [.i .u64, .i .u64] 32 x4, Seg.rows [.i .u64, .i .u64] 2 x5]] => ob (board_King x0 x1 x2 x3 x4 x5) fun y0 => K true (V.s (S.i IntKind.i64 y0)) ([])
  | _, _ => o 91 vs objs K

noncomputable def board_Kingo (o : Orc) : Orc := hook 91 (board_Kinga o) o

theorem board_Kingo_ok (o : Orc) (ho : OSound Tryd.prog o) : OSound Tryd.prog (board_Kingo o) := hook_ok ho fun vs objs K r h => by
  unfold board_Kinga at h
  split at h
  · skip
    have hq : List.map Obj.toRO objs = _ := (by rename_i hq; first | exact hq | assumption)
    obtain ⟨t, h1, h2⟩ := ob_ok h
    refine purOK_by mixed board_Kingc_ok (m := 1) (fn := Tryd.f91) (b := (Tryd.f91).body.getD .skip) (by kernel_rfl) (by kernel_rfl) (by kernel_rfl) hq (by kernel_rfl) (by kernel_rfl) (AllP.of (l' := []) (by kernel_rfl) trivial) ((board_King_eq _ _ _ _ _ _).trans h1) fun v objs' hd => ?_
    unfold board_Kingd at hd
    split at hd
    · skip
      cases hd
      exact h2
    · cases hd
  · exact ho _ _ _ _ _ h

noncomputable def attack_Onl5d : Ex → List V → List Obj → Option (List Int × List Int × Int × List (List Int) × List (List Int) × Int × Int × Int × Int) := fun e vs objs => match e, vs, objs with
  | Ex.exit 0, [V.s (S.ptr 1 0 none 0), V.s (S.ptr 2 0 none 0)], [Obj.rcells 81 [Seg.arr IntKind.i8 81 y0, Seg.arr IntKind.i8 16 y1, Seg.one [S.i IntKind.i8 y2], Seg.rows [.i .u64, .i .u64] 32 y3, Seg.rows [.i .u64, .i .u64] 2 y4], Obj.cells 57 [Seg.one [S.i IntKind.u64 y5, S.i IntKind.u64 y6]], Obj.cells 57 [Seg.one [S.i IntKind.u64 y7, S.i IntKind.u64 y8]]] => some (y0, y1, y2, y3, y4, y5, y6, y7, y8)
  | _, _, _ => none

noncomputable def attack_Onp5 {R : Type} (vs : List V) (objs : List Obj) (K : Ex → List V → List Obj → Option R) : Option R := match vs, objs with
  | [V.s (S.ptr 0 0 none 0), V.s (S.i IntKind.i64 x0), V.s (S.i IntKind.i64 x1), V.s (S.ptr 1 0 none 0), V.s (S.ptr 2 0 none 0), V.s (S.ptr 3 0 none 0), V.s (S.i IntKind.i64 x2)], [Obj.rcells 81 [Seg.arr IntKind.i8 81 x3, Seg.arr IntKind.i8 16 x4, Seg.one [S.i IntKind.i8 x5], Seg.rows [.i .u64, .i .u64] 32 x6, Seg.rows [.i .u64, .i .u64] 2 x7], Obj.cells 57 [Seg.one [S.i IntKind.u64 x8, S.i IntKind.u64 x9]], Obj.cells 57 [Seg.one [S.i IntKind.u64 x10, S.i IntKind.u64 x11]], Obj.cells 57 [Seg.one [S.i IntKind.u64 x12, S.i IntKind.u64 x13]]] => ob (attack_Onl5 many x0 x1 x2 x3 x4 x5 x6 x7 x8 x9 x10 x11 x12 x13) fun z => K (Ex.exit 0) ([V.s (S.ptr 1 0 none 0), V.s (S.ptr 2 0 none 0)]) ([Obj.rcells 81 [Seg.arr IntKind.i8 81 (z.1), Seg.arr IntKind.i8 16 (z.2.1), Seg.one [S.i IntKind.i8 (z.2.2.1)], Seg.rows [.i .u64, .i .u64] 32 (z.2.2.2.1), Seg.rows [.i .u64, .i .u64] 2 (z.2.2.2.2.1)], Obj.cells 57 [Seg.one [S.i IntKind.u64 (z.2.2.2.2.2.1), S.i IntKind.u64 (z.2.2.2.2.2.2.1)]], Obj.cells 57 [Seg.one [S.i IntKind.u64 (z.2.2.2.2.2.2.2.1), S.i IntKind.u64 (z.2.2.2.2.2.2.2.2)]]])
  | _, _ => none

noncomputable def attack_Onlp : {R : Type} → Nat → List V → List Obj → (Ex → List V → List Obj → Option R) → Option R := fun q vs objs K => bif Nat.beq q 5 then attack_Onp5 vs objs K else none

noncomputable def attack_Onc : Ctx := mkC 49 ((set_Oro (set_Ando (board_Ofo (ray_Ofo (piece_Ofo oNil)))))) [(5, [0, 1, 2, 7, 8, 9, 10], [8, 9])] attack_Onlp

theorem attack_Onc_ok : CtxOK Tryd.prog attack_Onc := mkC_ok ((set_Oro_ok _ (set_Ando_ok _ (board_Ofo_ok _ (ray_Ofo_ok _ (piece_Ofo_ok _ oNil_ok))))))

noncomputable def attack_Onl5r (f : Nat) (x0 : Int) (x1 : Int) (x2 : Int) (x3 : List Int) (x4 : List Int) (x5 : Int) (x6 : List (List Int)) (x7 : List (List Int)) (x8 : Int) (x9 : Int) (x10 : Int) (x11 : Int) (x12 : Int) (x13 : Int) : Option (List Int × List Int × Int × List (List Int) × List (List Int) × Int × Int × Int × Int) := lrun attack_Onc 1 [0, 1, 2, 7, 8, 9, 10] [8, 9] (loopOf Tryd.f90 5) f ([V.s (S.ptr 0 0 none 0), V.s (S.i IntKind.i64 x0), V.s (S.i IntKind.i64 x1), V.s (S.ptr 1 0 none 0), V.s (S.ptr 2 0 none 0), V.s (S.ptr 3 0 none 0), V.s (S.i IntKind.i64 x2)]) ([Obj.rcells 81 [Seg.arr IntKind.i8 81 x3, Seg.arr IntKind.i8 16 x4, Seg.one [S.i IntKind.i8 x5], Seg.rows [.i .u64, .i .u64] 32 x6, Seg.rows [.i .u64, .i .u64] 2 x7], Obj.cells 57 [Seg.one [S.i IntKind.u64 x8, S.i IntKind.u64 x9]], Obj.cells 57 [Seg.one [S.i IntKind.u64 x10, S.i IntKind.u64 x11]], Obj.cells 57 [Seg.one [S.i IntKind.u64 x12, S.i IntKind.u64 x13]]]) attack_Onl5d

theorem attack_Onl5_step (f : Nat) (x0 : Int) (x1 : Int) (x2 : Int) (x3 : List Int) (x4 : List Int) (x5 : Int) (x6 : List (List Int)) (x7 : List (List Int)) (x8 : Int) (x9 : Int) (x10 : Int) (x11 : Int) (x12 : Int) (x13 : Int) : attack_Onl5r (f + 1) x0 x1 x2 x3 x4 x5 x6 x7 x8 x9 x10 x11 x12 x13 = attack_Onl5s (attack_Onl5r f) x0 x1 x2 x3 x4 x5 x6 x7 x8 x9 x10 x11 x12 x13 := by kernel_rfl

theorem attack_Onl5_eq : ∀ f, attack_Onl5r f = attack_Onl5 f
  | 0 => rfl
  | f + 1 => by funext x0 x1 x2 x3 x4 x5 x6 x7 x8 x9 x10 x11 x12 x13; rw [attack_Onl5_step, attack_Onl5_eq f]; rfl

theorem attack_Ons5 : LoopSound Tryd.prog attack_Onc 1 (loopOf Tryd.f90 5) :=
  loopSound_by mixed attack_Onc_ok (AllP.of (l' := []) (by kernel_rfl) trivial) (q := 5) (kin := [0, 1, 2, 7, 8, 9, 10]) (kout := [8, 9]) (by kernel_rfl) (by kernel_rfl) fun vs objs K r h => by
    replace h : attack_Onp5 vs objs K = some r := h
    unfold attack_Onp5 at h
    split at h
    · skip
      obtain ⟨t, h1, h2⟩ := ob_ok h
      rw [← attack_Onl5_eq] at h1
      refine ⟨_, attack_Onl5d, t, many, h1, fun e vs' objs' hd => ?_⟩
      unfold attack_Onl5d at hd
      split at hd
      · skip
        cases hd
        exact h2
      · cases hd
    · cases h

noncomputable def attack_Ond : V → List Obj → Option (Int × Int) := fun v objs => match v, objs with
  | V.agg [Seg.one [S.i IntKind.u64 y0, S.i IntKind.u64 y1]], [] => some (y0, y1)
  | _, _ => none

theorem attack_On_eq (x0 : Int) (x1 : Int) (x2 : Int) (x3 : Int) (x4 : List Int) (x5 : List Int) (x6 : Int) (x7 : List (List Int)) (x8 : List (List Int)) : fnE attack_Onc Tryd.f90 ([V.s (S.ptr 0 0 none 0), V.s (S.i IntKind.i64 x0), V.s (S.i IntKind.i64 x1), V.agg [Seg.one [S.i IntKind.u64 x2, S.i IntKind.u64 x3]]]) ([Obj.rcells 81 [Seg.arr IntKind.i8 81 x4, Seg.arr IntKind.i8 16 x5, Seg.one [S.i IntKind.i8 x6], Seg.rows [.i .u64, .i .u64] 32 x7, Seg.rows [.i .u64, .i .u64] 2 x8]]) (pureD 1 attack_Ond) = attack_On x0 x1 x2 x3 x4 x5 x6 x7 x8 := by kernel_rfl

noncomputable def attack_Ona {R : Type} (o : Orc) (vs : List V) (objs : List Obj) (K : Bool → V → List Obj → Option R) : Option R := match vs, List.map Obj.toRO objs with
  | [V.s (S.ptr 0 0 none 0), V.s (S.i IntKind.i64 x0), V.s (S.i IntKind.i64 x1), V.agg [Seg.one [S.i IntKind.u64 x2, S.i IntKind.u64 x3]]], [Obj.rcells 81 [Seg.arr IntKind.i8 81 x4, Seg.arr IntKind.i8 16 x5, Seg.one [S.i IntKind.i8 x6], Seg.rows [.i .u64, .i .u64] 32 x7, Seg.rows [.i .u64, .i .u64] 2 x8]] => ob (attack_On x0 x1 x2 x3 x4 x5 x6 x7 x8) fun z => K true (V.agg [Seg.one [S.i IntKind.u64 (z.1), S.i IntKind.u64 (z.2)]]) ([])
  | _, _ => o 90 vs objs K

noncomputable def attack_Ono (o : Orc) : Orc := hook 90 (attack_Ona o) o

theorem attack_Ono_ok (o : Orc) (ho : OSound Tryd.prog o) : OSound Tryd.prog (attack_Ono o) := hook_ok ho fun vs objs K r h => by
  unfold attack_Ona at h
  split at h
  · skip
    have hq : List.map Obj.toRO objs = _ := (by rename_i hq; first | exact hq | assumption)
    obtain ⟨t, h1, h2⟩ := ob_ok h
    refine purOK_by mixed attack_Onc_ok (m := 1) (fn := Tryd.f90) (b := (Tryd.f90).body.getD .skip) (by kernel_rfl) (by kernel_rfl) (by kernel_rfl) hq (by kernel_rfl) (by kernel_rfl) (AllP.of (l' := [loopOf Tryd.f90 5]) (by kernel_rfl) ⟨attack_Ons5, trivial⟩) ((attack_On_eq _ _ _ _ _ _ _ _ _).trans h1) fun v objs' hd => ?_
    unfold attack_Ond at hd
    split at hd
    · skip
      cases hd
      exact h2
    · cases hd
  · exact ho _ _ _ _ _ h

noncomputable def attack_Checkersc : Ctx := mkC 14 ((attack_Ono (board_Takeno (board_Kingo oNil)))) [] lpNil

theorem attack_Checkersc_ok : CtxOK Tryd.prog attack_Checkersc := mkC_ok ((attack_Ono_ok _ (board_Takeno_ok _ (board_Kingo_ok _ oNil_ok))))

noncomputable def attack_Checkersd : V → List Obj → Option (Int × Int) := fun v objs => match v, objs with
  | V.agg [Seg.one [S.i IntKind.u64 y0, S.i IntKind.u64 y1]], [] => some (y0, y1)
  | _, _ => none

theorem attack_Checkers_eq (x0 : Int) (x1 : List Int) (x2 : List Int) (x3 : Int) (x4 : List (List Int)) (x5 : List (List Int)) : fnE attack_Checkersc Tryd.f42 ([V.s (S.ptr 0 0 none 0), V.s (S.i IntKind.i64 x0)]) ([Obj.rcells 81 [Seg.arr IntKind.i8 81 x1, Seg.arr IntKind.i8 16 x2, Seg.one [S.i IntKind.i8 x3], Seg.rows [.i .u64, .i .u64] 32 x4, Seg.rows [.i .u64, .i .u64] 2 x5]]) (pureD 1 attack_Checkersd) = attack_Checkers x0 x1 x2 x3 x4 x5 := by kernel_rfl

noncomputable def attack_Checkersa {R : Type} (o : Orc) (vs : List V) (objs : List Obj) (K : Bool → V → List Obj → Option R) : Option R := match vs, List.map Obj.toRO objs with
  | [V.s (S.ptr 0 0 none 0), V.s (S.i IntKind.i64 x0)], [Obj.rcells 81 [Seg.arr IntKind.i8 81 x1, Seg.arr IntKind.i8 16 x2, Seg.one [S.i IntKind.i8 x3], Seg.rows [.i .u64, .i .u64] 32 x4, Seg.rows [.i .u64, .i .u64] 2 x5]] => ob (attack_Checkers x0 x1 x2 x3 x4 x5) fun z => K true (V.agg [Seg.one [S.i IntKind.u64 (z.1), S.i IntKind.u64 (z.2)]]) ([])
  | _, _ => o 42 vs objs K

noncomputable def attack_Checkerso (o : Orc) : Orc := hook 42 (attack_Checkersa o) o

theorem attack_Checkerso_ok (o : Orc) (ho : OSound Tryd.prog o) : OSound Tryd.prog (attack_Checkerso o) := hook_ok ho fun vs objs K r h => by
  unfold attack_Checkersa at h
  split at h
  · skip
    have hq : List.map Obj.toRO objs = _ := (by rename_i hq; first | exact hq | assumption)
    obtain ⟨t, h1, h2⟩ := ob_ok h
    refine purOK_by mixed attack_Checkersc_ok (m := 1) (fn := Tryd.f42) (b := (Tryd.f42).body.getD .skip) (by kernel_rfl) (by kernel_rfl) (by kernel_rfl) hq (by kernel_rfl) (by kernel_rfl) (AllP.of (l' := []) (by kernel_rfl) trivial) ((attack_Checkers_eq _ _ _ _ _ _).trans h1) fun v objs' hd => ?_
    unfold attack_Checkersd at hd
    split at hd
    · skip
      cases hd
      exact h2
    · cases hd
  · exact ho _ _ _ _ _ h

noncomputable def attack_InCheckc : Ctx := mkC 10 ((set_Emptyo (attack_Checkerso oNil))) [] lpNil

theorem attack_InCheckc_ok : CtxOK Tryd.prog attack_InCheckc := mkC_ok ((set_Emptyo_ok _ (attack_Checkerso_ok _ oNil_ok)))

noncomputable def attack_InCheckd : V → List Obj → Option (Bool) := fun v objs => match v, objs with
  | V.s (S.b y0), [] => some (y0)
  | _, _ => none

theorem attack_InCheck_eq (x0 : Int) (x1 : List Int) (x2 : List Int) (x3 : Int) (x4 : List (List Int)) (x5 : List (List Int)) : fnE attack_InCheckc Tryd.f17 ([V.s (S.ptr 0 0 none 0), V.s (S.i IntKind.i64 x0)]) ([Obj.rcells 81 [Seg.arr IntKind.i8 81 x1, Seg.arr IntKind.i8 16 x2, Seg.one [S.i IntKind.i8 x3], Seg.rows [.i .u64, .i .u64] 32 x4, Seg.rows [.i .u64, .i .u64] 2 x5]]) (pureD 1 attack_InCheckd) = attack_InCheck x0 x1 x2 x3 x4 x5 := by kernel_rfl

noncomputable def attack_InChecka {R : Type} (o : Orc) (vs : List V) (objs : List Obj) (K : Bool → V → List Obj → Option R) : Option R := match vs, List.map Obj.toRO objs with
  | [V.s (S.ptr 0 0 none 0), V.s (S.i IntKind.i64 x0)], [Obj.rcells 81 [Seg.arr IntKind.i8 81 x1, Seg.arr IntKind.i8 16 x2, Seg.one [S.i IntKind.i8 x3], Seg.rows [.i .u64, .i .u64] 32 x4, Seg.rows [.i .u64, .i .u64] 2 x5]] => ob (attack_InCheck x0 x1 x2 x3 x4 x5) fun y0 => K true (V.s (S.b y0)) ([])
  | _, _ => o 17 vs objs K

noncomputable def attack_InChecko (o : Orc) : Orc := hook 17 (attack_InChecka o) o

theorem attack_InChecko_ok (o : Orc) (ho : OSound Tryd.prog o) : OSound Tryd.prog (attack_InChecko o) := hook_ok ho fun vs objs K r h => by
  unfold attack_InChecka at h
  split at h
  · skip
    have hq : List.map Obj.toRO objs = _ := (by rename_i hq; first | exact hq | assumption)
    obtain ⟨t, h1, h2⟩ := ob_ok h
    refine purOK_by mixed attack_InCheckc_ok (m := 1) (fn := Tryd.f17) (b := (Tryd.f17).body.getD .skip) (by kernel_rfl) (by kernel_rfl) (by kernel_rfl) hq (by kernel_rfl) (by kernel_rfl) (AllP.of (l' := []) (by kernel_rfl) trivial) ((attack_InCheck_eq _ _ _ _ _ _).trans h1) fun v objs' hd => ?_
    unfold attack_InCheckd at hd
    split at hd
    · skip
      cases hd
      exact h2
    · cases hd
  · exact ho _ _ _ _ _ h

noncomputable def piece_Rawc : Ctx := mkC 13 ((piece_Ofo oNil)) [] lpNil

theorem piece_Rawc_ok : CtxOK Tryd.prog piece_Rawc := mkC_ok ((piece_Ofo_ok _ oNil_ok))

noncomputable def piece_Rawd : V → List Obj → Option (Int) := fun v objs => match v, objs with
  | V.s (S.i IntKind.i64 y0), [] => some (y0)
  | _, _ => none

theorem piece_Raw_eq (x0 : Int) : fnE piece_Rawc Tryd.f98 ([V.s (S.i IntKind.i64 x0)]) ([]) piece_Rawd = piece_Raw x0 := by kernel_rfl

noncomputable def piece_Rawa {R : Type} (o : Orc) (vs : List V) (objs : List Obj) (K : Bool → V → List Obj → Option R) : Option R := match vs, objs with
  | [V.s (S.i IntKind.i64 x0)], [] => ob (piece_Raw x0) fun y0 => K false (V.s (S.i IntKind.i64 y0)) ([])
  | _, _ => o 98 vs objs K

noncomputable def piece_Rawo (o : Orc) : Orc := hook 98 (piece_Rawa o) o

theorem piece_Rawo_ok (o : Orc) (ho : OSound Tryd.prog o) : OSound Tryd.prog (piece_Rawo o) := hook_ok ho fun vs objs K r h => by
  unfold piece_Rawa at h
  split at h
  · skip
    obtain ⟨t, h1, h2⟩ := ob_ok h
    refine anyOK_of mixed piece_Rawc_ok (fn := Tryd.f98) (b := (Tryd.f98).body.getD .skip) (by kernel_rfl) (by kernel_rfl) (by kernel_rfl) ((piece_Raw_eq _).trans h1) (m := 0) rfl (AllP.of (l' := []) (by kernel_rfl) trivial) fun v objs' hd => ?_
    unfold piece_Rawd at hd
    split at hd
    · skip
      cases hd
      exact h2
    · cases hd
  · exact ho _ _ _ _ _ h

noncomputable def piece_Totalc : Ctx := mkC 15 (oNil) [] lpNil

theorem piece_Totalc_ok : CtxOK Tryd.prog piece_Totalc := mkC_ok (oNil_ok)

noncomputable def piece_Totald : V → List Obj → Option (Int) := fun v objs => match v, objs with
  | V.s (S.i IntKind.i64 y0), [] => some (y0)
  | _, _ => none

theorem piece_Total_eq (x0 : Int) : fnE piece_Totalc Tryd.f99 ([V.s (S.i IntKind.i64 x0)]) ([]) piece_Totald = piece_Total x0 := by kernel_rfl

noncomputable def piece_Totala {R : Type} (o : Orc) (vs : List V) (objs : List Obj) (K : Bool → V → List Obj → Option R) : Option R := match vs, objs with
  | [V.s (S.i IntKind.i64 x0)], [] => ob (piece_Total x0) fun y0 => K false (V.s (S.i IntKind.i64 y0)) ([])
  | _, _ => o 99 vs objs K

noncomputable def piece_Totalo (o : Orc) : Orc := hook 99 (piece_Totala o) o

theorem piece_Totalo_ok (o : Orc) (ho : OSound Tryd.prog o) : OSound Tryd.prog (piece_Totalo o) := hook_ok ho fun vs objs K r h => by
  unfold piece_Totala at h
  split at h
  · skip
    obtain ⟨t, h1, h2⟩ := ob_ok h
    refine anyOK_of mixed piece_Totalc_ok (fn := Tryd.f99) (b := (Tryd.f99).body.getD .skip) (by kernel_rfl) (by kernel_rfl) (by kernel_rfl) ((piece_Total_eq _).trans h1) (m := 0) rfl (AllP.of (l' := []) (by kernel_rfl) trivial) fun v objs' hd => ?_
    unfold piece_Totald at hd
    split at hd
    · skip
      cases hd
      exact h2
    · cases hd
  · exact ho _ _ _ _ _ h

noncomputable def bits_OnesCount64c : Ctx := mkC 35 (oNil) [] lpNil

theorem bits_OnesCount64c_ok : CtxOK Tryd.prog bits_OnesCount64c := mkC_ok (oNil_ok)

noncomputable def bits_OnesCount64d : V → List Obj → Option (Int) := fun v objs => match v, objs with
  | V.s (S.i IntKind.i64 y0), [] => some (y0)
  | _, _ => none

theorem bits_OnesCount64_eq (x0 : Int) : fnE bits_OnesCount64c Tryd.f97 ([V.s (S.i IntKind.u64 x0)]) ([]) bits_OnesCount64d = bits_OnesCount64 x0 := by kernel_rfl

noncomputable def bits_OnesCount64a {R : Type} (o : Orc) (vs : List V) (objs : List Obj) (K : Bool → V → List Obj → Option R) : Option R := match vs, objs with
  | [V.s (S.i IntKind.u64 x0)], [] => ob (bits_OnesCount64 x0) fun y0 => K false (V.s (S.i IntKind.i64 y0)) ([])
  | _, _ => o 97 vs objs K

noncomputable def bits_OnesCount64o (o : Orc) : Orc := hook 97 (bits_OnesCount64a o) o

theorem bits_OnesCount64o_ok (o : Orc) (ho : OSound Tryd.prog o) : OSound Tryd.prog (bits_OnesCount64o o) := hook_ok ho fun vs objs K r h => by
  unfold bits_OnesCount64a at h
  split at h
  · skip
    obtain ⟨t, h1, h2⟩ := ob_ok h
    refine anyOK_of mixed bits_OnesCount64c_ok (fn := Tryd.f97) (b := (Tryd.f97).body.getD .skip) (by kernel_rfl) (by kernel_rfl) (by kernel_rfl) ((bits_OnesCount64_eq _).trans h1) (m := 0) rfl (AllP.of (l' := []) (by kernel_rfl) trivial) fun v objs' hd => ?_
    unfold bits_OnesCount64d at hd
    split at hd
    · skip
      cases hd
      exact h2
    · cases hd
  · exact ho _ _ _ _ _ h

noncomputable def set_Countc : Ctx := mkC 10 ((bits_OnesCount64o oNil)) [] lpNil

theorem set_Countc_ok : CtxOK Tryd.prog set_Countc := mkC_ok ((bits_OnesCount64o_ok _ oNil_ok))

noncomputable def set_Countd : V → List Obj → Option (Int) := fun v objs => match v, objs with
  | V.s (S.i IntKind.i64 y0), [] => some (y0)
  | _, _ => none

theorem set_Count_eq (x0 : Int) (x1 : Int) : fnE set_Countc Tryd.f50 ([V.agg [Seg.one [S.i IntKind.u64 x0, S.i IntKind.u64 x1]]]) ([]) set_Countd = set_Count x0 x1 := by kernel_rfl

noncomputable def set_Counta {R : Type} (o : Orc) (vs : List V) (objs : List Obj) (K : Bool → V → List Obj → Option R) : Option R := match vs, objs with
  | [V.agg [Seg.one [S.i IntKind.u64 x0, S.i IntKind.u64 x1]]], [] => ob (set_Count x0 x1) fun y0 => K false (V.s (S.i IntKind.i64 y0)) ([])
  | _, _ => o 50 vs objs K

noncomputable def set_Counto (o : Orc) : Orc := hook 50 (set_Counta o) o

theorem set_Counto_ok (o : Orc) (ho : OSound Tryd.prog o) : OSound Tryd.prog (set_Counto o) := hook_ok ho fun vs objs K r h => by
  unfold set_Counta at h
  split at h
  · skip
    obtain ⟨t, h1, h2⟩ := ob_ok h
    refine anyOK_of mixed set_Countc_ok (fn := Tryd.f50) (b := (Tryd.f50).body.getD .skip) (by kernel_rfl) (by kernel_rfl) (by kernel_rfl) ((set_Count_eq _ _).trans h1) (m := 0) rfl (AllP.of (l' := []) (by kernel_rfl) trivial) fun v objs' hd => ?_
    unfold set_Countd at hd
    split at hd
    · skip
      cases hd
      exact h2
    · cases hd
  · exact ho _ _ _ _ _ h

noncomputable def board_filesl2d : Ex → List V → List Obj → Option ((Int × List Int × List Int × Int) ⊕ (List Int × List Int × Int)) := fun e vs objs => match e, vs, objs with
  | Ex.ret, [V.s (S.ptr 0 0 none 0), V.s (S.i IntKind.i64 y0)], [Obj.cells 28 [Seg.arr IntKind.i8 81 y1, Seg.arr IntKind.i8 16 y2, Seg.one [S.i IntKind.i8 y3]]] => some (Sum.inl (y0, y1, y2, y3))
  | Ex.exit 0, [V.s (S.ptr 0 0 none 0), V.s S.bad], [Obj.cells 28 [Seg.arr IntKind.i8 81 y0, Seg.arr IntKind.i8 16 y1, Seg.one [S.i IntKind.i8 y2]]] => some (Sum.inr (y0, y1, y2))
  | _, _, _ => none

noncomputable def board_filesl12d : Ex → List V → List Obj → Option ((Int × Int × List Int × List Int × Int × List (List Int) × List (List Int)) ⊕ (Int × List Int × List Int × Int × List (List Int) × List (List Int))) := fun e vs objs => match e, vs, objs with
  | Ex.ret, [V.s (S.i IntKind.i64 y0), V.s (S.ptr 0 0 none 0), V.s (S.i IntKind.i64 y1)], [Obj.cells 81 [Seg.arr IntKind.i8 81 y2, Seg.arr IntKind.i8 16 y3, Seg.one [S.i IntKind.i8 y4], Seg.rows [.i .u64, .i .u64] 32 y5, Seg.rows [.i .u64, .i .u64] 2 y6]] => some (Sum.inl (y0, y1, y2, y3, y4, y5, y6))
  | Ex.exit 4, [V.s S.bad, V.s (S.ptr 0 0 none 0), V.s (S.i IntKind.i64 y0)], [Obj.cells 81 [Seg.arr IntKind.i8 81 y1, Seg.arr IntKind.i8 16 y2, Seg.one [S.i IntKind.i8 y3], Seg.rows [.i .u64, .i .u64] 32 y4, Seg.rows [.i .u64, .i .u64] 2 y5]] => some (Sum.inr (y0, y1, y2, y3, y4, y5))
  | _, _, _ => none

noncomputable def board_filesl9d : Ex → List V → List Obj → Option ((Int) ⊕ (Unit)) := fun e vs objs => match e, vs, objs with
  | Ex.ret, [V.s (S.i IntKind.i64 y0)], [] => some (Sum.inl (y0))
  | Ex.exit 2, [V.s S.bad], [] => some (Sum.inr ())
  | _, _, _ => none

noncomputable def board_filesp2 {R : Type} (vs : List V) (objs : List Obj) (K : Ex → List V → List Obj → Option R) : Option R := match vs, objs with
  | [V.s (S.ptr 0 0 none 0), V.agg [Seg.arr IntKind.i8 81 x0], V.s (S.i IntKind.i64 x1)], [Obj.cells 28 [Seg.arr IntKind.i8 81 x2, Seg.arr IntKind.i8 16 x3, Seg.one [S.i IntKind.i8 x4]]] => ob (board_filesl2 many x0 x1 x2 x3 x4) fun t0 => sw t0 (fun z => K (Ex.ret) ([V.s (S.ptr 0 0 none 0), V.s (S.i IntKind.i64 (z.1))]) ([Obj.cells 28 [Seg.arr IntKind.i8 81 (z.2.1), Seg.arr IntKind.i8 16 (z.2.2.1), Seg.one [S.i IntKind.i8 (z.2.2.2)]]])) (fun z => K (Ex.exit 0) ([V.s (S.ptr 0 0 none 0), V.s S.bad]) ([Obj.cells 28 [Seg.arr IntKind.i8 81 (z.1), Seg.arr IntKind.i8 16 (z.2.1), Seg.one [S.i IntKind.i8 (z.2.2)]]]))
  | _, _ => none

noncomputable def board_filesp12 {R : Type} (vs : List V) (objs : List Obj) (K : Ex → List V → List Obj → Option R) : Option R := match vs, objs with
  | [V.s (S.ptr 0 0 none 0), V.s (S.i IntKind.i64 x0), V.s (S.i IntKind.i64 x1), V.s (S.i IntKind.i64 x2)], [Obj.cells 81 [Seg.arr IntKind.i8 81 x3, Seg.arr IntKind.i8 16 x4, Seg.one [S.i IntKind.i8 x5], Seg.rows [.i .u64, .i .u64] 32 x6, Seg.rows [.i .u64, .i .u64] 2 x7]] => ob (board_filesl12 many x0 x1 x2 x3 x4 x5 x6 x7) fun t0 => sw t0 (fun z => K (Ex.ret) ([V.s (S.i IntKind.i64 (z.1)), V.s (S.ptr 0 0 none 0), V.s (S.i IntKind.i64 (z.2.1))]) ([Obj.cells 81 [Seg.arr IntKind.i8 81 (z.2.2.1), Seg.arr IntKind.i8 16 (z.2.2.2.1), Seg.one [S.i IntKind.i8 (z.2.2.2.2.1)], Seg.rows [.i .u64, .i .u64] 32 (z.2.2.2.2.2.1), Seg.rows [.i .u64, .i .u64] 2 (z.2.2.2.2.2.2)]])) (fun z => K (Ex.exit 4) ([V.s S.bad, V.s (S.ptr 0 0 none 0), V.s (S.i IntKind.i64 (z.1))]) ([Obj.cells 81 [Seg.arr IntKind.i8 81 (z.2.1), Seg.arr IntKind.i8 16 (z.2.2.1), Seg.one [S.i IntKind.i8 (z.2.2.2.1)], Seg.rows [.i .u64, .i .u64] 32 (z.2.2.2.2.1), Seg.rows [.i .u64, .i .u64] 2 (z.2.2.2.2.2)]]))
  | _, _ => none

noncomputable def board_filesp9 {R : Type} (vs : List V) (objs : List Obj) (K : Ex → List V → List Obj → Option R) : Option R := match vs, objs with
  | [V.s (S.ptr 0 0 none 0), V.s (S.i IntKind.i64 x0)], [Obj.cells 81 [Seg.arr IntKind.i8 81 x1, Seg.arr IntKind.i8 16 x2, Seg.one [S.i IntKind.i8 x3], Seg.rows [.i .u64, .i .u64] 32 x4, Seg.rows [.i .u64, .i .u64] 2 x5]] => ob (board_filesl9 many x0 x1 x2 x3 x4 x5) fun t0 => sw t0 (fun y0 => K (Ex.ret) ([V.s (S.i IntKind.i64 y0)]) ([])) (fun _ => K (Ex.exit 2) ([V.s S.bad]) ([]))
  | _, _ => none

noncomputable def board_fileslp : {R : Type} → Nat → List V → List Obj → (Ex → List V → List Obj → Option R) → Option R := fun q vs objs K => bif Nat.beq q 2 then board_filesp2 vs objs K else bif Nat.beq q 12 then board_filesp12 vs objs K else bif Nat.beq q 9 then board_filesp9 vs objs K else none

noncomputable def board_filesc : Ctx := mkC 36 ((set_Counto (set_Ando (set_InFileo (board_Ofo (board_Newo (step_Deado oNil))))))) [(2, [1, 9, 10], [1, 2]), (9, [5, 20], [2]), (12, [5, 6, 20, 23], [2, 5, 20])] board_fileslp

theorem board_filesc_ok : CtxOK Tryd.prog board_filesc := mkC_ok ((set_Counto_ok _ (set_Ando_ok _ (set_InFileo_ok _ (board_Ofo_ok _ (board_Newo_ok _ (step_Deado_ok _ oNil_ok)))))))

noncomputable def board_filesl2r (f : Nat) (x0 : List Int) (x1 : Int) (x2 : List Int) (x3 : List Int) (x4 : Int) : Option ((Int × List Int × List Int × Int) ⊕ (List Int × List Int × Int)) := lrun board_filesc 0 [1, 9, 10] [1, 2] (loopOf Tryd.f100 2) f ([V.s (S.ptr 0 0 none 0), V.agg [Seg.arr IntKind.i8 81 x0], V.s (S.i IntKind.i64 x1)]) ([Obj.cells 28 [Seg.arr IntKind.i8 81 x2, Seg.arr IntKind.i8 16 x3, Seg.one [S.i IntKind.i8 x4]]]) board_filesl2d

theorem board_filesl2_step (f : Nat) (x0 : List Int) (x1 : Int) (x2 : List Int) (x3 : List Int) (x4 : Int) : board_filesl2r (f + 1) x0 x1 x2 x3 x4 = board_filesl2s (board_filesl2r f) x0 x1 x2 x3 x4 := by kernel_rfl

theorem board_filesl2_eq : ∀ f, board_filesl2r f = board_filesl2 f
  | 0 => rfl
  | f + 1 => by funext x0 x1 x2 x3 x4; rw [board_filesl2_step, board_filesl2_eq f]; rfl

noncomputable def board_filesl12r (f : Nat) (x0 : Int) (x1 : Int) (x2 : Int) (x3 : List Int) (x4 : List Int) (x5 : Int) (x6 : List (List Int)) (x7 : List (List Int)) : Option ((Int × Int × List Int × List Int × Int × List (List Int) × List (List Int)) ⊕ (Int × List Int × List Int × Int × List (List Int) × List (List Int))) := lrun board_filesc 0 [5, 6, 20, 23] [2, 5, 20] (loopOf Tryd.f100 12) f ([V.s (S.ptr 0 0 none 0), V.s (S.i IntKind.i64 x0), V.s (S.i IntKind.i64 x1), V.s (S.i IntKind.i64 x2)]) ([Obj.cells 81 [Seg.arr IntKind.i8 81 x3, Seg.arr IntKind.i8 16 x4, Seg.one [S.i IntKind.i8 x5], Seg.rows [.i .u64, .i .u64] 32 x6, Seg.rows [.i .u64, .i .u64] 2 x7]]) board_filesl12d

theorem board_filesl12_step (f : Nat) (x0 : Int) (x1 : Int) (x2 : Int) (x3 : List Int) (x4 : List Int) (x5 : Int) (x6 : List (List Int)) (x7 : List (List Int)) : board_filesl12r (f + 1) x0 x1 x2 x3 x4 x5 x6 x7 = board_filesl12s (board_filesl12r f) x0 x1 x2 x3 x4 x5 x6 x7 := by kernel_rfl

theorem board_filesl12_eq : ∀ f, board_filesl12r f = board_filesl12 f
  | 0 => rfl
  | f + 1 => by funext x0 x1 x2 x3 x4 x5 x6 x7; rw [board_filesl12_step, board_filesl12_eq f]; rfl

noncomputable def board_filesl9r (f : Nat) (x0 : Int) (x1 : List Int) (x2 : List Int) (x3 : Int) (x4 : List (List Int)) (x5 : List (List Int)) : Option ((Int) ⊕ (Unit)) := lrun board_filesc 0 [5, 20] [2] (loopOf Tryd.f100 9) f ([V.s (S.ptr 0 0 none 0), V.s (S.i IntKind.i64 x0)]) ([Obj.cells 81 [Seg.arr IntKind.i8 81 x1, Seg.arr IntKind.i8 16 x2, Seg.one [S.i IntKind.i8 x3], Seg.rows [.i .u64, .i .u64] 32 x4, Seg.rows [.i .u64, .i .u64] 2 x5]]) board_filesl9d

theorem board_filesl9_step (f : Nat) (x0 : Int) (x1 : List Int) (x2 : List Int) (x3 : Int) (x4 : List (List Int)) (x5 : List (List Int)) : board_filesl9r (f + 1) x0 x1 x2 x3 x4 x5 = board_filesl9s (board_filesl9r f) x0 x1 x2 x3 x4 x5 := by kernel_rfl

theorem board_filesl9_eq : ∀ f, board_filesl9r f = board_filesl9 f
  | 0 => rfl
  | f + 1 => by funext x0 x1 x2 x3 x4 x5; rw [board_filesl9_step, board_filesl9_eq f]; rfl

theorem board_filess2 : LoopSound Tryd.prog board_filesc 0 (loopOf Tryd.f100 2) :=
  loopSound_by mixed board_filesc_ok (AllP.of (l' := []) (by kernel_rfl) trivial) (q := 2) (kin := [1, 9, 10]) (kout := [1, 2]) (by kernel_rfl) (by kernel_rfl) fun vs objs K r h => by
    replace h : board_filesp2 vs objs K = some r := h
    unfold board_filesp2 at h
    split at h
    · skip
      obtain ⟨t, h1, h2⟩ := ob_ok h
      rw [← board_filesl2_eq] at h1
      refine ⟨_, board_filesl2d, t, many, h1, fun e vs' objs' hd => ?_⟩
      unfold board_filesl2d at hd
      split at hd
      · skip
        cases hd
        exact h2
      · skip
        cases hd
        exact h2
      · cases hd
    · cases h

theorem board_filess12 : LoopSound Tryd.prog board_filesc 0 (loopOf Tryd.f100 12) :=
  loopSound_by mixed board_filesc_ok (AllP.of (l' := []) (by kernel_rfl) trivial) (q := 12) (kin := [5, 6, 20, 23]) (kout := [2, 5, 20]) (by kernel_rfl) (by kernel_rfl) fun vs objs K r h => by
    replace h : board_filesp12 vs objs K = some r := h
    unfold board_filesp12 at h
    split at h
    · skip
      obtain ⟨t, h1, h2⟩ := ob_ok h
      rw [← board_filesl12_eq] at h1
      refine ⟨_, board_filesl12d, t, many, h1, fun e vs' objs' hd => ?_⟩
      unfold board_filesl12d at hd
      split at hd
      · skip
        cases hd
        exact h2
      · skip
        cases hd
        exact h2
      · cases hd
    · cases h

theorem board_filess9 : LoopSound Tryd.prog board_filesc 0 (loopOf Tryd.f100 9) :=
  loopSound_by mixed board_filesc_ok (AllP.of (l' := [loopOf Tryd.f100 12]) (by kernel_rfl) ⟨board_filess12, trivial⟩) (q := 9) (kin := [5, 20]) (kout := [2]) (by kernel_rfl) (by kernel_rfl) fun vs objs K r h => by
    replace h : board_filesp9 vs objs K = some r := h
    unfold board_filesp9 at h
    split at h
    · skip
      obtain ⟨t, h1, h2⟩ := ob_ok h
      rw [← board_filesl9_eq] at h1
      refine ⟨_, board_filesl9d, t, many, h1, fun e vs' objs' hd => ?_⟩
      unfold board_filesl9d at hd
      split at hd
      · skip
        cases hd
        exact h2
      · skip
        cases hd
        exact h2
      · cases hd
    · cases h

noncomputable def board_filesd : V → List Obj → Option (Int) := fun v objs => match v, objs with
  | V.s (S.i IntKind.i64 y0), [] => some (y0)
  | _, _ => none

theorem board_files_eq (x0 : List Int) (x1 : List Int) (x2 : Int) : fnE board_filesc Tryd.f100 ([V.agg [Seg.arr IntKind.i8 81 x0, Seg.arr IntKind.i8 16 x1, Seg.one [S.i IntKind.i8 x2]]]) ([]) board_filesd = board_files x0 x1 x2 := by kernel_rfl

noncomputable def board_filesa {R : Type} (o : Orc) (vs : List V) (objs : List Obj) (K : Bool → V → List Obj → Option R) : Option R := match vs, objs with
  | [V.agg [Seg.arr IntKind.i8 81 x0, Seg.arr IntKind.i8 16 x1, Seg.one [S.i IntKind.i8 x2]]], [] => ob (board_files x0 x1 x2) fun y0 => K false (V.s (S.i IntKind.i64 y0)) ([])
  | _, _ => o 100 vs objs K

noncomputable def board_fileso (o : Orc) : Orc := hook 100 (board_filesa o) o

theorem board_fileso_ok (o : Orc) (ho : OSound Tryd.prog o) : OSound Tryd.prog (board_fileso o) := hook_ok ho fun vs objs K r h => by
  unfold board_filesa at h
  split at h
  · skip
    obtain ⟨t, h1, h2⟩ := ob_ok h
    refine anyOK_of mixed board_filesc_ok (fn := Tryd.f100) (b := (Tryd.f100).body.getD .skip) (by kernel_rfl) (by kernel_rfl) (by kernel_rfl) ((board_files_eq _ _ _).trans h1) (m := 0) rfl (AllP.of (l' := [loopOf Tryd.f100 2, loopOf Tryd.f100 9]) (by kernel_rfl) ⟨board_filess2, board_filess9, trivial⟩) fun v objs' hd => ?_
    unfold board_filesd at hd
    split at hd
    · skip
      cases hd
      exact h2
    · cases hd
  · exact ho _ _ _ _ _ h

noncomputable def board_Checkl6d : Ex → List V → List Obj → Option ((Int × List Int × List Int × Int × List Int × List Int) ⊕ (List Int × List Int × Int × List Int × List Int)) := fun e vs objs => match e, vs, objs with
  | Ex.ret, [V.s (S.ptr 0 0 none 0), V.s (S.i IntKind.i64 y0), V.s (S.ptr 1 0 none 0), V.s (S.ptr 2 0 none 0)], [Obj.cells 28 [Seg.arr IntKind.i8 81 y1, Seg.arr IntKind.i8 16 y2, Seg.one [S.i IntKind.i8 y3]], Obj.cells 83 [Seg.arr IntKind.i64 9 y4], Obj.cells 109 [Seg.arr IntKind.i64 2 y5]] => some (Sum.inl (y0, y1, y2, y3, y4, y5))
  | Ex.exit 0, [V.s (S.ptr 0 0 none 0), V.s S.bad, V.s (S.ptr 1 0 none 0), V.s (S.ptr 2 0 none 0)], [Obj.cells 28 [Seg.arr IntKind.i8 81 y0, Seg.arr IntKind.i8 16 y1, Seg.one [S.i IntKind.i8 y2]], Obj.cells 83 [Seg.arr IntKind.i64 9 y3], Obj.cells 109 [Seg.arr IntKind.i64 2 y4]] => some (Sum.inr (y0, y1, y2, y3, y4))
  | _, _, _ => none

noncomputable def board_Checkl20d : Ex → List V → List Obj → Option ((Int × List Int × Int × List Int × List Int × Int × List Int × List Int) ⊕ (List Int × Int × List Int × List Int × Int × List Int × List Int)) := fun e vs objs => match e, vs, objs with
  | Ex.ret, [V.s (S.ptr 0 0 none 0), V.s (S.i IntKind.i64 y0), V.s (S.ptr 1 0 none 0), V.s (S.ptr 2 0 none 0), V.agg [Seg.arr IntKind.i8 16 y1], V.s (S.i IntKind.i64 y2)], [Obj.cells 28 [Seg.arr IntKind.i8 81 y3, Seg.arr IntKind.i8 16 y4, Seg.one [S.i IntKind.i8 y5]], Obj.cells 83 [Seg.arr IntKind.i64 9 y6], Obj.cells 109 [Seg.arr IntKind.i64 2 y7]] => some (Sum.inl (y0, y1, y2, y3, y4, y5, y6, y7))
  | Ex.exit 9, [V.s (S.ptr 0 0 none 0), V.s S.bad, V.s (S.ptr 1 0 none 0), V.s (S.ptr 2 0 none 0), V.agg [Seg.arr IntKind.i8 16 y0], V.s (S.i IntKind.i64 y1)], [Obj.cells 28 [Seg.arr IntKind.i8 81 y2, Seg.arr IntKind.i8 16 y3, Seg.one [S.i IntKind.i8 y4]], Obj.cells 83 [Seg.arr IntKind.i64 9 y5], Obj.cells 109 [Seg.arr IntKind.i64 2 y6]] => some (Sum.inr (y0, y1, y2, y3, y4, y5, y6))
  | _, _, _ => none

noncomputable def board_Checkl17d : Ex → List V → List Obj → Option ((Int × List Int × List Int × Int × List Int × List Int) ⊕ (List Int × List Int × Int × List Int × List Int)) := fun e vs objs => match e, vs, objs with
  | Ex.ret, [V.s (S.ptr 0 0 none 0), V.s (S.i IntKind.i64 y0), V.s (S.ptr 1 0 none 0), V.s (S.ptr 2 0 none 0)], [Obj.cells 28 [Seg.arr IntKind.i8 81 y1, Seg.arr IntKind.i8 16 y2, Seg.one [S.i IntKind.i8 y3]], Obj.cells 83 [Seg.arr IntKind.i64 9 y4], Obj.cells 109 [Seg.arr IntKind.i64 2 y5]] => some (Sum.inl (y0, y1, y2, y3, y4, y5))
  | Ex.exit 7, [V.s (S.ptr 0 0 none 0), V.s S.bad, V.s (S.ptr 1 0 none 0), V.s (S.ptr 2 0 none 0)], [Obj.cells 28 [Seg.arr IntKind.i8 81 y0, Seg.arr IntKind.i8 16 y1, Seg.one [S.i IntKind.i8 y2]], Obj.cells 83 [Seg.arr IntKind.i64 9 y3], Obj.cells 109 [Seg.arr IntKind.i64 2 y4]] => some (Sum.inr (y0, y1, y2, y3, y4))
  | _, _, _ => none

noncomputable def board_Checkl30d : Ex → List V → List Obj → Option ((Int × List Int × List Int × Int) ⊕ (List Int × List Int × Int)) := fun e vs objs => match e, vs, objs with
  | Ex.ret, [V.s (S.ptr 0 0 none 0), V.s (S.i IntKind.i64 y0)], [Obj.cells 28 [Seg.arr IntKind.i8 81 y1, Seg.arr IntKind.i8 16 y2, Seg.one [S.i IntKind.i8 y3]]] => some (Sum.inl (y0, y1, y2, y3))
  | Ex.exit 11, [V.s (S.ptr 0 0 none 0), V.s S.bad], [Obj.cells 28 [Seg.arr IntKind.i8 81 y0, Seg.arr IntKind.i8 16 y1, Seg.one [S.i IntKind.i8 y2]]] => some (Sum.inr (y0, y1, y2))
  | _, _, _ => none

noncomputable def board_Checkp6 {R : Type} (vs : List V) (objs : List Obj) (K : Ex → List V → List Obj → Option R) : Option R := match vs, objs with
  | [V.s (S.ptr 0 0 none 0), V.s (S.ptr 1 0 none 0), V.s (S.ptr 2 0 none 0), V.agg [Seg.arr IntKind.i8 81 x0], V.s (S.i IntKind.i64 x1)], [Obj.cells 28 [Seg.arr IntKind.i8 81 x2, Seg.arr IntKind.i8 16 x3, Seg.one [S.i IntKind.i8 x4]], Obj.cells 83 [Seg.arr IntKind.i64 9 x5], Obj.cells 109 [Seg.arr IntKind.i64 2 x6]] => ob (board_Checkl6 many x0 x1 x2 x3 x4 x5 x6) fun t0 => sw t0 (fun z => K (Ex.ret) ([V.s (S.ptr 0 0 none 0), V.s (S.i IntKind.i64 (z.1)), V.s (S.ptr 1 0 none 0), V.s (S.ptr 2 0 none 0)]) ([Obj.cells 28 [Seg.arr IntKind.i8 81 (z.2.1), Seg.arr IntKind.i8 16 (z.2.2.1), Seg.one [S.i IntKind.i8 (z.2.2.2.1)]], Obj.cells 83 [Seg.arr IntKind.i64 9 (z.2.2.2.2.1)], Obj.cells 109 [Seg.arr IntKind.i64 2 (z.2.2.2.2.2)]])) (fun z => K (Ex.exit 0) ([V.s (S.ptr 0 0 none 0), V.s S.bad, V.s (S.ptr 1 0 none 0), V.s (S.ptr 2 0 none 0)]) ([Obj.cells 28 [Seg.arr IntKind.i8 81 (z.1), Seg.arr IntKind.i8 16 (z.2.1), Seg.one [S.i IntKind.i8 (z.2.2.1)]], Obj.cells 83 [Seg.arr IntKind.i64 9 (z.2.2.2.1)], Obj.cells 109 [Seg.arr IntKind.i64 2 (z.2.2.2.2)]]))
  | _, _ => none

noncomputable def board_Checkp20 {R : Type} (vs : List V) (objs : List Obj) (K : Ex → List V → List Obj → Option R) : Option R := match vs, objs with
  | [V.s (S.ptr 0 0 none 0), V.s (S.ptr 1 0 none 0), V.s (S.ptr 2 0 none 0), V.agg [Seg.arr IntKind.i8 16 x0], V.s (S.i IntKind.i64 x1), V.agg [Seg.arr IntKind.i8 8 x2], V.s (S.i IntKind.i64 x3)], [Obj.cells 28 [Seg.arr IntKind.i8 81 x4, Seg.arr IntKind.i8 16 x5, Seg.one [S.i IntKind.i8 x6]], Obj.cells 83 [Seg.arr IntKind.i64 9 x7], Obj.cells 109 [Seg.arr IntKind.i64 2 x8]] => ob (board_Checkl20 many x0 x1 x2 x3 x4 x5 x6 x7 x8) fun t0 => sw t0 (fun z => K (Ex.ret) ([V.s (S.ptr 0 0 none 0), V.s (S.i IntKind.i64 (z.1)), V.s (S.ptr 1 0 none 0), V.s (S.ptr 2 0 none 0), V.agg [Seg.arr IntKind.i8 16 (z.2.1)], V.s (S.i IntKind.i64 (z.2.2.1))]) ([Obj.cells 28 [Seg.arr IntKind.i8 81 (z.2.2.2.1), Seg.arr IntKind.i8 16 (z.2.2.2.2.1), Seg.one [S.i IntKind.i8 (z.2.2.2.2.2.1)]], Obj.cells 83 [Seg.arr IntKind.i64 9 (z.2.2.2.2.2.2.1)], Obj.cells 109 [Seg.arr IntKind.i64 2 (z.2.2.2.2.2.2.2)]])) (fun z => K (Ex.exit 9) ([V.s (S.ptr 0 0 none 0), V.s S.bad, V.s (S.ptr 1 0 none 0), V.s (S.ptr 2 0 none 0), V.agg [Seg.arr IntKind.i8 16 (z.1)], V.s (S.i IntKind.i64 (z.2.1))]) ([Obj.cells 28 [Seg.arr IntKind.i8 81 (z.2.2.1), Seg.arr IntKind.i8 16 (z.2.2.2.1), Seg.one [S.i IntKind.i8 (z.2.2.2.2.1)]], Obj.cells 83 [Seg.arr IntKind.i64 9 (z.2.2.2.2.2.1)], Obj.cells 109 [Seg.arr IntKind.i64 2 (z.2.2.2.2.2.2)]]))
  | _, _ => none

noncomputable def board_Checkp17 {R : Type} (vs : List V) (objs : List Obj) (K : Ex → List V → List Obj → Option R) : Option R := match vs, objs with
  | [V.s (S.ptr 0 0 none 0), V.s (S.ptr 1 0 none 0), V.s (S.ptr 2 0 none 0), V.agg [Seg.arr IntKind.i8 16 x0], V.s (S.i IntKind.i64 x1)], [Obj.cells 28 [Seg.arr IntKind.i8 81 x2, Seg.arr IntKind.i8 16 x3, Seg.one [S.i IntKind.i8 x4]], Obj.cells 83 [Seg.arr IntKind.i64 9 x5], Obj.cells 109 [Seg.arr IntKind.i64 2 x6]] => ob (board_Checkl17 many x0 x1 x2 x3 x4 x5 x6) fun t0 => sw t0 (fun z => K (Ex.ret) ([V.s (S.ptr 0 0 none 0), V.s (S.i IntKind.i64 (z.1)), V.s (S.ptr 1 0 none 0), V.s (S.ptr 2 0 none 0)]) ([Obj.cells 28 [Seg.arr IntKind.i8 81 (z.2.1), Seg.arr IntKind.i8 16 (z.2.2.1), Seg.one [S.i IntKind.i8 (z.2.2.2.1)]], Obj.cells 83 [Seg.arr IntKind.i64 9 (z.2.2.2.2.1)], Obj.cells 109 [Seg.arr IntKind.i64 2 (z.2.2.2.2.2)]])) (fun z => K (Ex.exit 7) ([V.s (S.ptr 0 0 none 0), V.s S.bad, V.s (S.ptr 1 0 none 0), V.s (S.ptr 2 0 none 0)]) ([Obj.cells 28 [Seg.arr IntKind.i8 81 (z.1), Seg.arr IntKind.i8 16 (z.2.1), Seg.one [S.i IntKind.i8 (z.2.2.1)]], Obj.cells 83 [Seg.arr IntKind.i64 9 (z.2.2.2.1)], Obj.cells 109 [Seg.arr IntKind.i64 2 (z.2.2.2.2)]]))
  | _, _ => none

noncomputable def board_Checkp30 {R : Type} (vs : List V) (objs : List Obj) (K : Ex → List V → List Obj → Option R) : Option R := match vs, objs with
  | [V.s (S.ptr 0 0 none 0), V.s (S.ptr 1 0 none 0), V.s (S.i IntKind.i64 x0)], [Obj.cells 28 [Seg.arr IntKind.i8 81 x1, Seg.arr IntKind.i8 16 x2, Seg.one [S.i IntKind.i8 x3]], Obj.cells 83 [Seg.arr IntKind.i64 9 x4]] => ob (board_Checkl30 many x0 x1 x2 x3 x4) fun t0 => sw t0 (fun z => K (Ex.ret) ([V.s (S.ptr 0 0 none 0), V.s (S.i IntKind.i64 (z.1))]) ([Obj.cells 28 [Seg.arr IntKind.i8 81 (z.2.1), Seg.arr IntKind.i8 16 (z.2.2.1), Seg.one [S.i IntKind.i8 (z.2.2.2)]]])) (fun z => K (Ex.exit 11) ([V.s (S.ptr 0 0 none 0), V.s S.bad]) ([Obj.cells 28 [Seg.arr IntKind.i8 81 (z.1), Seg.arr IntKind.i8 16 (z.2.1), Seg.one [S.i IntKind.i8 (z.2.2)]]]))
  | _, _ => none

noncomputable def board_Checklp : {R : Type} → Nat → List V → List Obj → (Ex → List V → List Obj → Option R) → Option R := fun q vs objs K => bif Nat.beq q 6 then board_Checkp6 vs objs K else bif Nat.beq q 20 then board_Checkp20 vs objs K else bif Nat.beq q 17 then board_Checkp17 vs objs K else bif Nat.beq q 30 then board_Checkp30 vs objs K else none

noncomputable def board_Checkc : Ctx := mkC 98 ((board_fileso (piece_Totalo (piece_Rawo (piece_Sideo (piece_Kindo oNil)))))) [(6, [1, 3, 4, 22, 23], [1, 2, 3, 4]), (17, [1, 3, 4, 51, 52], [1, 2, 3, 4]), (20, [1, 3, 4, 51, 52, 55, 56], [1, 2, 3, 4, 51, 52]), (30, [1, 3, 12], [1, 2])] board_Checklp

theorem board_Checkc_ok : CtxOK Tryd.prog board_Checkc := mkC_ok ((board_fileso_ok _ (piece_Totalo_ok _ (piece_Rawo_ok _ (piece_Sideo_ok _ (piece_Kindo_ok _ oNil_ok))))))

noncomputable def board_Checkl6r (f : Nat) (x0 : List Int) (x1 : Int) (x2 : List Int) (x3 : List Int) (x4 : Int) (x5 : List Int) (x6 : List Int) : Option ((Int × List Int × List Int × Int × List Int × List Int) ⊕ (List Int × List Int × Int × List Int × List Int)) := lrun board_Checkc 0 [1, 3, 4, 22, 23] [1, 2, 3, 4] (loopOf Tryd.f60 6) f ([V.s (S.ptr 0 0 none 0), V.s (S.ptr 1 0 none 0), V.s (S.ptr 2 0 none 0), V.agg [Seg.arr IntKind.i8 81 x0], V.s (S.i IntKind.i64 x1)]) ([Obj.cells 28 [Seg.arr IntKind.i8 81 x2, Seg.arr IntKind.i8 16 x3, Seg.one [S.i IntKind.i8 x4]], Obj.cells 83 [Seg.arr IntKind.i64 9 x5], Obj.cells 109 [Seg.arr IntKind.i64 2 x6]]) board_Checkl6d

theorem board_Checkl6_step (f : Nat) (x0 : List Int) (x1 : Int) (x2 : List Int) (x3 : List Int) (x4 : Int) (x5 : List Int) (x6 : List Int) : board_Checkl6r (f + 1) x0 x1 x2 x3 x4 x5 x6 = board_Checkl6s (board_Checkl6r f) x0 x1 x2 x3 x4 x5 x6 := by kernel_rfl

theorem board_Checkl6_eq : ∀ f, board_Checkl6r f = board_Checkl6 f
  | 0 => rfl
  | f + 1 => by funext x0 x1 x2 x3 x4 x5 x6; rw [board_Checkl6_step, board_Checkl6_eq f]; rfl

noncomputable def board_Checkl20r (f : Nat) (x0 : List Int) (x1 : Int) (x2 : List Int) (x3 : Int) (x4 : List Int) (x5 : List Int) (x6 : Int) (x7 : List Int) (x8 : List Int) : Option ((Int × List Int × Int × List Int × List Int × Int × List Int × List Int) ⊕ (List Int × Int × List Int × List Int × Int × List Int × List Int)) := lrun board_Checkc 0 [1, 3, 4, 51, 52, 55, 56] [1, 2, 3, 4, 51, 52] (loopOf Tryd.f60 20) f ([V.s (S.ptr 0 0 none 0), V.s (S.ptr 1 0 none 0), V.s (S.ptr 2 0 none 0), V.agg [Seg.arr IntKind.i8 16 x0], V.s (S.i IntKind.i64 x1), V.agg [Seg.arr IntKind.i8 8 x2], V.s (S.i IntKind.i64 x3)]) ([Obj.cells 28 [Seg.arr IntKind.i8 81 x4, Seg.arr IntKind.i8 16 x5, Seg.one [S.i IntKind.i8 x6]], Obj.cells 83 [Seg.arr IntKind.i64 9 x7], Obj.cells 109 [Seg.arr IntKind.i64 2 x8]]) board_Checkl20d

theorem board_Checkl20_step (f : Nat) (x0 : List Int) (x1 : Int) (x2 : List Int) (x3 : Int) (x4 : List Int) (x5 : List Int) (x6 : Int) (x7 : List Int) (x8 : List Int) : board_Checkl20r (f + 1) x0 x1 x2 x3 x4 x5 x6 x7 x8 = board_Checkl20s (board_Checkl20r f) x0 x1 x2 x3 x4 x5 x6 x7 x8 := by kernel_rfl

theorem board_Checkl20_eq : ∀ f, board_Checkl20r f = board_Checkl20 f
  | 0 => rfl
  | f + 1 => by funext x0 x1 x2 x3 x4 x5 x6 x7 x8; rw [board_Checkl20_step, board_Checkl20_eq f]; rfl

noncomputable def board_Checkl17r (f : Nat) (x0 : List Int) (x1 : Int) (x2 : List Int) (x3 : List Int) (x4 : Int) (x5 : List Int) (x6 : List Int) : Option ((Int × List Int × List Int × Int × List Int × List Int) ⊕ (List Int × List Int × Int × List Int × List Int)) := lrun board_Checkc 0 [1, 3, 4, 51, 52] [1, 2, 3, 4] (loopOf Tryd.f60 17) f ([V.s (S.ptr 0 0 none 0), V.s (S.ptr 1 0 none 0), V.s (S.ptr 2 0 none 0), V.agg [Seg.arr IntKind.i8 16 x0], V.s (S.i IntKind.i64 x1)]) ([Obj.cells 28 [Seg.arr IntKind.i8 81 x2, Seg.arr IntKind.i8 16 x3, Seg.one [S.i IntKind.i8 x4]], Obj.cells 83 [Seg.arr IntKind.i64 9 x5], Obj.cells 109 [Seg.arr IntKind.i64 2 x6]]) board_Checkl17d

theorem board_Checkl17_step (f : Nat) (x0 : List Int) (x1 : Int) (x2 : List Int) (x3 : List Int) (x4 : Int) (x5 : List Int) (x6 : List Int) : board_Checkl17r (f + 1) x0 x1 x2 x3 x4 x5 x6 = board_Checkl17s (board_Checkl17r f) x0 x1 x2 x3 x4 x5 x6 := by kernel_rfl

theorem board_Checkl17_eq : ∀ f, board_Checkl17r f = board_Checkl17 f
  | 0 => rfl
  | f + 1 => by funext x0 x1 x2 x3 x4 x5 x6; rw [board_Checkl17_step, board_Checkl17_eq f]; rfl

noncomputable def board_Checkl30r (f : Nat) (x0 : Int) (x1 : List Int) (x2 : List Int) (x3 : Int) (x4 : List Int) : Option ((Int × List Int × List Int × Int) ⊕ (List Int × List Int × Int)) := lrun board_Checkc 0 [1, 3, 12] [1, 2] (loopOf Tryd.f60 30) f ([V.s (S.ptr 0 0 none 0), V.s (S.ptr 1 0 none 0), V.s (S.i IntKind.i64 x0)]) ([Obj.cells 28 [Seg.arr IntKind.i8 81 x1, Seg.arr IntKind.i8 16 x2, Seg.one [S.i IntKind.i8 x3]], Obj.cells 83 [Seg.arr IntKind.i64 9 x4]]) board_Checkl30d

theorem board_Checkl30_step (f : Nat) (x0 : Int) (x1 : List Int) (x2 : List Int) (x3 : Int) (x4 : List Int) : board_Checkl30r (f + 1) x0 x1 x2 x3 x4 = board_Checkl30s (board_Checkl30r f) x0 x1 x2 x3 x4 := by kernel_rfl

theorem board_Checkl30_eq : ∀ f, board_Checkl30r f = board_Checkl30 f
  | 0 => rfl
  | f + 1 => by funext x0 x1 x2 x3 x4; rw [board_Checkl30_step, board_Checkl30_eq f]; rfl

theorem board_Checks6 : LoopSound Tryd.prog board_Checkc 0 (loopOf Tryd.f60 6) :=
  loopSound_by mixed board_Checkc_ok (AllP.of (l' := []) (by kernel_rfl) trivial) (q := 6) (kin := [1, 3, 4, 22, 23]) (kout := [1, 2, 3, 4]) (by kernel_rfl) (by kernel_rfl) fun vs objs K r h => by
    replace h : board_Checkp6 vs objs K = some r := h
    unfold board_Checkp6 at h
    split at h
    · skip
      obtain ⟨t, h1, h2⟩ := ob_ok h
      rw [← board_Checkl6_eq] at h1
      refine ⟨_, board_Checkl6d, t, many, h1, fun e vs' objs' hd => ?_⟩
      unfold board_Checkl6d at hd
      split at hd
      · skip
        cases hd
        exact h2
      · skip
        cases hd
        exact h2
      · cases hd
    · cases h

theorem board_Checks20 : LoopSound Tryd.prog board_Checkc 0 (loopOf Tryd.f60 20) :=
  loopSound_by mixed board_Checkc_ok (AllP.of (l' := []) (by kernel_rfl) trivial) (q := 20) (kin := [1, 3, 4, 51, 52, 55, 56]) (kout := [1, 2, 3, 4, 51, 52]) (by kernel_rfl) (by kernel_rfl) fun vs objs K r h => by
    replace h : board_Checkp20 vs objs K = some r := h
    unfold board_Checkp20 at h
    split at h
    · skip
      obtain ⟨t, h1, h2⟩ := ob_ok h
      rw [← board_Checkl20_eq] at h1
      refine ⟨_, board_Checkl20d, t, many, h1, fun e vs' objs' hd => ?_⟩
      unfold board_Checkl20d at hd
      split at hd
      · skip
        cases hd
        exact h2
      · skip
        cases hd
        exact h2
      · cases hd
    · cases h

theorem board_Checks30 : LoopSound Tryd.prog board_Checkc 0 (loopOf Tryd.f60 30) :=
  loopSound_by mixed board_Checkc_ok (AllP.of (l' := []) (by kernel_rfl) trivial) (q := 30) (kin := [1, 3, 12]) (kout := [1, 2]) (by kernel_rfl) (by kernel_rfl) fun vs objs K r h => by
    replace h : board_Checkp30 vs objs K = some r := h
    unfold board_Checkp30 at h
    split at h
    · skip
      obtain ⟨t, h1, h2⟩ := ob_ok h
      rw [← board_Checkl30_eq] at h1
      refine ⟨_, board_Checkl30d, t, many, h1, fun e vs' objs' hd => ?_⟩
      unfold board_Checkl30d at hd
      split at hd
      · skip
        cases hd
        exact h2
      · skip
        cases hd
        exact h2
      · cases hd
    · cases h

theorem board_Checks17 : LoopSound Tryd.prog board_Checkc 0 (loopOf Tryd.f60 17) :=
  loopSound_by mixed board_Checkc_ok (AllP.of (l' := [loopOf Tryd.f60 20]) (by kernel_rfl) ⟨board_Checks20, trivial⟩) (q := 17) (kin := [1, 3, 4, 51, 52]) (kout := [1, 2, 3, 4]) (by kernel_rfl) (by kernel_rfl) fun vs objs K r h => by
    replace h : board_Checkp17 vs objs K = some r := h
    unfold board_Checkp17 at h
    split at h
    · skip
      obtain ⟨t, h1, h2⟩ := ob_ok h
      rw [← board_Checkl17_eq] at h1
      refine ⟨_, board_Checkl17d, t, many, h1, fun e vs' objs' hd => ?_⟩
      unfold board_Checkl17d at hd
      split at hd
      · skip
        cases hd
        exact h2
      · skip
        cases hd
        exact h2
      · cases hd
    · cases h

noncomputable def board_Checkd : V → List Obj → Option (Int) := fun v objs => match v, objs with
  | V.s (S.i IntKind.i64 y0), [] => some (y0)
  | _, _ => none

theorem board_Check_eq (x0 : List Int) (x1 : List Int) (x2 : Int) : fnE board_Checkc Tryd.f60 ([V.agg [Seg.arr IntKind.i8 81 x0, Seg.arr IntKind.i8 16 x1, Seg.one [S.i IntKind.i8 x2]]]) ([]) board_Checkd = board_Check x0 x1 x2 := by kernel_rfl

noncomputable def board_Checka {R : Type} (o : Orc) (vs : List V) (objs : List Obj) (K : Bool → V → List Obj → Option R) : Option R := match vs, objs with
  | [V.agg [Seg.arr IntKind.i8 81 x0, Seg.arr IntKind.i8 16 x1, Seg.one [S.i IntKind.i8 x2]]], [] => ob (board_Check x0 x1 x2) fun y0 => K false (V.s (S.i IntKind.i64 y0)) ([])
  | _, _ => o 60 vs objs K

noncomputable def board_Checko (o : Orc) : Orc := hook 60 (board_Checka o) o

theorem board_Checko_ok (o : Orc) (ho : OSound Tryd.prog o) : OSound Tryd.prog (board_Checko o) := hook_ok ho fun vs objs K r h => by
  unfold board_Checka at h
  split at h
  · skip
    obtain ⟨t, h1, h2⟩ := ob_ok h
    refine anyOK_of mixed board_Checkc_ok (fn := Tryd.f60) (b := (Tryd.f60).body.getD .skip) (by kernel_rfl) (by kernel_rfl) (by kernel_rfl) ((board_Check_eq _ _ _).trans h1) (m := 0) rfl (AllP.of (l' := [loopOf Tryd.f60 6, loopOf Tryd.f60 17, loopOf Tryd.f60 30]) (by kernel_rfl) ⟨board_Checks6, board_Checks17, board_Checks30, trivial⟩) fun v objs' hd => ?_
    unfold board_Checkd at hd
    split at hd
    · skip
      cases hd
      exact h2
    · cases hd
  · exact ho _ _ _ _ _ h

noncomputable def attack_Checkc : Ctx := mkC 16 ((attack_InChecko (board_Newo (board_Checko oNil)))) [] lpNil

theorem attack_Checkc_ok : CtxOK Tryd.prog attack_Checkc := mkC_ok ((attack_InChecko_ok _ (board_Newo_ok _ (board_Checko_ok _ oNil_ok))))

noncomputable def attack_Checkd : V → List Obj → Option (Int) := fun v objs => match v, objs with
  | V.s (S.i IntKind.i64 y0), [] => some (y0)
  | _, _ => none

theorem attack_Check_eq (x0 : List Int) (x1 : List Int) (x2 : Int) : fnE attack_Checkc Tryd.f16 ([V.agg [Seg.arr IntKind.i8 81 x0, Seg.arr IntKind.i8 16 x1, Seg.one [S.i IntKind.i8 x2]]]) ([]) attack_Checkd = attack_Check x0 x1 x2 := by kernel_rfl

noncomputable def attack_Checka {R : Type} (o : Orc) (vs : List V) (objs : List Obj) (K : Bool → V → List Obj → Option R) : Option R := match vs, objs with
  | [V.agg [Seg.arr IntKind.i8 81 x0, Seg.arr IntKind.i8 16 x1, Seg.one [S.i IntKind.i8 x2]]], [] => ob (attack_Check x0 x1 x2) fun y0 => K false (V.s (S.i IntKind.i64 y0)) ([])
  | _, _ => o 16 vs objs K

noncomputable def attack_Checko (o : Orc) : Orc := hook 16 (attack_Checka o) o

theorem attack_Checko_ok (o : Orc) (ho : OSound Tryd.prog o) : OSound Tryd.prog (attack_Checko o) := hook_ok ho fun vs objs K r h => by
  unfold attack_Checka at h
  split at h
  · skip
    obtain ⟨t, h1, h2⟩ := ob_ok h
    refine anyOK_of mixed attack_Checkc_ok (fn := Tryd.f16) (b := (Tryd.f16).body.getD .skip) (by kernel_rfl) (by kernel_rfl) (by kernel_rfl) ((attack_Check_eq _ _ _).trans h1) (m := 0) rfl (AllP.of (l' := []) (by kernel_rfl) trivial) fun v objs' hd => ?_
    unfold attack_Checkd at hd
    split at hd
    · skip
      cases hd
      exact h2
    · cases hd
  · exact ho _ _ _ _ _ h


end Go.Kk.KkGA
