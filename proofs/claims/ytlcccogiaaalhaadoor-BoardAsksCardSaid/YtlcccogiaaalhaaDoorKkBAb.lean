/- Printed by a tool of this project (KkGen): the program's functions come to the plain ones. -/
import Derived.Test.YtlcccogiaaalhaaDoorKkBA
namespace Go.Kk.KkBA
open Go.Proofs Go.Kk.Pl
set_option maxRecDepth 100000
set_option maxHeartbeats 4000000

noncomputable def board_Piecesc : Ctx := mkC 18 (oNil) [] lpNil

theorem board_Piecesc_ok : CtxOK Tryd.prog board_Piecesc := mkC_ok (oNil_ok)

noncomputable def board_Piecesd : V → List Obj → Option (Int × Int) := fun v objs => match v, objs with
  | V.agg [Seg.one [S.i IntKind.u64 y0, S.i IntKind.u64 y1]], [] => some (y0, y1)
  | _, _ => none

theorem board_Pieces_eq (x0 : Int) (x1 : List Int) (x2 : List Int) (x3 : Int) (x4 : List (List Int)) (x5 : List (List Int)) : fnE board_Piecesc Tryd.f18 ([V.s (S.ptr 0 0 none 0), V.s (S.i IntKind.i64 x0)]) ([Obj.rcells 44 [Seg.arr IntKind.i8 81 x1, Seg.arr IntKind.i8 16 x2, Seg.one [S.i IntKind.i8 x3], Seg.rows [.i .u64, .i .u64] 32 x4, Seg.rows [.i .u64, .i .u64] 2 x5]]) (pureD 1 board_Piecesd) = board_Pieces x0 x1 x2 x3 x4 x5 := by kernel_rfl

noncomputable def board_Piecesa {R : Type} (o : Orc) (vs : List V) (objs : List Obj) (K : Bool → V → List Obj → Option R) : Option R := match vs, List.map Obj.toRO objs with
  | [V.s (S.ptr 0 0 none 0), V.s (S.i IntKind.i64 x0)], [Obj.rcells 44 [Seg.arr IntKind.i8 81 x1, Seg.arr IntKind.i8 16 x2, Seg.one [S.i IntKind.i8 x3], Seg.rows [.i .u64, .i .u64] 32 x4, Seg.rows [.i .u64, .i .u64] 2 x5]] => ob (board_Pieces x0 x1 x2 x3 x4 x5) fun z => K true (V.agg [Seg.one [S.i IntKind.u64 (z.1), S.i IntKind.u64 (z.2)]]) ([])
  | _, _ => o 18 vs objs K

noncomputable def board_Pieceso (o : Orc) : Orc := hook 18 (board_Piecesa o) o

theorem board_Pieceso_ok (o : Orc) (ho : OSound Tryd.prog o) : OSound Tryd.prog (board_Pieceso o) := hook_ok ho fun vs objs K r h => by
  unfold board_Piecesa at h
  split at h
  · skip
    have hq : List.map Obj.toRO objs = _ := (by rename_i hq; first | exact hq | assumption)
    obtain ⟨t, h1, h2⟩ := ob_ok h
    refine purOK_by mixed board_Piecesc_ok (m := 1) (fn := Tryd.f18) (b := (Tryd.f18).body.getD .skip) (by kernel_rfl) (by kernel_rfl) (by kernel_rfl) hq (by kernel_rfl) (by kernel_rfl) (AllP.of (l' := []) (by kernel_rfl) trivial) ((board_Pieces_eq _ _ _ _ _ _).trans h1) fun v objs' hd => ?_
    unfold board_Piecesd at hd
    split at hd
    · skip
      cases hd
      exact h2
    · cases hd
  · exact ho _ _ _ _ _ h

noncomputable def board_Handc : Ctx := mkC 31 (oNil) [] lpNil

theorem board_Handc_ok : CtxOK Tryd.prog board_Handc := mkC_ok (oNil_ok)

noncomputable def board_Handd : V → List Obj → Option (Int) := fun v objs => match v, objs with
  | V.s (S.i IntKind.i64 y0), [] => some (y0)
  | _, _ => none

theorem board_Hand_eq (x0 : Int) (x1 : Int) (x2 : List Int) (x3 : List Int) (x4 : Int) (x5 : List (List Int)) (x6 : List (List Int)) : fnE board_Handc Tryd.f29 ([V.s (S.ptr 0 0 none 0), V.s (S.i IntKind.i64 x0), V.s (S.i IntKind.i64 x1)]) ([Obj.rcells 44 [Seg.arr IntKind.i8 81 x2, Seg.arr IntKind.i8 16 x3, Seg.one [S.i IntKind.i8 x4], Seg.rows [.i .u64, .i .u64] 32 x5, Seg.rows [.i .u64, .i .u64] 2 x6]]) (pureD 1 board_Handd) = board_Hand x0 x1 x2 x3 x4 x5 x6 := by kernel_rfl

noncomputable def board_Handa {R : Type} (o : Orc) (vs : List V) (objs : List Obj) (K : Bool → V → List Obj → Option R) : Option R := match vs, List.map Obj.toRO objs with
  | [V.s (S.ptr 0 0 none 0), V.s (S.i IntKind.i64 x0), V.s (S.i IntKind.i64 x1)], [Obj.rcells 44 [Seg.arr IntKind.i8 81 x2, Seg.arr IntKind.i8 16 x3, Seg.one [S.i IntKind.i8 x4], Seg.rows [.i .u64, .i .u64] 32 x5, Seg.rows [.i .u64, .i .u64] 2 x6]] => ob (board_Hand x0 x1 x2 x3 x4 x5 x6) fun y0 => K true (V.s (S.i IntKind.i64 y0)) ([])
  | _, _ => o 29 vs objs K

noncomputable def board_Hando (o : Orc) : Orc := hook 29 (board_Handa o) o

theorem board_Hando_ok (o : Orc) (ho : OSound Tryd.prog o) : OSound Tryd.prog (board_Hando o) := hook_ok ho fun vs objs K r h => by
  unfold board_Handa at h
  split at h
  · skip
    have hq : List.map Obj.toRO objs = _ := (by rename_i hq; first | exact hq | assumption)
    obtain ⟨t, h1, h2⟩ := ob_ok h
    refine purOK_by mixed board_Handc_ok (m := 1) (fn := Tryd.f29) (b := (Tryd.f29).body.getD .skip) (by kernel_rfl) (by kernel_rfl) (by kernel_rfl) hq (by kernel_rfl) (by kernel_rfl) (AllP.of (l' := []) (by kernel_rfl) trivial) ((board_Hand_eq _ _ _ _ _ _ _).trans h1) fun v objs' hd => ?_
    unfold board_Handd at hd
    split at hd
    · skip
      cases hd
      exact h2
    · cases hd
  · exact ho _ _ _ _ _ h

noncomputable def set_Emptyc : Ctx := mkC 6 (oNil) [] lpNil

theorem set_Emptyc_ok : CtxOK Tryd.prog set_Emptyc := mkC_ok (oNil_ok)

noncomputable def set_Emptyd : V → List Obj → Option (Bool) := fun v objs => match v, objs with
  | V.s (S.b y0), [] => some (y0)
  | _, _ => none

theorem set_Empty_eq (x0 : Int) (x1 : Int) : fnE set_Emptyc Tryd.f21 ([V.agg [Seg.one [S.i IntKind.u64 x0, S.i IntKind.u64 x1]]]) ([]) set_Emptyd = set_Empty x0 x1 := by kernel_rfl

noncomputable def set_Emptya {R : Type} (o : Orc) (vs : List V) (objs : List Obj) (K : Bool → V → List Obj → Option R) : Option R := match vs, objs with
  | [V.agg [Seg.one [S.i IntKind.u64 x0, S.i IntKind.u64 x1]]], [] => ob (set_Empty x0 x1) fun y0 => K false (V.s (S.b y0)) ([])
  | _, _ => o 21 vs objs K

noncomputable def set_Emptyo (o : Orc) : Orc := hook 21 (set_Emptya o) o

theorem set_Emptyo_ok (o : Orc) (ho : OSound Tryd.prog o) : OSound Tryd.prog (set_Emptyo o) := hook_ok ho fun vs objs K r h => by
  unfold set_Emptya at h
  split at h
  · skip
    obtain ⟨t, h1, h2⟩ := ob_ok h
    refine anyOK_of mixed set_Emptyc_ok (fn := Tryd.f21) (b := (Tryd.f21).body.getD .skip) (by kernel_rfl) (by kernel_rfl) (by kernel_rfl) ((set_Empty_eq _ _).trans h1) (m := 0) rfl (AllP.of (l' := []) (by kernel_rfl) trivial) fun v objs' hd => ?_
    unfold set_Emptyd at hd
    split at hd
    · skip
      cases hd
      exact h2
    · cases hd
  · exact ho _ _ _ _ _ h

noncomputable def law05_BoardAsksl7d : Ex → List V → List Obj → Option ((Int × Bool × List Int × List Int × Int × List (List Int) × List (List Int)) ⊕ (Int × List Int × List Int × Int × List (List Int) × List (List Int))) := fun e vs objs => match e, vs, objs with
  | Ex.ret, [V.s (S.i IntKind.i64 y0), V.s (S.b y1), V.s (S.ptr 0 0 none 0)], [Obj.cells 44 [Seg.arr IntKind.i8 81 y2, Seg.arr IntKind.i8 16 y3, Seg.one [S.i IntKind.i8 y4], Seg.rows [.i .u64, .i .u64] 32 y5, Seg.rows [.i .u64, .i .u64] 2 y6]] => some (Sum.inl (y0, y1, y2, y3, y4, y5, y6))
  | Ex.exit 0, [V.s (S.i IntKind.i64 y0), V.s S.bad, V.s (S.ptr 0 0 none 0)], [Obj.cells 44 [Seg.arr IntKind.i8 81 y1, Seg.arr IntKind.i8 16 y2, Seg.one [S.i IntKind.i8 y3], Seg.rows [.i .u64, .i .u64] 32 y4, Seg.rows [.i .u64, .i .u64] 2 y5]] => some (Sum.inr (y0, y1, y2, y3, y4, y5))
  | _, _, _ => none

noncomputable def law05_BoardAsksp7 {R : Type} (vs : List V) (objs : List Obj) (K : Ex → List V → List Obj → Option R) : Option R := match vs, objs with
  | [V.s (S.i IntKind.i64 x0), V.s (S.ptr 0 0 none 0), V.s (S.ptr 1 0 none 0), V.s (S.i IntKind.i64 x1)], [Obj.cells 28 [Seg.arr IntKind.i8 81 x2, Seg.arr IntKind.i8 16 x3, Seg.one [S.i IntKind.i8 x4]], Obj.cells 44 [Seg.arr IntKind.i8 81 x5, Seg.arr IntKind.i8 16 x6, Seg.one [S.i IntKind.i8 x7], Seg.rows [.i .u64, .i .u64] 32 x8, Seg.rows [.i .u64, .i .u64] 2 x9]] => ob (law05_BoardAsksl7 many x0 x1 x2 x3 x4 x5 x6 x7 x8 x9) fun t0 => sw t0 (fun z => K (Ex.ret) ([V.s (S.i IntKind.i64 (z.1)), V.s (S.b (z.2.1)), V.s (S.ptr 0 0 none 0)]) ([Obj.cells 44 [Seg.arr IntKind.i8 81 (z.2.2.1), Seg.arr IntKind.i8 16 (z.2.2.2.1), Seg.one [S.i IntKind.i8 (z.2.2.2.2.1)], Seg.rows [.i .u64, .i .u64] 32 (z.2.2.2.2.2.1), Seg.rows [.i .u64, .i .u64] 2 (z.2.2.2.2.2.2)]])) (fun z => K (Ex.exit 0) ([V.s (S.i IntKind.i64 (z.1)), V.s S.bad, V.s (S.ptr 0 0 none 0)]) ([Obj.cells 44 [Seg.arr IntKind.i8 81 (z.2.1), Seg.arr IntKind.i8 16 (z.2.2.1), Seg.one [S.i IntKind.i8 (z.2.2.2.1)], Seg.rows [.i .u64, .i .u64] 32 (z.2.2.2.2.1), Seg.rows [.i .u64, .i .u64] 2 (z.2.2.2.2.2)]]))
  | _, _ => none

noncomputable def law05_BoardAskslp : {R : Type} → Nat → List V → List Obj → (Ex → List V → List Obj → Option R) → Option R := fun q vs objs K => bif Nat.beq q 7 then law05_BoardAsksp7 vs objs K else none

noncomputable def law05_BoardAsksc : Ctx := mkC 94 ((board_Kingo (board_Pieceso (ref02_Rawo (set_Emptyo (board_Ofo (board_Hando (board_Ato (board_Newo (law05_beginso oNil)))))))))) [(7, [2, 3, 7, 8], [2, 6, 7])] law05_BoardAskslp

theorem law05_BoardAsksc_ok : CtxOK Tryd.prog law05_BoardAsksc := mkC_ok ((board_Kingo_ok _ (board_Pieceso_ok _ (ref02_Rawo_ok _ (set_Emptyo_ok _ (board_Ofo_ok _ (board_Hando_ok _ (board_Ato_ok _ (board_Newo_ok _ (law05_beginso_ok _ oNil_ok))))))))))

noncomputable def law05_BoardAsksl7r (f : Nat) (x0 : Int) (x1 : Int) (x2 : List Int) (x3 : List Int) (x4 : Int) (x5 : List Int) (x6 : List Int) (x7 : Int) (x8 : List (List Int)) (x9 : List (List Int)) : Option ((Int × Bool × List Int × List Int × Int × List (List Int) × List (List Int)) ⊕ (Int × List Int × List Int × Int × List (List Int) × List (List Int))) := lrun law05_BoardAsksc 0 [2, 3, 7, 8] [2, 6, 7] (loopOf Tryd.f8 7) f ([V.s (S.i IntKind.i64 x0), V.s (S.ptr 0 0 none 0), V.s (S.ptr 1 0 none 0), V.s (S.i IntKind.i64 x1)]) ([Obj.cells 28 [Seg.arr IntKind.i8 81 x2, Seg.arr IntKind.i8 16 x3, Seg.one [S.i IntKind.i8 x4]], Obj.cells 44 [Seg.arr IntKind.i8 81 x5, Seg.arr IntKind.i8 16 x6, Seg.one [S.i IntKind.i8 x7], Seg.rows [.i .u64, .i .u64] 32 x8, Seg.rows [.i .u64, .i .u64] 2 x9]]) law05_BoardAsksl7d

theorem law05_BoardAsksl7_step (f : Nat) (x0 : Int) (x1 : Int) (x2 : List Int) (x3 : List Int) (x4 : Int) (x5 : List Int) (x6 : List Int) (x7 : Int) (x8 : List (List Int)) (x9 : List (List Int)) : law05_BoardAsksl7r (f + 1) x0 x1 x2 x3 x4 x5 x6 x7 x8 x9 = law05_BoardAsksl7s (law05_BoardAsksl7r f) x0 x1 x2 x3 x4 x5 x6 x7 x8 x9 := by kernel_rfl

theorem law05_BoardAsksl7_eq : ∀ f, law05_BoardAsksl7r f = law05_BoardAsksl7 f
  | 0 => rfl
  | f + 1 => by funext x0 x1 x2 x3 x4 x5 x6 x7 x8 x9; rw [law05_BoardAsksl7_step, law05_BoardAsksl7_eq f]; rfl

theorem law05_BoardAskss7 : LoopSound Tryd.prog law05_BoardAsksc 0 (loopOf Tryd.f8 7) :=
  loopSound_by mixed law05_BoardAsksc_ok (AllP.of (l' := []) (by kernel_rfl) trivial) (q := 7) (kin := [2, 3, 7, 8]) (kout := [2, 6, 7]) (by kernel_rfl) (by kernel_rfl) fun vs objs K r h => by
    replace h : law05_BoardAsksp7 vs objs K = some r := h
    unfold law05_BoardAsksp7 at h
    split at h
    · skip
      obtain ⟨t, h1, h2⟩ := ob_ok h
      rw [← law05_BoardAsksl7_eq] at h1
      refine ⟨_, law05_BoardAsksl7d, t, many, h1, fun e vs' objs' hd => ?_⟩
      unfold law05_BoardAsksl7d at hd
      split at hd
      · skip
        cases hd
        exact h2
      · skip
        cases hd
        exact h2
      · cases hd
    · cases h

noncomputable def law05_BoardAsksd : V → List Obj → Option (Bool) := fun v objs => match v, objs with
  | V.s (S.b y0), [] => some (y0)
  | _, _ => none

theorem law05_BoardAsks_eq (x0 : List Int) (x1 : List Int) (x2 : Int) (x3 : Int) (x4 : Int) : fnE law05_BoardAsksc Tryd.f8 ([V.agg [Seg.arr IntKind.i8 81 x0, Seg.arr IntKind.i8 16 x1, Seg.one [S.i IntKind.i8 x2]], V.s (S.i IntKind.i64 x3), V.s (S.i IntKind.i64 x4)]) ([]) law05_BoardAsksd = law05_BoardAsks x0 x1 x2 x3 x4 := by kernel_rfl

noncomputable def law05_BoardAsksa {R : Type} (o : Orc) (vs : List V) (objs : List Obj) (K : Bool → V → List Obj → Option R) : Option R := match vs, objs with
  | [V.agg [Seg.arr IntKind.i8 81 x0, Seg.arr IntKind.i8 16 x1, Seg.one [S.i IntKind.i8 x2]], V.s (S.i IntKind.i64 x3), V.s (S.i IntKind.i64 x4)], [] => ob (law05_BoardAsks x0 x1 x2 x3 x4) fun y0 => K false (V.s (S.b y0)) ([])
  | _, _ => o 8 vs objs K

noncomputable def law05_BoardAskso (o : Orc) : Orc := hook 8 (law05_BoardAsksa o) o

theorem law05_BoardAsks_ok {vs : List V} {objs : List Obj} (x0 : List Int) (x1 : List Int) (x2 : Int) (x3 : Int) (x4 : Int) {R : Type} {K : Bool → V → List Obj → Option R} {r : R} (hv : vs = [V.agg [Seg.arr IntKind.i8 81 x0, Seg.arr IntKind.i8 16 x1, Seg.one [S.i IntKind.i8 x2]], V.s (S.i IntKind.i64 x3), V.s (S.i IntKind.i64 x4)]) (ho : objs = []) (h : ob (law05_BoardAsks x0 x1 x2 x3 x4) (fun y0 => K false (V.s (S.b y0)) ([])) = some r) :
    ∃ p v objs', K p v objs' = some r ∧ AnyOK Tryd.prog 8 vs objs p v objs' := by
  subst hv
  subst ho
  obtain ⟨t, h1, h2⟩ := ob_ok h
  refine anyOK_of mixed law05_BoardAsksc_ok (fn := Tryd.f8) (b := (Tryd.f8).body.getD .skip) (by kernel_rfl) (by kernel_rfl) (by kernel_rfl) ((law05_BoardAsks_eq _ _ _ _ _).trans h1) (m := 0) rfl (AllP.of (l' := [loopOf Tryd.f8 7]) (by kernel_rfl) ⟨law05_BoardAskss7, trivial⟩) fun v objs' hd => ?_
  unfold law05_BoardAsksd at hd
  split at hd
  · skip
    cases hd
    exact h2
  · cases hd

theorem law05_BoardAskso_ok (o : Orc) (ho : OSound Tryd.prog o) : OSound Tryd.prog (law05_BoardAskso o) := hook_ok ho fun vs objs K r h => by
  unfold law05_BoardAsksa at h
  split at h
  · skip
    obtain ⟨t, h1, h2⟩ := ob_ok h
    refine anyOK_of mixed law05_BoardAsksc_ok (fn := Tryd.f8) (b := (Tryd.f8).body.getD .skip) (by kernel_rfl) (by kernel_rfl) (by kernel_rfl) ((law05_BoardAsks_eq _ _ _ _ _).trans h1) (m := 0) rfl (AllP.of (l' := [loopOf Tryd.f8 7]) (by kernel_rfl) ⟨law05_BoardAskss7, trivial⟩) fun v objs' hd => ?_
    unfold law05_BoardAsksd at hd
    split at hd
    · skip
      cases hd
      exact h2
    · cases hd
  · exact ho _ _ _ _ _ h


end Go.Kk.KkBA
