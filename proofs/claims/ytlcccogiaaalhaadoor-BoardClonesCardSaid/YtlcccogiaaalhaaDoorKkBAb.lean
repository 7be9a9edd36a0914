/- Printed by a tool of this project (KkGen): the program's functions come to the plain ones. -/
import Derived.Test.YtlcccogiaaalhaaDoorKkBA
namespace Go.Kk.KkBA
open Go.Proofs Go.Kk.Pl
set_option maxRecDepth 100000
set_option maxHeartbeats 4000000

noncomputable def board_Clonec : Ctx := mkC 7 (oNil) [] lpNil

theorem board_Clonec_ok : CtxOK Tryd.prog board_Clonec := mkC_ok (oNil_ok)

noncomputable def board_Cloned : V → List Obj → Option (List Int × List Int × Int × List (List Int) × List (List Int)) := fun v objs => match v, objs with
  | V.s (S.ptr 1 0 none 0), [Obj.cells 44 [Seg.arr IntKind.i8 81 y0, Seg.arr IntKind.i8 16 y1, Seg.one [S.i IntKind.i8 y2], Seg.rows [.i .u64, .i .u64] 32 y3, Seg.rows [.i .u64, .i .u64] 2 y4]] => some (y0, y1, y2, y3, y4)
  | _, _ => none

theorem board_Clone_eq (x0 : List Int) (x1 : List Int) (x2 : Int) (x3 : List (List Int)) (x4 : List (List Int)) : fnE board_Clonec Tryd.f28 ([V.s (S.ptr 0 0 none 0)]) ([Obj.rcells 44 [Seg.arr IntKind.i8 81 x0, Seg.arr IntKind.i8 16 x1, Seg.one [S.i IntKind.i8 x2], Seg.rows [.i .u64, .i .u64] 32 x3, Seg.rows [.i .u64, .i .u64] 2 x4]]) (pureD 1 board_Cloned) = board_Clone x0 x1 x2 x3 x4 := by kernel_rfl

noncomputable def board_Clonea {R : Type} (o : Orc) (vs : List V) (objs : List Obj) (K : Bool → V → List Obj → Option R) : Option R := match vs, List.map Obj.toRO objs with
  | [V.s (S.ptr 0 0 none 0)], [Obj.rcells 44 [Seg.arr IntKind.i8 81 x0, Seg.arr IntKind.i8 16 x1, Seg.one [S.i IntKind.i8 x2], Seg.rows [.i .u64, .i .u64] 32 x3, Seg.rows [.i .u64, .i .u64] 2 x4]] => ob (board_Clone x0 x1 x2 x3 x4) fun z => K true (V.s (S.ptr 1 0 none 0)) ([Obj.cells 44 [Seg.arr IntKind.i8 81 (z.1), Seg.arr IntKind.i8 16 (z.2.1), Seg.one [S.i IntKind.i8 (z.2.2.1)], Seg.rows [.i .u64, .i .u64] 32 (z.2.2.2.1), Seg.rows [.i .u64, .i .u64] 2 (z.2.2.2.2)]])
  | _, _ => o 28 vs objs K

noncomputable def board_Cloneo (o : Orc) : Orc := hook 28 (board_Clonea o) o

theorem board_Cloneo_ok (o : Orc) (ho : OSound Tryd.prog o) : OSound Tryd.prog (board_Cloneo o) := hook_ok ho fun vs objs K r h => by
  unfold board_Clonea at h
  split at h
  · skip
    have hq : List.map Obj.toRO objs = _ := (by rename_i hq; first | exact hq | assumption)
    obtain ⟨t, h1, h2⟩ := ob_ok h
    refine purOK_by mixed board_Clonec_ok (m := 1) (fn := Tryd.f28) (b := (Tryd.f28).body.getD .skip) (by kernel_rfl) (by kernel_rfl) (by kernel_rfl) hq (by kernel_rfl) (by kernel_rfl) (AllP.of (l' := []) (by kernel_rfl) trivial) ((board_Clone_eq _ _ _ _ _).trans h1) fun v objs' hd => ?_
    unfold board_Cloned at hd
    split at hd
    · skip
      cases hd
      exact h2
    · cases hd
  · exact ho _ _ _ _ _ h

noncomputable def board_Piecesc : Ctx := mkC 18 (oNil) [] lpNil

theorem board_Piecesc_ok : CtxOK Tryd.prog board_Piecesc := mkC_ok (oNil_ok)

noncomputable def board_Piecesd : V → List Obj → Option (Int × Int) := fun v objs => match v, objs with
  | V.agg [Seg.one [S.i IntKind.u64 y0, S.i IntKind.u64 y1]], [] => some (y0, y1)
  | _, _ => none

theorem board_Pieces_eq (x0 : Int) (x1 : List Int) (x2 : List Int) (x3 : Int) (x4 : List (List Int)) (x5 : List (List Int)) : fnE board_Piecesc Tryd.f18 ([V.s (S.ptr 0 0 none 0), V.s (S.i IntKind.i64 x0)]) ([Obj.rcells 44 [Seg.arr IntKind.i8 81 x1, Seg.arr IntKind.i8 16 x2, Seg.one [S.i IntKind.i8 x3], Seg.rows [.i .u64, .i .u64] 32 x4, Seg.rows [.i .u64, .i .u64] 2 x5]]) (pureD 1 board_Piecesd) = board_Pieces x0 x1 x2 x3 x4 x5 := by kernel_rfl

noncomputable def board_Piecesa {R : Type} (o : Orc) (vs : List V) (objs : List Obj) (K : Bool → V → List Obj → Option R) : Option R := match vs, List.map Obj.toRO objs with
  | [V.s (S.ptr 0 0 none 0), V.s (S.i IntKind.i64 x0)], [Obj.rcells 44 [Seg.arr IntKind.i8 81 x1, Seg.arr IntKind.i8 16 x2, Seg.one [S.i IntKind.i8 x3], Seg.rows [.i .u64, .i .u64] 32 x4, Seg.rows [.i .u64, .i .u64] 2 x5]] => ob (board_Pieces x0 x1 x2 x3 x4 x5) fun z => K true (V.agg [Seg.one [S.i IntKind.u64 (z.1), S.i IntKind.u64 (z.2)]]) ([])
  | _, _ => o 18 vs objs K

noncomputable def board_Pieceso (o : Orc) : Orc := hook 18 (board_Piecesa o) o

theorem board_Pieceso_ok (o : Orc) (ho : OSound Tryd.prog o) : OSound Tryd.prog (board_Pieceso o) := hook_ok ho fun vs objs K r h => by
  unfold board_Piecesa at h
  split at h
  · skip
    have hq : List.map Obj.toRO objs = _ := (by rename_i hq; first | exact hq | assumption)
    obtain ⟨t, h1, h2⟩ := ob_ok h
    refine purOK_by mixed board_Piecesc_ok (m := 1) (fn := Tryd.f18) (b := (Tryd.f18).body.getD .skip) (by kernel_rfl) (by kernel_rfl) (by kernel_rfl) hq (by kernel_rfl) (by kernel_rfl) (AllP.of (l' := []) (by kernel_rfl) trivial) ((board_Pieces_eq _ _ _ _ _ _).trans h1) fun v objs' hd => ?_
    unfold board_Piecesd at hd
    split at hd
    · skip
      cases hd
      exact h2
    · cases hd
  · exact ho _ _ _ _ _ h

noncomputable def law05_BoardClonesc : Ctx := mkC 87 ((board_Pieceso (board_Takeno (board_Puto (board_Cloneo (board_Newo (law05_beginso oNil))))))) [] lpNil

theorem law05_BoardClonesc_ok : CtxOK Tryd.prog law05_BoardClonesc := mkC_ok ((board_Pieceso_ok _ (board_Takeno_ok _ (board_Puto_ok _ (board_Cloneo_ok _ (board_Newo_ok _ (law05_beginso_ok _ oNil_ok)))))))

noncomputable def law05_BoardClonesd : V → List Obj → Option (Bool) := fun v objs => match v, objs with
  | V.s (S.b y0), [] => some (y0)
  | _, _ => none

theorem law05_BoardClones_eq (x0 : List Int) (x1 : List Int) (x2 : Int) (x3 : Int) (x4 : Int) : fnE law05_BoardClonesc Tryd.f7 ([V.agg [Seg.arr IntKind.i8 81 x0, Seg.arr IntKind.i8 16 x1, Seg.one [S.i IntKind.i8 x2]], V.s (S.i IntKind.i64 x3), V.s (S.i IntKind.i8 x4)]) ([]) law05_BoardClonesd = law05_BoardClones x0 x1 x2 x3 x4 := by kernel_rfl

noncomputable def law05_BoardClonesa {R : Type} (o : Orc) (vs : List V) (objs : List Obj) (K : Bool → V → List Obj → Option R) : Option R := match vs, objs with
  | [V.agg [Seg.arr IntKind.i8 81 x0, Seg.arr IntKind.i8 16 x1, Seg.one [S.i IntKind.i8 x2]], V.s (S.i IntKind.i64 x3), V.s (S.i IntKind.i8 x4)], [] => ob (law05_BoardClones x0 x1 x2 x3 x4) fun y0 => K false (V.s (S.b y0)) ([])
  | _, _ => o 7 vs objs K

noncomputable def law05_BoardCloneso (o : Orc) : Orc := hook 7 (law05_BoardClonesa o) o

theorem law05_BoardClones_ok {vs : List V} {objs : List Obj} (x0 : List Int) (x1 : List Int) (x2 : Int) (x3 : Int) (x4 : Int) {R : Type} {K : Bool → V → List Obj → Option R} {r : R} (hv : vs = [V.agg [Seg.arr IntKind.i8 81 x0, Seg.arr IntKind.i8 16 x1, Seg.one [S.i IntKind.i8 x2]], V.s (S.i IntKind.i64 x3), V.s (S.i IntKind.i8 x4)]) (ho : objs = []) (h : ob (law05_BoardClones x0 x1 x2 x3 x4) (fun y0 => K false (V.s (S.b y0)) ([])) = some r) :
    ∃ p v objs', K p v objs' = some r ∧ AnyOK Tryd.prog 7 vs objs p v objs' := by
  subst hv
  subst ho
  obtain ⟨t, h1, h2⟩ := ob_ok h
  refine anyOK_of mixed law05_BoardClonesc_ok (fn := Tryd.f7) (b := (Tryd.f7).body.getD .skip) (by kernel_rfl) (by kernel_rfl) (by kernel_rfl) ((law05_BoardClones_eq _ _ _ _ _).trans h1) (m := 0) rfl (AllP.of (l' := []) (by kernel_rfl) trivial) fun v objs' hd => ?_
  unfold law05_BoardClonesd at hd
  split at hd
  · skip
    cases hd
    exact h2
  · cases hd

theorem law05_BoardCloneso_ok (o : Orc) (ho : OSound Tryd.prog o) : OSound Tryd.prog (law05_BoardCloneso o) := hook_ok ho fun vs objs K r h => by
  unfold law05_BoardClonesa at h
  split at h
  · skip
    obtain ⟨t, h1, h2⟩ := ob_ok h
    refine anyOK_of mixed law05_BoardClonesc_ok (fn := Tryd.f7) (b := (Tryd.f7).body.getD .skip) (by kernel_rfl) (by kernel_rfl) (by kernel_rfl) ((law05_BoardClones_eq _ _ _ _ _).trans h1) (m := 0) rfl (AllP.of (l' := []) (by kernel_rfl) trivial) fun v objs' hd => ?_
    unfold law05_BoardClonesd at hd
    split at hd
    · skip
      cases hd
      exact h2
    · cases hd
  · exact ho _ _ _ _ _ h


end Go.Kk.KkBA
