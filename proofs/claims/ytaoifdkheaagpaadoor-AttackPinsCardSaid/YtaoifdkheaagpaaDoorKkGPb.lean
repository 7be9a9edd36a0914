/- Printed by a tool of this project (KkGen): the program's functions come to the plain ones. -/
import Derived.Test.YtaoifdkheaagpaaDoorKkGP
namespace Go.Kk.KkGP
open Go.Proofs Go.Kk.Pl
set_option maxRecDepth 100000
set_option maxHeartbeats 4000000
noncomputable def board_Checkl6d : Ex → List V → List Obj → Option ((Int × List Int × List Int × Int × List Int × List Int) ⊕ (List Int × List Int × Int × List Int × List Int)) := fun e vs objs => match e, vs, objs with
  | Ex.ret, [V.s (S.ptr 0 0 none 0), V.s (S.i IntKind.i64 y0), V.s (S.ptr 1 0 none 0), V.s (S.ptr 2 0 none 0)], [Obj.cells 28 [Seg.arr IntKind.i8 81 y1, Seg.arr IntKind.i8 16 y2, Seg.one [S.i IntKind.i8 y3]], Obj.cells 83 [Seg.arr IntKind.i64 9 y4], Obj.cells 109 [Seg.arr IntKind.i64 2 y5]] => some (Sum.inl (y0, y1, y2, y3, y4, y5))
  | Ex.exit 0, [V.s (S.ptr 0 0 none 0), V.s S.bad, V.s (S.ptr 1 0 none 0), V.s (S.ptr 2 0 none 0)], [Obj.cells 28 [Seg.arr IntKind.i8 81 y0, Seg.arr IntKind.i8 16 y1, Seg.one [S.i IntKind.i8 y2]], Obj.cells 83 [Seg.arr IntKind.i64 9 y3], Obj.cells 109 [Seg.arr IntKind.i64 2 y4]] => some (Sum.inr (y0, y1, y2, y3, y4))
  | _, _, _ => none
noncomputable def board_Checkl20d : Ex → List V → List Obj → Option ((Int × List Int × Int × List Int × List Int × Int × List Int × List Int) ⊕ (List Int × Int × List Int × List Int × Int × List Int × List Int)) := fun e vs objs => match e, vs, objs with
  | Ex.ret, [V.s (S.ptr 0 0 none 0), V.s (S.i IntKind.i64 y0), V.s (S.ptr 1 0 none 0), V.s (S.ptr 2 0 none 0), V.agg [Seg.arr IntKind.i8 16 y1], V.s (S.i IntKind.i64 y2)], [Obj.cells 28 [Seg.arr IntKind.i8 81 y3, Seg.arr IntKind.i8 16 y4, Seg.one [S.i IntKind.i8 y5]], Obj.cells 83 [Seg.arr IntKind.i64 9 y6], Obj.cells 109 [Seg.arr IntKind.i64 2 y7]] => some (Sum.inl (y0, y1, y2, y3, y4, y5, y6, y7))
  | Ex.exit 9, [V.s (S.ptr 0 0 none 0), V.s S.bad, V.s (S.ptr 1 0 none 0), V.s (S.ptr 2 0 none 0), V.agg [Seg.arr IntKind.i8 16 y0], V.s (S.i IntKind.i64 y1)], [Obj.cells 28 [Seg.arr IntKind.i8 81 y2, Seg.arr IntKind.i8 16 y3, Seg.one [S.i IntKind.i8 y4]], Obj.cells 83 [Seg.arr IntKind.i64 9 y5], Obj.cells 109 [Seg.arr IntKind.i64 2 y6]] => some (Sum.inr (y0, y1, y2, y3, y4, y5, y6))
  | _, _, _ => none
noncomputable def board_Checkl17d : Ex → List V → List Obj → Option ((Int × List Int × List Int × Int × List Int × List Int) ⊕ (List Int × List Int × Int × List Int × List Int)) := fun e vs objs => match e, vs, objs with
  | Ex.ret, [V.s (S.ptr 0 0 none 0), V.s (S.i IntKind.i64 y0), V.s (S.ptr 1 0 none 0), V.s (S.ptr 2 0 none 0)], [Obj.cells 28 [Seg.arr IntKind.i8 81 y1, Seg.arr IntKind.i8 16 y2, Seg.one [S.i IntKind.i8 y3]], Obj.cells 83 [Seg.arr IntKind.i64 9 y4], Obj.cells 109 [Seg.arr IntKind.i64 2 y5]] => some (Sum.inl (y0, y1, y2, y3, y4, y5))
  | Ex.exit 7, [V.s (S.ptr 0 0 none 0), V.s S.bad, V.s (S.ptr 1 0 none 0), V.s (S.ptr 2 0 none 0)], [Obj.cells 28 [Seg.arr IntKind.i8 81 y0, Seg.arr IntKind.i8 16 y1, Seg.one [S.i IntKind.i8 y2]], Obj.cells 83 [Seg.arr IntKind.i64 9 y3], Obj.cells 109 [Seg.arr IntKind.i64 2 y4]] => some (Sum.inr (y0, y1, y2, y3, y4))
  | _, _, _ => none
noncomputable def board_Checkl30d : Ex → List V → List Obj → Option ((Int × List Int × List Int × Int) ⊕ (List Int × List Int × Int)) := fun e vs objs => match e, vs, objs with
  | Ex.ret, [V.s (S.ptr 0 0 none 0), V.s (S.i IntKind.i64 y0)], [Obj.cells 28 [Seg.arr IntKind.i8 81 y1, Seg.arr IntKind.i8 16 y2, Seg.one [S.i IntKind.i8 y3]]] => some (Sum.inl (y0, y1, y2, y3))
  | Ex.exit 11, [V.s (S.ptr 0 0 none 0), V.s S.bad], [Obj.cells 28 [Seg.arr IntKind.i8 81 y0, Seg.arr IntKind.i8 16 y1, Seg.one [S.i IntKind.i8 y2]]] => some (Sum.inr (y0, y1, y2))
  | _, _, _ => none
noncomputable def board_Checkp6 {R : Type} (vs : List V) (objs : List Obj) (K : Ex → List V → List Obj → Option R) : Option R := match vs, objs with
  | [V.s (S.ptr 0 0 none 0), V.s (S.ptr 1 0 none 0), V.s (S.ptr 2 0 none 0), V.agg [Seg.arr IntKind.i8 81 x0], V.s (S.i IntKind.i64 x1)], [Obj.cells 28 [Seg.arr IntKind.i8 81 x2, Seg.arr IntKind.i8 16 x3, Seg.one [S.i IntKind.i8 x4]], Obj.cells 83 [Seg.arr IntKind.i64 9 x5], Obj.cells 109 [Seg.arr IntKind.i64 2 x6]] => ob (board_Checkl6 many x0 x1 x2 x3 x4 x5 x6) fun t0 => sw t0 (fun z => K (Ex.ret) ([V.s (S.ptr 0 0 none 0), V.s (S.i IntKind.i64 (z.1)), V.s (S.ptr 1 0 none 0), V.s (S.ptr 2 0 none 0)]) ([Obj.cells 28 [Seg.arr IntKind.i8 81 (z.2.1), Seg.arr IntKind.i8 16 (z.2.2.1), Seg.one [S.i IntKind.i8 (z.2.2.2.1)]], Obj.cells 83 [Seg.arr IntKind.i64 9 (z.2.2.2.2.1)], Obj.cells 109 [Seg.arr IntKind.i64 2 (z.2.2.2.2.2)]])) (fun z => K (Ex.exit 0) ([V.s (S.ptr 0 0 none 0), V.s S.bad, V.s (S.ptr 1 0 none 0), V.s (S.ptr 2 0 none 0)]) ([Obj.cells 28 [Seg.arr IntKind.i8 81 (z.1), Seg.arr IntKind.i8 16 (z.2.1), Seg.one [S.i IntKind.i8 (z.2.2.1)]], Obj.cells 83 [Seg.arr IntKind.i64 9 (z.2.2.2.1)], Obj.cells 109 [Seg.arr IntKind.i64 2 (z.2.2.2.2)]]))
  | _, _ => none
noncomputable def board_Checkp20 {R : Type} (vs : List V) (objs : List Obj) (K : Ex → List V → List Obj → Option R) : Option R := match vs, objs with
  | [V.s (S.ptr 0 0 none 0), V.s (S.ptr 1 0 none 0), V.s (S.ptr 2 0 none 0), V.agg [Seg.arr IntKind.i8 16 x0], V.s (S.i IntKind.i64 x1), V.agg [Seg.arr IntKind.i8 8 x2], V.s (S.i IntKind.i64 x3)], [Obj.cells 28 [Seg.arr IntKind.i8 81 x4, Seg.arr IntKind.i8 16 x5, Seg.one [S.i IntKind.i8 x6]], Obj.cells 83 [Seg.arr IntKind.i64 9 x7], Obj.cells 109 [Seg.arr IntKind.i64 2 x8]] => ob (board_Checkl20 many x0 x1 x2 x3 x4 x5 x6 x7 x8) fun t0 => sw t0 (fun z => K (Ex.ret) ([V.s (S.ptr 0 0 none 0), V.s (S.i IntKind.i64 (z.1)), V.s (S.ptr 1 0 none 0), V.s (S.ptr 2 0 none 0), V.agg [Seg.arr IntKind.i8 16 (z.2.1)], V.s (S.i IntKind.i64 (z.2.2.1))]) ([Obj.cells 28 [Seg.arr IntKind.i8 81 (z.2.2.2.1), Seg.arr IntKind.i8 16 (z.2.2.2.2.1), Seg.one [S.i IntKind.i8 (z.2.2.2.2.2.1)]], Obj.cells 83 [Seg.arr IntKind.i64 9 (z.2.2.2.2.2.2.1)], Obj.cells 109 [Seg.arr IntKind.i64 2 (z.2.2.2.2.2.2.2)]])) (fun z => K (Ex.exit 9) ([V.s (S.ptr 0 0 none 0), V.s S.bad, V.s (S.ptr 1 0 none 0), V.s (S.ptr 2 0 none 0), V.agg [Seg.arr IntKind.i8 16 (z.1)], V.s (S.i IntKind.i64 (z.2.1))]) ([Obj.cells 28 [Seg.arr IntKind.i8 81 (z.2.2.1), Seg.arr IntKind.i8 16 (z.2.2.2.1), Seg.one [S.i IntKind.i8 (z.2.2.2.2.1)]], Obj.cells 83 [Seg.arr IntKind.i64 9 (z.2.2.2.2.2.1)], Obj.cells 109 [Seg.arr IntKind.i64 2 (z.2.2.2.2.2.2)]]))
  | _, _ => none
noncomputable def board_Checkp17 {R : Type} (vs : List V) (objs : List Obj) (K : Ex → List V → List Obj → Option R) : Option R := match vs, objs with
  | [V.s (S.ptr 0 0 none 0), V.s (S.ptr 1 0 none 0), V.s (S.ptr 2 0 none 0), V.agg [Seg.arr IntKind.i8 16 x0], V.s (S.i IntKind.i64 x1)], [Obj.cells 28 [Seg.arr IntKind.i8 81 x2, Seg.arr IntKind.i8 16 x3, Seg.one [S.i IntKind.i8 x4]], Obj.cells 83 [Seg.arr IntKind.i64 9 x5], Obj.cells 109 [Seg.arr IntKind.i64 2 x6]] => ob (board_Checkl17 many x0 x1 x2 x3 x4 x5 x6) fun t0 => sw t0 (fun z => K (Ex.ret) ([V.s (S.ptr 0 0 none 0), V.s (S.i IntKind.i64 (z.1)), V.s (S.ptr 1 0 none 0), V.s (S.ptr 2 0 none 0)]) ([Obj.cells 28 [Seg.arr IntKind.i8 81 (z.2.1), Seg.arr IntKind.i8 16 (z.2.2.1), Seg.one [S.i IntKind.i8 (z.2.2.2.1)]], Obj.cells 83 [Seg.arr IntKind.i64 9 (z.2.2.2.2.1)], Obj.cells 109 [Seg.arr IntKind.i64 2 (z.2.2.2.2.2)]])) (fun z => K (Ex.exit 7) ([V.s (S.ptr 0 0 none 0), V.s S.bad, V.s (S.ptr 1 0 none 0), V.s (S.ptr 2 0 none 0)]) ([Obj.cells 28 [Seg.arr IntKind.i8 81 (z.1), Seg.arr IntKind.i8 16 (z.2.1), Seg.one [S.i IntKind.i8 (z.2.2.1)]], Obj.cells 83 [Seg.arr IntKind.i64 9 (z.2.2.2.1)], Obj.cells 109 [Seg.arr IntKind.i64 2 (z.2.2.2.2)]]))
  | _, _ => none
noncomputable def board_Checkp30 {R : Type} (vs : List V) (objs : List Obj) (K : Ex → List V → List Obj → Option R) : Option R := match vs, objs with
  | [V.s (S.ptr 0 0 none 0), V.s (S.ptr 1 0 none 0), V.s (S.i IntKind.i64 x0)], [Obj.cells 28 [Seg.arr IntKind.i8 81 x1, Seg.arr IntKind.i8 16 x2, Seg.one [S.i IntKind.i8 x3]], Obj.cells 83 [Seg.arr IntKind.i64 9 x4]] => ob (board_Checkl30 many x0 x1 x2 x3 x4) fun t0 => sw t0 (fun z => K (Ex.ret) ([V.s (S.ptr 0 0 none 0), V.s (S.i IntKind.i64 (z.1))]) ([Obj.cells 28 [Seg.arr IntKind.i8 81 (z.2.1), Seg.arr IntKind.i8 16 (z.2.2.1), Seg.one [S.i IntKind.i8 (z.2.2.2)]]])) (fun z => K (Ex.exit 11) ([V.s (S.ptr 0 0 none 0), V.s S.bad]) ([Obj.cells 28 [Seg.arr IntKind.i8 81 (z.1), Seg.arr IntKind.i8 16 (z.2.1), Seg.one [S.i IntKind.i8 (z.2.2)]]]))
  | _, _ => none
noncomputable def board_Checklp : {R : Type} → Nat → List V → List Obj → (Ex → List V → List Obj → Option R) → Option R := fun q vs objs K => bif Nat.beq q 6 then board_Checkp6 vs objs K else bif Nat.beq q 20 then board_Checkp20 vs objs K else bif Nat.beq q 17 then board_Checkp17 vs objs K else bif Nat.beq q 30 then board_Checkp30 vs objs K else none
noncomputable def board_Checkc : Ctx := mkC 98 ((board_fileso (piece_Totalo (piece_Rawo (piece_Sideo (piece_Kindo oNil)))))) [(6, [1, 3, 4, 22, 23], [1, 2, 3, 4]), (17, [1, 3, 4, 51, 52], [1, 2, 3, 4]), (20, [1, 3, 4, 51, 52, 55, 56], [1, 2, 3, 4, 51, 52]), (30, [1, 3, 12], [1, 2])] board_Checklp
theorem board_Checkc_ok : CtxOK Tryd.prog board_Checkc := mkC_ok ((board_fileso_ok _ (piece_Totalo_ok _ (piece_Rawo_ok _ (piece_Sideo_ok _ (piece_Kindo_ok _ oNil_ok))))))
noncomputable def board_Checkl6r (f : Nat) (x0 : List Int) (x1 : Int) (x2 x3 : List Int) (x4 : Int) (x5 x6 : List Int) : Option ((Int × List Int × List Int × Int × List Int × List Int) ⊕ (List Int × List Int × Int × List Int × List Int)) := lrun board_Checkc 0 [1, 3, 4, 22, 23] [1, 2, 3, 4] (loopOf Tryd.f60 6) f ([V.s (S.ptr 0 0 none 0), V.s (S.ptr 1 0 none 0), V.s (S.ptr 2 0 none 0), V.agg [Seg.arr IntKind.i8 81 x0], V.s (S.i IntKind.i64 x1)]) ([Obj.cells 28 [Seg.arr IntKind.i8 81 x2, Seg.arr IntKind.i8 16 x3, Seg.one [S.i IntKind.i8 x4]], Obj.cells 83 [Seg.arr IntKind.i64 9 x5], Obj.cells 109 [Seg.arr IntKind.i64 2 x6]]) board_Checkl6d
theorem board_Checkl6_step (f : Nat) (x0 : List Int) (x1 : Int) (x2 x3 : List Int) (x4 : Int) (x5 x6 : List Int) : board_Checkl6r (f + 1) x0 x1 x2 x3 x4 x5 x6 = board_Checkl6s (board_Checkl6r f) x0 x1 x2 x3 x4 x5 x6 := by kernel_rfl
theorem board_Checkl6_eq : ∀ f, board_Checkl6r f = board_Checkl6 f
  | 0 => rfl
  | f + 1 => by funext x0 x1 x2 x3 x4 x5 x6; rw [board_Checkl6_step, board_Checkl6_eq f]; rfl
noncomputable def board_Checkl20r (f : Nat) (x0 : List Int) (x1 : Int) (x2 : List Int) (x3 : Int) (x4 x5 : List Int) (x6 : Int) (x7 x8 : List Int) : Option ((Int × List Int × Int × List Int × List Int × Int × List Int × List Int) ⊕ (List Int × Int × List Int × List Int × Int × List Int × List Int)) := lrun board_Checkc 0 [1, 3, 4, 51, 52, 55, 56] [1, 2, 3, 4, 51, 52] (loopOf Tryd.f60 20) f ([V.s (S.ptr 0 0 none 0), V.s (S.ptr 1 0 none 0), V.s (S.ptr 2 0 none 0), V.agg [Seg.arr IntKind.i8 16 x0], V.s (S.i IntKind.i64 x1), V.agg [Seg.arr IntKind.i8 8 x2], V.s (S.i IntKind.i64 x3)]) ([Obj.cells 28 [Seg.arr IntKind.i8 81 x4, Seg.arr IntKind.i8 16 x5, Seg.one [S.i IntKind.i8 x6]], Obj.cells 83 [Seg.arr IntKind.i64 9 x7], Obj.cells 109 [Seg.arr IntKind.i64 2 x8]]) board_Checkl20d
theorem board_Checkl20_step (f : Nat) (x0 : List Int) (x1 : Int) (x2 : List Int) (x3 : Int) (x4 x5 : List Int) (x6 : Int) (x7 x8 : List Int) : board_Checkl20r (f + 1) x0 x1 x2 x3 x4 x5 x6 x7 x8 = board_Checkl20s (board_Checkl20r f) x0 x1 x2 x3 x4 x5 x6 x7 x8 := by kernel_rfl
theorem board_Checkl20_eq : ∀ f, board_Checkl20r f = board_Checkl20 f
  | 0 => rfl
  | f + 1 => by funext x0 x1 x2 x3 x4 x5 x6 x7 x8; rw [board_Checkl20_step, board_Checkl20_eq f]; rfl
noncomputable def board_Checkl17r (f : Nat) (x0 : List Int) (x1 : Int) (x2 x3 : List Int) (x4 : Int) (x5 x6 : List Int) : Option ((Int × List Int × List Int × Int × List Int × List Int) ⊕ (List Int × List Int × Int × List Int × List Int)) := lrun board_Checkc 0 [1, 3, 4, 51, 52] [1, 2, 3, 4] (loopOf Tryd.f60 17) f ([V.s (S.ptr 0 0 none 0), V.s (S.ptr 1 0 none 0), V.s (S.ptr 2 0 none 0), V.agg [Seg.arr IntKind.i8 16 x0], V.s (S.i IntKind.i64 x1)]) ([Obj.cells 28 [Seg.arr IntKind.i8 81 x2, Seg.arr IntKind.i8 16 x3, Seg.one [S.i IntKind.i8 x4]], Obj.cells 83 [Seg.arr IntKind.i64 9 x5], Obj.cells 109 [Seg.arr IntKind.i64 2 x6]]) board_Checkl17d
theorem board_Checkl17_step (f : Nat) (x0 : List Int) (x1 : Int) (x2 x3 : List Int) (x4 : Int) (x5 x6 : List Int) : board_Checkl17r (f + 1) x0 x1 x2 x3 x4 x5 x6 = board_Checkl17s (board_Checkl17r f) x0 x1 x2 x3 x4 x5 x6 := by kernel_rfl
theorem board_Checkl17_eq : ∀ f, board_Checkl17r f = board_Checkl17 f
  | 0 => rfl
  | f + 1 => by funext x0 x1 x2 x3 x4 x5 x6; rw [board_Checkl17_step, board_Checkl17_eq f]; rfl
noncomputable def board_Checkl30r (f : Nat) (x0 : Int) (x1 x2 : List Int) (x3 : Int) (x4 : List Int) : Option ((Int × List Int × List Int × Int) ⊕ (List Int × List Int × Int)) := lrun board_Checkc 0 [1, 3, 12] [1, 2] (loopOf Tryd.f60 30) f ([V.s (S.ptr 0 0 none 0), V.s (S.ptr 1 0 none 0), V.s (S.i IntKind.i64 x0)]) ([Obj.cells 28 [Seg.arr IntKind.i8 81 x1, Seg.arr IntKind.i8 16 x2, Seg.one [S.i IntKind.i8 x3]], Obj.cells 83 [Seg.arr IntKind.i64 9 x4]]) board_Checkl30d
theorem board_Checkl30_step (f : Nat) (x0 : Int) (x1 x2 : List Int) (x3 : Int) (x4 : List Int) : board_Checkl30r (f + 1) x0 x1 x2 x3 x4 = board_Checkl30s (board_Checkl30r f) x0 x1 x2 x3 x4 := by kernel_rfl
theorem board_Checkl30_eq : ∀ f, board_Checkl30r f = board_Checkl30 f
  | 0 => rfl
  | f + 1 => by funext x0 x1 x2 x3 x4; rw [board_Checkl30_step, board_Checkl30_eq f]; rfl
theorem board_Checks6 : LoopSound Tryd.prog board_Checkc 0 (loopOf Tryd.f60 6) :=
  loopSound_by mixed board_Checkc_ok (AllP.of (l' := []) (by kernel_rfl) trivial) (q := 6) (kin := [1, 3, 4, 22, 23]) (kout := [1, 2, 3, 4]) (by kernel_rfl) (by kernel_rfl) fun vs objs K r h => by
    replace h : board_Checkp6 vs objs K = some r := h
    unfold board_Checkp6 at h
    split at h
    · skip
      obtain ⟨t, h1, h2⟩ := ob_ok h
      rw [← board_Checkl6_eq] at h1
      refine ⟨_, board_Checkl6d, t, many, h1, fun e vs' objs' hd => ?_⟩
      unfold board_Checkl6d at hd
      split at hd
      · skip
        cases hd
        exact h2
      · skip
        cases hd
        exact h2
      · cases hd
    · cases h
theorem board_Checks20 : LoopSound Tryd.prog board_Checkc 0 (loopOf Tryd.f60 20) :=
  loopSound_by mixed board_Checkc_ok (AllP.of (l' := []) (by kernel_rfl) trivial) (q := 20) (kin := [1, 3, 4, 51, 52, 55, 56]) (kout := [1, 2, 3, 4, 51, 52]) (by kernel_rfl) (by kernel_rfl) fun vs objs K r h => by
    replace h : board_Checkp20 vs objs K = some r := h
    unfold board_Checkp20 at h
    split at h
    · skip
      obtain ⟨t, h1, h2⟩ := ob_ok h
      rw [← board_Checkl20_eq] at h1
      refine ⟨_, board_Checkl20d, t, many, h1, fun e vs' objs' hd => ?_⟩
      unfold board_Checkl20d at hd
      split at hd
      · skip
        cases hd
        exact h2
      · skip
        cases hd
        exact h2
      · cases hd
    · cases h
theorem board_Checks30 : LoopSound Tryd.prog board_Checkc 0 (loopOf Tryd.f60 30) :=
  loopSound_by mixed board_Checkc_ok (AllP.of (l' := []) (by kernel_rfl) trivial) (q := 30) (kin := [1, 3, 12]) (kout := [1, 2]) (by kernel_rfl) (by kernel_rfl) fun vs objs K r h => by
    replace h : board_Checkp30 vs objs K = some r := h
    unfold board_Checkp30 at h
    split at h
    · skip
      obtain ⟨t, h1, h2⟩ := ob_ok h
      rw [← board_Checkl30_eq] at h1
      refine ⟨_, board_Checkl30d, t, many, h1, fun e vs' objs' hd => ?_⟩
      unfold board_Checkl30d at hd
      split at hd
      · skip
        cases hd
        exact h2
      · skip
        cases hd
        exact h2
      · cases hd
    · cases h
theorem board_Checks17 : LoopSound Tryd.prog board_Checkc 0 (loopOf Tryd.f60 17) :=
  loopSound_by mixed board_Checkc_ok (AllP.of (l' := [loopOf Tryd.f60 20]) (by kernel_rfl) ⟨board_Checks20, trivial⟩) (q := 17) (kin := [1, 3, 4, 51, 52]) (kout := [1, 2, 3, 4]) (by kernel_rfl) (by kernel_rfl) fun vs objs K r h => by
    replace h : board_Checkp17 vs objs K = some r := h
    unfold board_Checkp17 at h
    split at h
    · skip
      obtain ⟨t, h1, h2⟩ := ob_ok h
      rw [← board_Checkl17_eq] at h1
      refine ⟨_, board_Checkl17d, t, many, h1, fun e vs' objs' hd => ?_⟩
      unfold board_Checkl17d at hd
      split at hd
      · skip
        cases hd
        exact h2
      · skip
        cases hd
        exact h2
      · cases hd
    · cases h
noncomputable def board_Checkd : V → List Obj → Option (Int) := fun v objs => match v, objs with
  | V.s (S.i IntKind.i64 y0), [] => some (y0)
  | _, _ => none
theorem board_Check_eq (x0 x1 : List Int) (x2 : Int) : fnE board_Checkc Tryd.f60 ([V.agg [Seg.arr IntKind.i8 81 x0, Seg.arr IntKind.i8 16 x1, Seg.one [S.i IntKind.i8 x2]]]) ([]) board_Checkd = board_Check x0 x1 x2 := by kernel_rfl
noncomputable def board_Checka {R : Type} (o : Orc) (vs : List V) (objs : List Obj) (K : Bool → V → List Obj → Option R) : Option R := match vs, objs with
  | [V.agg [Seg.arr IntKind.i8 81 x0, Seg.arr IntKind.i8 16 x1, Seg.one [S.i IntKind.i8 x2]]], [] => ob (board_Check x0 x1 x2) fun y0 => K false (V.s (S.i IntKind.i64 y0)) ([])
  | _, _ => o 60 vs objs K
noncomputable def board_Checko (o : Orc) : Orc := hook 60 (board_Checka o) o
theorem board_Checko_ok (o : Orc) (ho : OSound Tryd.prog o) : OSound Tryd.prog (board_Checko o) := hook_ok ho fun vs objs K r h => by
  unfold board_Checka at h
  split at h
  · skip
    obtain ⟨t, h1, h2⟩ := ob_ok h
    refine anyOK_of mixed board_Checkc_ok (fn := Tryd.f60) (b := (Tryd.f60).body.getD .skip) (by kernel_rfl) (by kernel_rfl) (by kernel_rfl) ((board_Check_eq _ _ _).trans h1) (m := 0) rfl (AllP.of (l' := [loopOf Tryd.f60 6, loopOf Tryd.f60 17, loopOf Tryd.f60 30]) (by kernel_rfl) ⟨board_Checks6, board_Checks17, board_Checks30, trivial⟩) fun v objs' hd => ?_
    unfold board_Checkd at hd
    split at hd
    · skip
      cases hd
      exact h2
    · cases hd
  · exact ho _ _ _ _ _ h
noncomputable def attack_Checkc : Ctx := mkC 16 ((attack_InChecko (board_Newo (board_Checko oNil)))) [] lpNil
theorem attack_Checkc_ok : CtxOK Tryd.prog attack_Checkc := mkC_ok ((attack_InChecko_ok _ (board_Newo_ok _ (board_Checko_ok _ oNil_ok))))
noncomputable def attack_Checkd : V → List Obj → Option (Int) := fun v objs => match v, objs with
  | V.s (S.i IntKind.i64 y0), [] => some (y0)
  | _, _ => none
theorem attack_Check_eq (x0 x1 : List Int) (x2 : Int) : fnE attack_Checkc Tryd.f16 ([V.agg [Seg.arr IntKind.i8 81 x0, Seg.arr IntKind.i8 16 x1, Seg.one [S.i IntKind.i8 x2]]]) ([]) attack_Checkd = attack_Check x0 x1 x2 := by kernel_rfl
noncomputable def attack_Checka {R : Type} (o : Orc) (vs : List V) (objs : List Obj) (K : Bool → V → List Obj → Option R) : Option R := match vs, objs with
  | [V.agg [Seg.arr IntKind.i8 81 x0, Seg.arr IntKind.i8 16 x1, Seg.one [S.i IntKind.i8 x2]]], [] => ob (attack_Check x0 x1 x2) fun y0 => K false (V.s (S.i IntKind.i64 y0)) ([])
  | _, _ => o 16 vs objs K
noncomputable def attack_Checko (o : Orc) : Orc := hook 16 (attack_Checka o) o
theorem attack_Checko_ok (o : Orc) (ho : OSound Tryd.prog o) : OSound Tryd.prog (attack_Checko o) := hook_ok ho fun vs objs K r h => by
  unfold attack_Checka at h
  split at h
  · skip
    obtain ⟨t, h1, h2⟩ := ob_ok h
    refine anyOK_of mixed attack_Checkc_ok (fn := Tryd.f16) (b := (Tryd.f16).body.getD .skip) (by kernel_rfl) (by kernel_rfl) (by kernel_rfl) ((attack_Check_eq _ _ _).trans h1) (m := 0) rfl (AllP.of (l' := []) (by kernel_rfl) trivial) fun v objs' hd => ?_
    unfold attack_Checkd at hd
    split at hd
    · skip
      cases hd
      exact h2
    · cases hd
  · exact ho _ _ _ _ _ h
noncomputable def set_Ofl3d : Ex → List V → List Obj → Option (Nat × List Int × Int × Int × Int × Int) := fun e vs objs => match e, vs, objs with
  | Ex.exit 0, [V.s (S.ptr 1 0 none 0), V.s (S.ptr 2 0 none 0)], [Obj.sli 3 true (Seg.arr IntKind.i64 y0 y1), Obj.cells 57 [Seg.one [S.i IntKind.u64 y2, S.i IntKind.u64 y3]], Obj.cells 57 [Seg.one [S.i IntKind.u64 y4, S.i IntKind.u64 y5]]] => some (y0, y1, y2, y3, y4, y5)
  | _, _, _ => none
noncomputable def set_Ofp3 {R : Type} (vs : List V) (objs : List Obj) (K : Ex → List V → List Obj → Option R) : Option R := match vs, objs with
  | [V.s (S.ptr 1 0 none 0), V.s (S.ptr 2 0 none 0), V.s (S.sl 0 0 x0 true), V.s (S.i IntKind.i64 x1), V.s (S.i IntKind.i64 x2)], [Obj.sli 3 true (Seg.arr IntKind.i64 x3 x4), Obj.cells 57 [Seg.one [S.i IntKind.u64 x5, S.i IntKind.u64 x6]], Obj.cells 57 [Seg.one [S.i IntKind.u64 x7, S.i IntKind.u64 x8]]] => ob (set_Ofl3 many x0 x1 x2 x3 x4 x5 x6 x7 x8) fun z => K (Ex.exit 0) ([V.s (S.ptr 1 0 none 0), V.s (S.ptr 2 0 none 0)]) ([Obj.sli 3 true (Seg.arr IntKind.i64 (z.1) (z.2.1)), Obj.cells 57 [Seg.one [S.i IntKind.u64 (z.2.2.1), S.i IntKind.u64 (z.2.2.2.1)]], Obj.cells 57 [Seg.one [S.i IntKind.u64 (z.2.2.2.2.1), S.i IntKind.u64 (z.2.2.2.2.2)]]])
  | _, _ => none
noncomputable def set_Oflp : {R : Type} → Nat → List V → List Obj → (Ex → List V → List Obj → Option R) → Option R := fun q vs objs K => bif Nat.beq q 3 then set_Ofp3 vs objs K else none
noncomputable def set_Ofc : Ctx := mkC 17 ((set_Witho oNil)) [(3, [2, 3, 6, 7, 8], [2, 3])] set_Oflp
theorem set_Ofc_ok : CtxOK Tryd.prog set_Ofc := mkC_ok ((set_Witho_ok _ oNil_ok))
noncomputable def set_Ofl3r (f : Nat) (x0 : Nat) (x1 x2 : Int) (x3 : Nat) (x4 : List Int) (x5 x6 : Int) (x7 x8 : Int) : Option (Nat × List Int × Int × Int × Int × Int) := lrun set_Ofc 1 [2, 3, 6, 7, 8] [2, 3] (loopOf Tryd.f43 3) f ([V.s (S.ptr 1 0 none 0), V.s (S.ptr 2 0 none 0), V.s (S.sl 0 0 x0 true), V.s (S.i IntKind.i64 x1), V.s (S.i IntKind.i64 x2)]) ([Obj.sli 3 true (Seg.arr IntKind.i64 x3 x4), Obj.cells 57 [Seg.one [S.i IntKind.u64 x5, S.i IntKind.u64 x6]], Obj.cells 57 [Seg.one [S.i IntKind.u64 x7, S.i IntKind.u64 x8]]]) set_Ofl3d
theorem set_Ofl3_step (f : Nat) (x0 : Nat) (x1 x2 : Int) (x3 : Nat) (x4 : List Int) (x5 x6 : Int) (x7 x8 : Int) : set_Ofl3r (f + 1) x0 x1 x2 x3 x4 x5 x6 x7 x8 = set_Ofl3s (set_Ofl3r f) x0 x1 x2 x3 x4 x5 x6 x7 x8 := by kernel_rfl
theorem set_Ofl3_eq : ∀ f, set_Ofl3r f = set_Ofl3 f
  | 0 => rfl
  | f + 1 => by funext x0 x1 x2 x3 x4 x5 x6 x7 x8; rw [set_Ofl3_step, set_Ofl3_eq f]; rfl
theorem set_Ofs3 : LoopSound Tryd.prog set_Ofc 1 (loopOf Tryd.f43 3) :=
  loopSound_by mixed set_Ofc_ok (AllP.of (l' := []) (by kernel_rfl) trivial) (q := 3) (kin := [2, 3, 6, 7, 8]) (kout := [2, 3]) (by kernel_rfl) (by kernel_rfl) fun vs objs K r h => by
    replace h : set_Ofp3 vs objs K = some r := h
    unfold set_Ofp3 at h
    split at h
    · skip
      obtain ⟨t, h1, h2⟩ := ob_ok h
      rw [← set_Ofl3_eq] at h1
      refine ⟨_, set_Ofl3d, t, many, h1, fun e vs' objs' hd => ?_⟩
      unfold set_Ofl3d at hd
      split at hd
      · skip
        cases hd
        exact h2
      · cases hd
    · cases h
noncomputable def set_Ofd : V → List Obj → Option (Int × Int) := fun v objs => match v, objs with
  | V.agg [Seg.one [S.i IntKind.u64 y0, S.i IntKind.u64 y1]], [] => some (y0, y1)
  | _, _ => none
theorem set_Of_eq (x0 x1 : Nat) (x2 : List Int) : fnE set_Ofc Tryd.f43 ([V.s (S.sl 0 0 x0 true)]) ([Obj.sli 3 true (Seg.arr IntKind.i64 x1 x2)]) (pureD 1 set_Ofd) = set_Of x0 x1 x2 := by kernel_rfl
noncomputable def set_Ofa {R : Type} (o : Orc) (vs : List V) (objs : List Obj) (K : Bool → V → List Obj → Option R) : Option R := match vs, List.map Obj.toRO objs with
  | [V.s (S.sl 0 0 x0 true)], [Obj.sli 3 true (Seg.arr IntKind.i64 x1 x2)] => ob (set_Of x0 x1 x2) fun z => K true (V.agg [Seg.one [S.i IntKind.u64 (z.1), S.i IntKind.u64 (z.2)]]) ([])
  | _, _ => o 43 vs objs K
noncomputable def set_Ofo (o : Orc) : Orc := hook 43 (set_Ofa o) o
theorem set_Ofo_ok (o : Orc) (ho : OSound Tryd.prog o) : OSound Tryd.prog (set_Ofo o) := hook_ok ho fun vs objs K r h => by
  unfold set_Ofa at h
  split at h
  · skip
    have hq : List.map Obj.toRO objs = _ := (by rename_i hq; first | exact hq | assumption)
    obtain ⟨t, h1, h2⟩ := ob_ok h
    refine purOK_by mixed set_Ofc_ok (m := 1) (fn := Tryd.f43) (b := (Tryd.f43).body.getD .skip) (by kernel_rfl) (by kernel_rfl) (by kernel_rfl) hq (by kernel_rfl) (by kernel_rfl) (AllP.of (l' := [loopOf Tryd.f43 3]) (by kernel_rfl) ⟨set_Ofs3, trivial⟩) ((set_Of_eq _ _ _).trans h1) fun v objs' hd => ?_
    unfold set_Ofd at hd
    split at hd
    · skip
      cases hd
      exact h2
    · cases hd
  · exact ho _ _ _ _ _ h
noncomputable def law08_attacksc : Ctx := mkC 34 ((set_Ofo (attack_Checkerso (attack_Checko (attack_InChecko (board_Newo oNil)))))) [] lpNil
theorem law08_attacksc_ok : CtxOK Tryd.prog law08_attacksc := mkC_ok ((set_Ofo_ok _ (attack_Checkerso_ok _ (attack_Checko_ok _ (attack_InChecko_ok _ (board_Newo_ok _ oNil_ok))))))
noncomputable def law08_attacksd : V → List Obj → Option (Bool) := fun v objs => match v, objs with
  | V.s (S.b y0), [] => some (y0)
  | _, _ => none
theorem law08_attacks_eq : fnE law08_attacksc Tryd.f38 ([]) ([]) law08_attacksd = law08_attacks  := by kernel_rfl
noncomputable def law08_attacksa {R : Type} (o : Orc) (vs : List V) (objs : List Obj) (K : Bool → V → List Obj → Option R) : Option R := match vs, objs with
  | [], [] => ob (law08_attacks ) fun y0 => K false (V.s (S.b y0)) ([])
  | _, _ => o 38 vs objs K
noncomputable def law08_attackso (o : Orc) : Orc := hook 38 (law08_attacksa o) o
theorem law08_attackso_ok (o : Orc) (ho : OSound Tryd.prog o) : OSound Tryd.prog (law08_attackso o) := hook_ok ho fun vs objs K r h => by
  unfold law08_attacksa at h
  split at h
  · skip
    obtain ⟨t, h1, h2⟩ := ob_ok h
    refine anyOK_of mixed law08_attacksc_ok (fn := Tryd.f38) (b := (Tryd.f38).body.getD .skip) (by kernel_rfl) (by kernel_rfl) (by kernel_rfl) ((law08_attacks_eq).trans h1) (m := 0) rfl (AllP.of (l' := []) (by kernel_rfl) trivial) fun v objs' hd => ?_
    unfold law08_attacksd at hd
    split at hd
    · skip
      cases hd
      exact h2
    · cases hd
  · exact ho _ _ _ _ _ h
noncomputable def ref02_Kindc : Ctx := mkC 23 (oNil) [] lpNil
theorem ref02_Kindc_ok : CtxOK Tryd.prog ref02_Kindc := mkC_ok (oNil_ok)
noncomputable def ref02_Kindd : V → List Obj → Option (Int) := fun v objs => match v, objs with
  | V.s (S.i IntKind.i64 y0), [] => some (y0)
  | _, _ => none
theorem ref02_Kind_eq (x0 : Int) : fnE ref02_Kindc Tryd.f67 ([V.s (S.i IntKind.i64 x0)]) ([]) ref02_Kindd = ref02_Kind x0 := by kernel_rfl
noncomputable def ref02_Kinda {R : Type} (o : Orc) (vs : List V) (objs : List Obj) (K : Bool → V → List Obj → Option R) : Option R := match vs, objs with
  | [V.s (S.i IntKind.i64 x0)], [] => ob (ref02_Kind x0) fun y0 => K false (V.s (S.i IntKind.i64 y0)) ([])
  | _, _ => o 67 vs objs K
noncomputable def ref02_Kindo (o : Orc) : Orc := hook 67 (ref02_Kinda o) o
theorem ref02_Kindo_ok (o : Orc) (ho : OSound Tryd.prog o) : OSound Tryd.prog (ref02_Kindo o) := hook_ok ho fun vs objs K r h => by
  unfold ref02_Kinda at h
  split at h
  · skip
    obtain ⟨t, h1, h2⟩ := ob_ok h
    refine anyOK_of mixed ref02_Kindc_ok (fn := Tryd.f67) (b := (Tryd.f67).body.getD .skip) (by kernel_rfl) (by kernel_rfl) (by kernel_rfl) ((ref02_Kind_eq _).trans h1) (m := 0) rfl (AllP.of (l' := []) (by kernel_rfl) trivial) fun v objs' hd => ?_
    unfold ref02_Kindd at hd
    split at hd
    · skip
      cases hd
      exact h2
    · cases hd
  · exact ho _ _ _ _ _ h
noncomputable def ref05_Onl3d : Ex → List V → List Obj → Option (Int) := fun e vs objs => match e, vs, objs with
  | Ex.exit 0, [V.s (S.i IntKind.i64 y0)], [] => some (y0)
  | _, _, _ => none
noncomputable def ref05_Onp3 {R : Type} (vs : List V) (objs : List Obj) (K : Ex → List V → List Obj → Option R) : Option R := match vs, objs with
  | [V.s (S.i IntKind.i64 x0), V.s (S.i IntKind.i64 x1), V.s (S.ptr 0 0 none 0), V.s (S.i IntKind.i64 x2), V.s (S.i IntKind.i64 x3)], [Obj.cells 28 [Seg.arr IntKind.i8 81 x4, Seg.arr IntKind.i8 16 x5, Seg.one [S.i IntKind.i8 x6]]] => ob (ref05_Onl3 many x0 x1 x2 x3 x4 x5 x6) fun y0 => K (Ex.exit 0) ([V.s (S.i IntKind.i64 y0)]) ([])
  | _, _ => none
noncomputable def ref05_Onlp : {R : Type} → Nat → List V → List Obj → (Ex → List V → List Obj → Option R) → Option R := fun q vs objs K => bif Nat.beq q 3 then ref05_Onp3 vs objs K else none
noncomputable def ref05_Onc : Ctx := mkC 26 (oNil) [(3, [1, 2, 3, 7, 8], [7])] ref05_Onlp
theorem ref05_Onc_ok : CtxOK Tryd.prog ref05_Onc := mkC_ok (oNil_ok)
noncomputable def ref05_Onl3r (f : Nat) (x0 x1 : Int) (x2 x3 : Int) (x4 x5 : List Int) (x6 : Int) : Option (Int) := lrun ref05_Onc 0 [1, 2, 3, 7, 8] [7] (loopOf Tryd.f72 3) f ([V.s (S.i IntKind.i64 x0), V.s (S.i IntKind.i64 x1), V.s (S.ptr 0 0 none 0), V.s (S.i IntKind.i64 x2), V.s (S.i IntKind.i64 x3)]) ([Obj.cells 28 [Seg.arr IntKind.i8 81 x4, Seg.arr IntKind.i8 16 x5, Seg.one [S.i IntKind.i8 x6]]]) ref05_Onl3d
theorem ref05_Onl3_step (f : Nat) (x0 x1 : Int) (x2 x3 : Int) (x4 x5 : List Int) (x6 : Int) : ref05_Onl3r (f + 1) x0 x1 x2 x3 x4 x5 x6 = ref05_Onl3s (ref05_Onl3r f) x0 x1 x2 x3 x4 x5 x6 := by kernel_rfl
theorem ref05_Onl3_eq : ∀ f, ref05_Onl3r f = ref05_Onl3 f
  | 0 => rfl
  | f + 1 => by funext x0 x1 x2 x3 x4 x5 x6; rw [ref05_Onl3_step, ref05_Onl3_eq f]; rfl
theorem ref05_Ons3 : LoopSound Tryd.prog ref05_Onc 0 (loopOf Tryd.f72 3) :=
  loopSound_by mixed ref05_Onc_ok (AllP.of (l' := []) (by kernel_rfl) trivial) (q := 3) (kin := [1, 2, 3, 7, 8]) (kout := [7]) (by kernel_rfl) (by kernel_rfl) fun vs objs K r h => by
    replace h : ref05_Onp3 vs objs K = some r := h
    unfold ref05_Onp3 at h
    split at h
    · skip
      obtain ⟨t, h1, h2⟩ := ob_ok h
      rw [← ref05_Onl3_eq] at h1
      refine ⟨_, ref05_Onl3d, t, many, h1, fun e vs' objs' hd => ?_⟩
      unfold ref05_Onl3d at hd
      split at hd
      · skip
        cases hd
        exact h2
      · cases hd
    · cases h
noncomputable def ref05_Ond : V → List Obj → Option (Int) := fun v objs => match v, objs with
  | V.s (S.i IntKind.i64 y0), [] => some (y0)
  | _, _ => none
theorem ref05_On_eq (x0 x1 : List Int) (x2 x3 x4 : Int) : fnE ref05_Onc Tryd.f72 ([V.agg [Seg.arr IntKind.i8 81 x0, Seg.arr IntKind.i8 16 x1, Seg.one [S.i IntKind.i8 x2]], V.s (S.i IntKind.i64 x3), V.s (S.i IntKind.i64 x4)]) ([]) ref05_Ond = ref05_On x0 x1 x2 x3 x4 := by kernel_rfl
noncomputable def ref05_Ona {R : Type} (o : Orc) (vs : List V) (objs : List Obj) (K : Bool → V → List Obj → Option R) : Option R := match vs, objs with
  | [V.agg [Seg.arr IntKind.i8 81 x0, Seg.arr IntKind.i8 16 x1, Seg.one [S.i IntKind.i8 x2]], V.s (S.i IntKind.i64 x3), V.s (S.i IntKind.i64 x4)], [] => ob (ref05_On x0 x1 x2 x3 x4) fun y0 => K false (V.s (S.i IntKind.i64 y0)) ([])
  | _, _ => o 72 vs objs K
noncomputable def ref05_Ono (o : Orc) : Orc := hook 72 (ref05_Ona o) o
theorem ref05_Ono_ok (o : Orc) (ho : OSound Tryd.prog o) : OSound Tryd.prog (ref05_Ono o) := hook_ok ho fun vs objs K r h => by
  unfold ref05_Ona at h
  split at h
  · skip
    obtain ⟨t, h1, h2⟩ := ob_ok h
    refine anyOK_of mixed ref05_Onc_ok (fn := Tryd.f72) (b := (Tryd.f72).body.getD .skip) (by kernel_rfl) (by kernel_rfl) (by kernel_rfl) ((ref05_On_eq _ _ _ _ _).trans h1) (m := 0) rfl (AllP.of (l' := [loopOf Tryd.f72 3]) (by kernel_rfl) ⟨ref05_Ons3, trivial⟩) fun v objs' hd => ?_
    unfold ref05_Ond at hd
    split at hd
    · skip
      cases hd
      exact h2
    · cases hd
  · exact ho _ _ _ _ _ h
noncomputable def ref05_alll3d : Ex → List V → List Obj → Option (Int) := fun e vs objs => match e, vs, objs with
  | Ex.exit 0, [V.s (S.i IntKind.i64 y0)], [] => some (y0)
  | _, _, _ => none
noncomputable def ref05_allp3 {R : Type} (vs : List V) (objs : List Obj) (K : Ex → List V → List Obj → Option R) : Option R := match vs, objs with
  | [V.s (S.i IntKind.i64 x0), V.s (S.ptr 0 0 none 0), V.s (S.i IntKind.i64 x1), V.s (S.i IntKind.i64 x2)], [Obj.cells 28 [Seg.arr IntKind.i8 81 x3, Seg.arr IntKind.i8 16 x4, Seg.one [S.i IntKind.i8 x5]]] => ob (ref05_alll3 many x0 x1 x2 x3 x4 x5) fun y0 => K (Ex.exit 0) ([V.s (S.i IntKind.i64 y0)]) ([])
  | _, _ => none
noncomputable def ref05_alllp : {R : Type} → Nat → List V → List Obj → (Ex → List V → List Obj → Option R) → Option R := fun q vs objs K => bif Nat.beq q 3 then ref05_allp3 vs objs K else none
noncomputable def ref05_allc : Ctx := mkC 18 ((ref05_Ono oNil)) [(3, [1, 2, 5, 6], [5])] ref05_alllp
theorem ref05_allc_ok : CtxOK Tryd.prog ref05_allc := mkC_ok ((ref05_Ono_ok _ oNil_ok))
noncomputable def ref05_alll3r (f : Nat) (x0 x1 x2 : Int) (x3 x4 : List Int) (x5 : Int) : Option (Int) := lrun ref05_allc 0 [1, 2, 5, 6] [5] (loopOf Tryd.f68 3) f ([V.s (S.i IntKind.i64 x0), V.s (S.ptr 0 0 none 0), V.s (S.i IntKind.i64 x1), V.s (S.i IntKind.i64 x2)]) ([Obj.cells 28 [Seg.arr IntKind.i8 81 x3, Seg.arr IntKind.i8 16 x4, Seg.one [S.i IntKind.i8 x5]]]) ref05_alll3d
theorem ref05_alll3_step (f : Nat) (x0 x1 x2 : Int) (x3 x4 : List Int) (x5 : Int) : ref05_alll3r (f + 1) x0 x1 x2 x3 x4 x5 = ref05_alll3s (ref05_alll3r f) x0 x1 x2 x3 x4 x5 := by kernel_rfl
theorem ref05_alll3_eq : ∀ f, ref05_alll3r f = ref05_alll3 f
  | 0 => rfl
  | f + 1 => by funext x0 x1 x2 x3 x4 x5; rw [ref05_alll3_step, ref05_alll3_eq f]; rfl
theorem ref05_alls3 : LoopSound Tryd.prog ref05_allc 0 (loopOf Tryd.f68 3) :=
  loopSound_by mixed ref05_allc_ok (AllP.of (l' := []) (by kernel_rfl) trivial) (q := 3) (kin := [1, 2, 5, 6]) (kout := [5]) (by kernel_rfl) (by kernel_rfl) fun vs objs K r h => by
    replace h : ref05_allp3 vs objs K = some r := h
    unfold ref05_allp3 at h
    split at h
    · skip
      obtain ⟨t, h1, h2⟩ := ob_ok h
      rw [← ref05_alll3_eq] at h1
      refine ⟨_, ref05_alll3d, t, many, h1, fun e vs' objs' hd => ?_⟩
      unfold ref05_alll3d at hd
      split at hd
      · skip
        cases hd
        exact h2
      · cases hd
    · cases h
noncomputable def ref05_alld : V → List Obj → Option (Int) := fun v objs => match v, objs with
  | V.s (S.i IntKind.i64 y0), [] => some (y0)
  | _, _ => none
theorem ref05_all_eq (x0 x1 : List Int) (x2 x3 : Int) : fnE ref05_allc Tryd.f68 ([V.agg [Seg.arr IntKind.i8 81 x0, Seg.arr IntKind.i8 16 x1, Seg.one [S.i IntKind.i8 x2]], V.s (S.i IntKind.i64 x3)]) ([]) ref05_alld = ref05_all x0 x1 x2 x3 := by kernel_rfl
noncomputable def ref05_alla {R : Type} (o : Orc) (vs : List V) (objs : List Obj) (K : Bool → V → List Obj → Option R) : Option R := match vs, objs with
  | [V.agg [Seg.arr IntKind.i8 81 x0, Seg.arr IntKind.i8 16 x1, Seg.one [S.i IntKind.i8 x2]], V.s (S.i IntKind.i64 x3)], [] => ob (ref05_all x0 x1 x2 x3) fun y0 => K false (V.s (S.i IntKind.i64 y0)) ([])
  | _, _ => o 68 vs objs K
noncomputable def ref05_allo (o : Orc) : Orc := hook 68 (ref05_alla o) o
theorem ref05_allo_ok (o : Orc) (ho : OSound Tryd.prog o) : OSound Tryd.prog (ref05_allo o) := hook_ok ho fun vs objs K r h => by
  unfold ref05_alla at h
  split at h
  · skip
    obtain ⟨t, h1, h2⟩ := ob_ok h
    refine anyOK_of mixed ref05_allc_ok (fn := Tryd.f68) (b := (Tryd.f68).body.getD .skip) (by kernel_rfl) (by kernel_rfl) (by kernel_rfl) ((ref05_all_eq _ _ _ _).trans h1) (m := 0) rfl (AllP.of (l' := [loopOf Tryd.f68 3]) (by kernel_rfl) ⟨ref05_alls3, trivial⟩) fun v objs' hd => ?_
    unfold ref05_alld at hd
    split at hd
    · skip
      cases hd
      exact h2
    · cases hd
  · exact ho _ _ _ _ _ h
noncomputable def ref02_Rawc : Ctx := mkC 18 (oNil) [] lpNil
theorem ref02_Rawc_ok : CtxOK Tryd.prog ref02_Rawc := mkC_ok (oNil_ok)
noncomputable def ref02_Rawd : V → List Obj → Option (Int) := fun v objs => match v, objs with
  | V.s (S.i IntKind.i64 y0), [] => some (y0)
  | _, _ => none
theorem ref02_Raw_eq (x0 : Int) : fnE ref02_Rawc Tryd.f106 ([V.s (S.i IntKind.i64 x0)]) ([]) ref02_Rawd = ref02_Raw x0 := by kernel_rfl
noncomputable def ref02_Rawa {R : Type} (o : Orc) (vs : List V) (objs : List Obj) (K : Bool → V → List Obj → Option R) : Option R := match vs, objs with
  | [V.s (S.i IntKind.i64 x0)], [] => ob (ref02_Raw x0) fun y0 => K false (V.s (S.i IntKind.i64 y0)) ([])
  | _, _ => o 106 vs objs K
noncomputable def ref02_Rawo (o : Orc) : Orc := hook 106 (ref02_Rawa o) o
theorem ref02_Rawo_ok (o : Orc) (ho : OSound Tryd.prog o) : OSound Tryd.prog (ref02_Rawo o) := hook_ok ho fun vs objs K r h => by
  unfold ref02_Rawa at h
  split at h
  · skip
    obtain ⟨t, h1, h2⟩ := ob_ok h
    refine anyOK_of mixed ref02_Rawc_ok (fn := Tryd.f106) (b := (Tryd.f106).body.getD .skip) (by kernel_rfl) (by kernel_rfl) (by kernel_rfl) ((ref02_Raw_eq _).trans h1) (m := 0) rfl (AllP.of (l' := []) (by kernel_rfl) trivial) fun v objs' hd => ?_
    unfold ref02_Rawd at hd
    split at hd
    · skip
      cases hd
      exact h2
    · cases hd
  · exact ho _ _ _ _ _ h
noncomputable def ref05_Countl3d : Ex → List V → List Obj → Option (Int × Int × List Int × List Int × Int) := fun e vs objs => match e, vs, objs with
  | Ex.exit 0, [V.s (S.i IntKind.i64 y0), V.s (S.ptr 0 0 none 0), V.s (S.i IntKind.i64 y1)], [Obj.cells 28 [Seg.arr IntKind.i8 81 y2, Seg.arr IntKind.i8 16 y3, Seg.one [S.i IntKind.i8 y4]]] => some (y0, y1, y2, y3, y4)
  | _, _, _ => none
noncomputable def ref05_Countp3 {R : Type} (vs : List V) (objs : List Obj) (K : Ex → List V → List Obj → Option R) : Option R := match vs, objs with
  | [V.s (S.i IntKind.i64 x0), V.s (S.ptr 0 0 none 0), V.s (S.i IntKind.i64 x1), V.s (S.i IntKind.i64 x2)], [Obj.cells 28 [Seg.arr IntKind.i8 81 x3, Seg.arr IntKind.i8 16 x4, Seg.one [S.i IntKind.i8 x5]]] => ob (ref05_Countl3 many x0 x1 x2 x3 x4 x5) fun z => K (Ex.exit 0) ([V.s (S.i IntKind.i64 (z.1)), V.s (S.ptr 0 0 none 0), V.s (S.i IntKind.i64 (z.2.1))]) ([Obj.cells 28 [Seg.arr IntKind.i8 81 (z.2.2.1), Seg.arr IntKind.i8 16 (z.2.2.2.1), Seg.one [S.i IntKind.i8 (z.2.2.2.2)]]])
  | _, _ => none
noncomputable def ref05_Countlp : {R : Type} → Nat → List V → List Obj → (Ex → List V → List Obj → Option R) → Option R := fun q vs objs K => bif Nat.beq q 3 then ref05_Countp3 vs objs K else none
noncomputable def ref05_Countc : Ctx := mkC 37 ((ref02_Rawo (ref02_Kindo oNil))) [(3, [1, 2, 5, 6], [1, 2, 5])] ref05_Countlp
theorem ref05_Countc_ok : CtxOK Tryd.prog ref05_Countc := mkC_ok ((ref02_Rawo_ok _ (ref02_Kindo_ok _ oNil_ok)))
noncomputable def ref05_Countl3r (f : Nat) (x0 x1 x2 : Int) (x3 x4 : List Int) (x5 : Int) : Option (Int × Int × List Int × List Int × Int) := lrun ref05_Countc 0 [1, 2, 5, 6] [1, 2, 5] (loopOf Tryd.f69 3) f ([V.s (S.i IntKind.i64 x0), V.s (S.ptr 0 0 none 0), V.s (S.i IntKind.i64 x1), V.s (S.i IntKind.i64 x2)]) ([Obj.cells 28 [Seg.arr IntKind.i8 81 x3, Seg.arr IntKind.i8 16 x4, Seg.one [S.i IntKind.i8 x5]]]) ref05_Countl3d
theorem ref05_Countl3_step (f : Nat) (x0 x1 x2 : Int) (x3 x4 : List Int) (x5 : Int) : ref05_Countl3r (f + 1) x0 x1 x2 x3 x4 x5 = ref05_Countl3s (ref05_Countl3r f) x0 x1 x2 x3 x4 x5 := by kernel_rfl
theorem ref05_Countl3_eq : ∀ f, ref05_Countl3r f = ref05_Countl3 f
  | 0 => rfl
  | f + 1 => by funext x0 x1 x2 x3 x4 x5; rw [ref05_Countl3_step, ref05_Countl3_eq f]; rfl
theorem ref05_Counts3 : LoopSound Tryd.prog ref05_Countc 0 (loopOf Tryd.f69 3) :=
  loopSound_by mixed ref05_Countc_ok (AllP.of (l' := []) (by kernel_rfl) trivial) (q := 3) (kin := [1, 2, 5, 6]) (kout := [1, 2, 5]) (by kernel_rfl) (by kernel_rfl) fun vs objs K r h => by
    replace h : ref05_Countp3 vs objs K = some r := h
    unfold ref05_Countp3 at h
    split at h
    · skip
      obtain ⟨t, h1, h2⟩ := ob_ok h
      rw [← ref05_Countl3_eq] at h1
      refine ⟨_, ref05_Countl3d, t, many, h1, fun e vs' objs' hd => ?_⟩
      unfold ref05_Countl3d at hd
      split at hd
      · skip
        cases hd
        exact h2
      · cases hd
    · cases h
noncomputable def ref05_Countd : V → List Obj → Option (Int) := fun v objs => match v, objs with
  | V.s (S.i IntKind.i64 y0), [] => some (y0)
  | _, _ => none
theorem ref05_Count_eq (x0 x1 : List Int) (x2 x3 : Int) : fnE ref05_Countc Tryd.f69 ([V.agg [Seg.arr IntKind.i8 81 x0, Seg.arr IntKind.i8 16 x1, Seg.one [S.i IntKind.i8 x2]], V.s (S.i IntKind.i64 x3)]) ([]) ref05_Countd = ref05_Count x0 x1 x2 x3 := by kernel_rfl
noncomputable def ref05_Counta {R : Type} (o : Orc) (vs : List V) (objs : List Obj) (K : Bool → V → List Obj → Option R) : Option R := match vs, objs with
  | [V.agg [Seg.arr IntKind.i8 81 x0, Seg.arr IntKind.i8 16 x1, Seg.one [S.i IntKind.i8 x2]], V.s (S.i IntKind.i64 x3)], [] => ob (ref05_Count x0 x1 x2 x3) fun y0 => K false (V.s (S.i IntKind.i64 y0)) ([])
  | _, _ => o 69 vs objs K
noncomputable def ref05_Counto (o : Orc) : Orc := hook 69 (ref05_Counta o) o
theorem ref05_Counto_ok (o : Orc) (ho : OSound Tryd.prog o) : OSound Tryd.prog (ref05_Counto o) := hook_ok ho fun vs objs K r h => by
  unfold ref05_Counta at h
  split at h
  · skip
    obtain ⟨t, h1, h2⟩ := ob_ok h
    refine anyOK_of mixed ref05_Countc_ok (fn := Tryd.f69) (b := (Tryd.f69).body.getD .skip) (by kernel_rfl) (by kernel_rfl) (by kernel_rfl) ((ref05_Count_eq _ _ _ _).trans h1) (m := 0) rfl (AllP.of (l' := [loopOf Tryd.f69 3]) (by kernel_rfl) ⟨ref05_Counts3, trivial⟩) fun v objs' hd => ?_
    unfold ref05_Countd at hd
    split at hd
    · skip
      cases hd
      exact h2
    · cases hd
  · exact ho _ _ _ _ _ h
noncomputable def ref02_Totalc : Ctx := mkC 15 (oNil) [] lpNil
theorem ref02_Totalc_ok : CtxOK Tryd.prog ref02_Totalc := mkC_ok (oNil_ok)
noncomputable def ref02_Totald : V → List Obj → Option (Int) := fun v objs => match v, objs with
  | V.s (S.i IntKind.i64 y0), [] => some (y0)
  | _, _ => none
theorem ref02_Total_eq (x0 : Int) : fnE ref02_Totalc Tryd.f70 ([V.s (S.i IntKind.i64 x0)]) ([]) ref02_Totald = ref02_Total x0 := by kernel_rfl
noncomputable def ref02_Totala {R : Type} (o : Orc) (vs : List V) (objs : List Obj) (K : Bool → V → List Obj → Option R) : Option R := match vs, objs with
  | [V.s (S.i IntKind.i64 x0)], [] => ob (ref02_Total x0) fun y0 => K false (V.s (S.i IntKind.i64 y0)) ([])
  | _, _ => o 70 vs objs K
noncomputable def ref02_Totalo (o : Orc) : Orc := hook 70 (ref02_Totala o) o
theorem ref02_Totalo_ok (o : Orc) (ho : OSound Tryd.prog o) : OSound Tryd.prog (ref02_Totalo o) := hook_ok ho fun vs objs K r h => by
  unfold ref02_Totala at h
  split at h
  · skip
    obtain ⟨t, h1, h2⟩ := ob_ok h
    refine anyOK_of mixed ref02_Totalc_ok (fn := Tryd.f70) (b := (Tryd.f70).body.getD .skip) (by kernel_rfl) (by kernel_rfl) (by kernel_rfl) ((ref02_Total_eq _).trans h1) (m := 0) rfl (AllP.of (l' := []) (by kernel_rfl) trivial) fun v objs' hd => ?_
    unfold ref02_Totald at hd
    split at hd
    · skip
      cases hd
      exact h2
    · cases hd
  · exact ho _ _ _ _ _ h
noncomputable def ref02_Sidec : Ctx := mkC 8 ((ref02_Kindo oNil)) [] lpNil
theorem ref02_Sidec_ok : CtxOK Tryd.prog ref02_Sidec := mkC_ok ((ref02_Kindo_ok _ oNil_ok))
noncomputable def ref02_Sided : V → List Obj → Option (Int) := fun v objs => match v, objs with
  | V.s (S.i IntKind.i64 y0), [] => some (y0)
  | _, _ => none
theorem ref02_Side_eq (x0 : Int) : fnE ref02_Sidec Tryd.f34 ([V.s (S.i IntKind.i64 x0)]) ([]) ref02_Sided = ref02_Side x0 := by kernel_rfl
noncomputable def ref02_Sidea {R : Type} (o : Orc) (vs : List V) (objs : List Obj) (K : Bool → V → List Obj → Option R) : Option R := match vs, objs with
  | [V.s (S.i IntKind.i64 x0)], [] => ob (ref02_Side x0) fun y0 => K false (V.s (S.i IntKind.i64 y0)) ([])
  | _, _ => o 34 vs objs K
noncomputable def ref02_Sideo (o : Orc) : Orc := hook 34 (ref02_Sidea o) o
theorem ref02_Sideo_ok (o : Orc) (ho : OSound Tryd.prog o) : OSound Tryd.prog (ref02_Sideo o) := hook_ok ho fun vs objs K r h => by
  unfold ref02_Sidea at h
  split at h
  · skip
    obtain ⟨t, h1, h2⟩ := ob_ok h
    refine anyOK_of mixed ref02_Sidec_ok (fn := Tryd.f34) (b := (Tryd.f34).body.getD .skip) (by kernel_rfl) (by kernel_rfl) (by kernel_rfl) ((ref02_Side_eq _).trans h1) (m := 0) rfl (AllP.of (l' := []) (by kernel_rfl) trivial) fun v objs' hd => ?_
    unfold ref02_Sided at hd
    split at hd
    · skip
      cases hd
      exact h2
    · cases hd
  · exact ho _ _ _ _ _ h
noncomputable def ref03_Farc : Ctx := mkC 26 (oNil) [] lpNil
theorem ref03_Farc_ok : CtxOK Tryd.prog ref03_Farc := mkC_ok (oNil_ok)
noncomputable def ref03_Fard : V → List Obj → Option (Int) := fun v objs => match v, objs with
  | V.s (S.i IntKind.i64 y0), [] => some (y0)
  | _, _ => none
theorem ref03_Far_eq (x0 x1 : Int) : fnE ref03_Farc Tryd.f80 ([V.s (S.i IntKind.i64 x0), V.s (S.i IntKind.i64 x1)]) ([]) ref03_Fard = ref03_Far x0 x1 := by kernel_rfl
noncomputable def ref03_Fara {R : Type} (o : Orc) (vs : List V) (objs : List Obj) (K : Bool → V → List Obj → Option R) : Option R := match vs, objs with
  | [V.s (S.i IntKind.i64 x0), V.s (S.i IntKind.i64 x1)], [] => ob (ref03_Far x0 x1) fun y0 => K false (V.s (S.i IntKind.i64 y0)) ([])
  | _, _ => o 80 vs objs K
noncomputable def ref03_Faro (o : Orc) : Orc := hook 80 (ref03_Fara o) o
theorem ref03_Faro_ok (o : Orc) (ho : OSound Tryd.prog o) : OSound Tryd.prog (ref03_Faro o) := hook_ok ho fun vs objs K r h => by
  unfold ref03_Fara at h
  split at h
  · skip
    obtain ⟨t, h1, h2⟩ := ob_ok h
    refine anyOK_of mixed ref03_Farc_ok (fn := Tryd.f80) (b := (Tryd.f80).body.getD .skip) (by kernel_rfl) (by kernel_rfl) (by kernel_rfl) ((ref03_Far_eq _ _).trans h1) (m := 0) rfl (AllP.of (l' := []) (by kernel_rfl) trivial) fun v objs' hd => ?_
    unfold ref03_Fard at hd
    split at hd
    · skip
      cases hd
      exact h2
    · cases hd
  · exact ho _ _ _ _ _ h
noncomputable def ref03_Deadc : Ctx := mkC 35 ((ref02_Kindo (ref03_Faro (ref02_Sideo oNil)))) [] lpNil
theorem ref03_Deadc_ok : CtxOK Tryd.prog ref03_Deadc := mkC_ok ((ref02_Kindo_ok _ (ref03_Faro_ok _ (ref02_Sideo_ok _ oNil_ok))))
noncomputable def ref03_Deadd : V → List Obj → Option (Bool) := fun v objs => match v, objs with
  | V.s (S.b y0), [] => some (y0)
  | _, _ => none
theorem ref03_Dead_eq (x0 x1 : Int) : fnE ref03_Deadc Tryd.f71 ([V.s (S.i IntKind.i64 x0), V.s (S.i IntKind.i64 x1)]) ([]) ref03_Deadd = ref03_Dead x0 x1 := by kernel_rfl
noncomputable def ref03_Deada {R : Type} (o : Orc) (vs : List V) (objs : List Obj) (K : Bool → V → List Obj → Option R) : Option R := match vs, objs with
  | [V.s (S.i IntKind.i64 x0), V.s (S.i IntKind.i64 x1)], [] => ob (ref03_Dead x0 x1) fun y0 => K false (V.s (S.b y0)) ([])
  | _, _ => o 71 vs objs K
noncomputable def ref03_Deado (o : Orc) : Orc := hook 71 (ref03_Deada o) o
theorem ref03_Deado_ok (o : Orc) (ho : OSound Tryd.prog o) : OSound Tryd.prog (ref03_Deado o) := hook_ok ho fun vs objs K r h => by
  unfold ref03_Deada at h
  split at h
  · skip
    obtain ⟨t, h1, h2⟩ := ob_ok h
    refine anyOK_of mixed ref03_Deadc_ok (fn := Tryd.f71) (b := (Tryd.f71).body.getD .skip) (by kernel_rfl) (by kernel_rfl) (by kernel_rfl) ((ref03_Dead_eq _ _).trans h1) (m := 0) rfl (AllP.of (l' := []) (by kernel_rfl) trivial) fun v objs' hd => ?_
    unfold ref03_Deadd at hd
    split at hd
    · skip
      cases hd
      exact h2
    · cases hd
  · exact ho _ _ _ _ _ h
noncomputable def ref05_Checkl4d : Ex → List V → List Obj → Option ((Int × List Int × List Int × Int) ⊕ (List Int × List Int × Int)) := fun e vs objs => match e, vs, objs with
  | Ex.ret, [V.s (S.ptr 0 0 none 0), V.s (S.i IntKind.i64 y0)], [Obj.cells 28 [Seg.arr IntKind.i8 81 y1, Seg.arr IntKind.i8 16 y2, Seg.one [S.i IntKind.i8 y3]]] => some (Sum.inl (y0, y1, y2, y3))
  | Ex.exit 0, [V.s (S.ptr 0 0 none 0), V.s S.bad], [Obj.cells 28 [Seg.arr IntKind.i8 81 y0, Seg.arr IntKind.i8 16 y1, Seg.one [S.i IntKind.i8 y2]]] => some (Sum.inr (y0, y1, y2))
  | _, _, _ => none
noncomputable def ref05_Checkl12d : Ex → List V → List Obj → Option ((Int × Int × List Int × List Int × Int) ⊕ (Int × List Int × List Int × Int)) := fun e vs objs => match e, vs, objs with
  | Ex.ret, [V.s (S.ptr 0 0 none 0), V.s (S.i IntKind.i64 y0), V.s (S.i IntKind.i64 y1)], [Obj.cells 28 [Seg.arr IntKind.i8 81 y2, Seg.arr IntKind.i8 16 y3, Seg.one [S.i IntKind.i8 y4]]] => some (Sum.inl (y0, y1, y2, y3, y4))
  | Ex.exit 4, [V.s (S.ptr 0 0 none 0), V.s S.bad, V.s (S.i IntKind.i64 y0)], [Obj.cells 28 [Seg.arr IntKind.i8 81 y1, Seg.arr IntKind.i8 16 y2, Seg.one [S.i IntKind.i8 y3]]] => some (Sum.inr (y0, y1, y2, y3))
  | _, _, _ => none
noncomputable def ref05_Checkl9d : Ex → List V → List Obj → Option ((Int × List Int × List Int × Int) ⊕ (List Int × List Int × Int)) := fun e vs objs => match e, vs, objs with
  | Ex.ret, [V.s (S.ptr 0 0 none 0), V.s (S.i IntKind.i64 y0)], [Obj.cells 28 [Seg.arr IntKind.i8 81 y1, Seg.arr IntKind.i8 16 y2, Seg.one [S.i IntKind.i8 y3]]] => some (Sum.inl (y0, y1, y2, y3))
  | Ex.exit 2, [V.s (S.ptr 0 0 none 0), V.s S.bad], [Obj.cells 28 [Seg.arr IntKind.i8 81 y0, Seg.arr IntKind.i8 16 y1, Seg.one [S.i IntKind.i8 y2]]] => some (Sum.inr (y0, y1, y2))
  | _, _, _ => none
noncomputable def ref05_Checkl20d : Ex → List V → List Obj → Option ((Int × List Int × List Int × Int) ⊕ (List Int × List Int × Int)) := fun e vs objs => match e, vs, objs with
  | Ex.ret, [V.s (S.ptr 0 0 none 0), V.s (S.i IntKind.i64 y0)], [Obj.cells 28 [Seg.arr IntKind.i8 81 y1, Seg.arr IntKind.i8 16 y2, Seg.one [S.i IntKind.i8 y3]]] => some (Sum.inl (y0, y1, y2, y3))
  | Ex.exit 6, [V.s (S.ptr 0 0 none 0), V.s S.bad], [Obj.cells 28 [Seg.arr IntKind.i8 81 y0, Seg.arr IntKind.i8 16 y1, Seg.one [S.i IntKind.i8 y2]]] => some (Sum.inr (y0, y1, y2))
  | _, _, _ => none
noncomputable def ref05_Checkl25d : Ex → List V → List Obj → Option ((Int × List Int × List Int × Int) ⊕ (List Int × List Int × Int)) := fun e vs objs => match e, vs, objs with
  | Ex.ret, [V.s (S.ptr 0 0 none 0), V.s (S.i IntKind.i64 y0)], [Obj.cells 28 [Seg.arr IntKind.i8 81 y1, Seg.arr IntKind.i8 16 y2, Seg.one [S.i IntKind.i8 y3]]] => some (Sum.inl (y0, y1, y2, y3))
  | Ex.exit 8, [V.s (S.ptr 0 0 none 0), V.s S.bad], [Obj.cells 28 [Seg.arr IntKind.i8 81 y0, Seg.arr IntKind.i8 16 y1, Seg.one [S.i IntKind.i8 y2]]] => some (Sum.inr (y0, y1, y2))
  | _, _, _ => none
noncomputable def ref05_Checkl30d : Ex → List V → List Obj → Option ((Int) ⊕ (Unit)) := fun e vs objs => match e, vs, objs with
  | Ex.ret, [V.s (S.i IntKind.i64 y0)], [] => some (Sum.inl (y0))
  | Ex.exit 10, [V.s S.bad], [] => some (Sum.inr ())
  | _, _, _ => none
noncomputable def ref05_Checkp4 {R : Type} (vs : List V) (objs : List Obj) (K : Ex → List V → List Obj → Option R) : Option R := match vs, objs with
  | [V.s (S.ptr 0 0 none 0), V.s (S.i IntKind.i64 x0)], [Obj.cells 28 [Seg.arr IntKind.i8 81 x1, Seg.arr IntKind.i8 16 x2, Seg.one [S.i IntKind.i8 x3]]] => ob (ref05_Checkl4 many x0 x1 x2 x3) fun t0 => sw t0 (fun z => K (Ex.ret) ([V.s (S.ptr 0 0 none 0), V.s (S.i IntKind.i64 (z.1))]) ([Obj.cells 28 [Seg.arr IntKind.i8 81 (z.2.1), Seg.arr IntKind.i8 16 (z.2.2.1), Seg.one [S.i IntKind.i8 (z.2.2.2)]]])) (fun z => K (Ex.exit 0) ([V.s (S.ptr 0 0 none 0), V.s S.bad]) ([Obj.cells 28 [Seg.arr IntKind.i8 81 (z.1), Seg.arr IntKind.i8 16 (z.2.1), Seg.one [S.i IntKind.i8 (z.2.2)]]]))
  | _, _ => none
noncomputable def ref05_Checkp12 {R : Type} (vs : List V) (objs : List Obj) (K : Ex → List V → List Obj → Option R) : Option R := match vs, objs with
  | [V.s (S.ptr 0 0 none 0), V.s (S.i IntKind.i64 x0), V.s (S.i IntKind.i64 x1)], [Obj.cells 28 [Seg.arr IntKind.i8 81 x2, Seg.arr IntKind.i8 16 x3, Seg.one [S.i IntKind.i8 x4]]] => ob (ref05_Checkl12 many x0 x1 x2 x3 x4) fun t0 => sw t0 (fun z => K (Ex.ret) ([V.s (S.ptr 0 0 none 0), V.s (S.i IntKind.i64 (z.1)), V.s (S.i IntKind.i64 (z.2.1))]) ([Obj.cells 28 [Seg.arr IntKind.i8 81 (z.2.2.1), Seg.arr IntKind.i8 16 (z.2.2.2.1), Seg.one [S.i IntKind.i8 (z.2.2.2.2)]]])) (fun z => K (Ex.exit 4) ([V.s (S.ptr 0 0 none 0), V.s S.bad, V.s (S.i IntKind.i64 (z.1))]) ([Obj.cells 28 [Seg.arr IntKind.i8 81 (z.2.1), Seg.arr IntKind.i8 16 (z.2.2.1), Seg.one [S.i IntKind.i8 (z.2.2.2)]]]))
  | _, _ => none
noncomputable def ref05_Checkp9 {R : Type} (vs : List V) (objs : List Obj) (K : Ex → List V → List Obj → Option R) : Option R := match vs, objs with
  | [V.s (S.ptr 0 0 none 0), V.s (S.i IntKind.i64 x0)], [Obj.cells 28 [Seg.arr IntKind.i8 81 x1, Seg.arr IntKind.i8 16 x2, Seg.one [S.i IntKind.i8 x3]]] => ob (ref05_Checkl9 many x0 x1 x2 x3) fun t0 => sw t0 (fun z => K (Ex.ret) ([V.s (S.ptr 0 0 none 0), V.s (S.i IntKind.i64 (z.1))]) ([Obj.cells 28 [Seg.arr IntKind.i8 81 (z.2.1), Seg.arr IntKind.i8 16 (z.2.2.1), Seg.one [S.i IntKind.i8 (z.2.2.2)]]])) (fun z => K (Ex.exit 2) ([V.s (S.ptr 0 0 none 0), V.s S.bad]) ([Obj.cells 28 [Seg.arr IntKind.i8 81 (z.1), Seg.arr IntKind.i8 16 (z.2.1), Seg.one [S.i IntKind.i8 (z.2.2)]]]))
  | _, _ => none
noncomputable def ref05_Checkp20 {R : Type} (vs : List V) (objs : List Obj) (K : Ex → List V → List Obj → Option R) : Option R := match vs, objs with
  | [V.s (S.ptr 0 0 none 0), V.s (S.i IntKind.i64 x0)], [Obj.cells 28 [Seg.arr IntKind.i8 81 x1, Seg.arr IntKind.i8 16 x2, Seg.one [S.i IntKind.i8 x3]]] => ob (ref05_Checkl20 many x0 x1 x2 x3) fun t0 => sw t0 (fun z => K (Ex.ret) ([V.s (S.ptr 0 0 none 0), V.s (S.i IntKind.i64 (z.1))]) ([Obj.cells 28 [Seg.arr IntKind.i8 81 (z.2.1), Seg.arr IntKind.i8 16 (z.2.2.1), Seg.one [S.i IntKind.i8 (z.2.2.2)]]])) (fun z => K (Ex.exit 6) ([V.s (S.ptr 0 0 none 0), V.s S.bad]) ([Obj.cells 28 [Seg.arr IntKind.i8 81 (z.1), Seg.arr IntKind.i8 16 (z.2.1), Seg.one [S.i IntKind.i8 (z.2.2)]]]))
  | _, _ => none
noncomputable def ref05_Checkp25 {R : Type} (vs : List V) (objs : List Obj) (K : Ex → List V → List Obj → Option R) : Option R := match vs, objs with
  | [V.s (S.ptr 0 0 none 0), V.s (S.i IntKind.i64 x0)], [Obj.cells 28 [Seg.arr IntKind.i8 81 x1, Seg.arr IntKind.i8 16 x2, Seg.one [S.i IntKind.i8 x3]]] => ob (ref05_Checkl25 many x0 x1 x2 x3) fun t0 => sw t0 (fun z => K (Ex.ret) ([V.s (S.ptr 0 0 none 0), V.s (S.i IntKind.i64 (z.1))]) ([Obj.cells 28 [Seg.arr IntKind.i8 81 (z.2.1), Seg.arr IntKind.i8 16 (z.2.2.1), Seg.one [S.i IntKind.i8 (z.2.2.2)]]])) (fun z => K (Ex.exit 8) ([V.s (S.ptr 0 0 none 0), V.s S.bad]) ([Obj.cells 28 [Seg.arr IntKind.i8 81 (z.1), Seg.arr IntKind.i8 16 (z.2.1), Seg.one [S.i IntKind.i8 (z.2.2)]]]))
  | _, _ => none
noncomputable def ref05_Checkp30 {R : Type} (vs : List V) (objs : List Obj) (K : Ex → List V → List Obj → Option R) : Option R := match vs, objs with
  | [V.s (S.ptr 0 0 none 0), V.s (S.i IntKind.i64 x0)], [Obj.cells 28 [Seg.arr IntKind.i8 81 x1, Seg.arr IntKind.i8 16 x2, Seg.one [S.i IntKind.i8 x3]]] => ob (ref05_Checkl30 many x0 x1 x2 x3) fun t0 => sw t0 (fun y0 => K (Ex.ret) ([V.s (S.i IntKind.i64 y0)]) ([])) (fun _ => K (Ex.exit 10) ([V.s S.bad]) ([]))
  | _, _ => none
noncomputable def ref05_Checklp : {R : Type} → Nat → List V → List Obj → (Ex → List V → List Obj → Option R) → Option R := fun q vs objs K => bif Nat.beq q 4 then ref05_Checkp4 vs objs K else bif Nat.beq q 12 then ref05_Checkp12 vs objs K else bif Nat.beq q 9 then ref05_Checkp9 vs objs K else bif Nat.beq q 20 then ref05_Checkp20 vs objs K else bif Nat.beq q 25 then ref05_Checkp25 vs objs K else bif Nat.beq q 30 then ref05_Checkp30 vs objs K else none
noncomputable def ref05_Checkc : Ctx := mkC 103 ((ref05_Ono (ref03_Deado (ref02_Totalo (ref05_Counto (ref05_allo (ref02_Kindo oNil))))))) [(4, [1, 3], [1, 2]), (9, [1, 4], [1, 2]), (12, [1, 4, 5], [1, 2, 4]), (20, [1, 7], [1, 2]), (25, [1, 8], [1, 2]), (30, [1, 9], [2])] ref05_Checklp
theorem ref05_Checkc_ok : CtxOK Tryd.prog ref05_Checkc := mkC_ok ((ref05_Ono_ok _ (ref03_Deado_ok _ (ref02_Totalo_ok _ (ref05_Counto_ok _ (ref05_allo_ok _ (ref02_Kindo_ok _ oNil_ok)))))))
noncomputable def ref05_Checkl4r (f : Nat) (x0 : Int) (x1 x2 : List Int) (x3 : Int) : Option ((Int × List Int × List Int × Int) ⊕ (List Int × List Int × Int)) := lrun ref05_Checkc 0 [1, 3] [1, 2] (loopOf Tryd.f22 4) f ([V.s (S.ptr 0 0 none 0), V.s (S.i IntKind.i64 x0)]) ([Obj.cells 28 [Seg.arr IntKind.i8 81 x1, Seg.arr IntKind.i8 16 x2, Seg.one [S.i IntKind.i8 x3]]]) ref05_Checkl4d
theorem ref05_Checkl4_step (f : Nat) (x0 : Int) (x1 x2 : List Int) (x3 : Int) : ref05_Checkl4r (f + 1) x0 x1 x2 x3 = ref05_Checkl4s (ref05_Checkl4r f) x0 x1 x2 x3 := by kernel_rfl
theorem ref05_Checkl4_eq : ∀ f, ref05_Checkl4r f = ref05_Checkl4 f
  | 0 => rfl
  | f + 1 => by funext x0 x1 x2 x3; rw [ref05_Checkl4_step, ref05_Checkl4_eq f]; rfl
noncomputable def ref05_Checkl12r (f : Nat) (x0 x1 : Int) (x2 x3 : List Int) (x4 : Int) : Option ((Int × Int × List Int × List Int × Int) ⊕ (Int × List Int × List Int × Int)) := lrun ref05_Checkc 0 [1, 4, 5] [1, 2, 4] (loopOf Tryd.f22 12) f ([V.s (S.ptr 0 0 none 0), V.s (S.i IntKind.i64 x0), V.s (S.i IntKind.i64 x1)]) ([Obj.cells 28 [Seg.arr IntKind.i8 81 x2, Seg.arr IntKind.i8 16 x3, Seg.one [S.i IntKind.i8 x4]]]) ref05_Checkl12d
theorem ref05_Checkl12_step (f : Nat) (x0 x1 : Int) (x2 x3 : List Int) (x4 : Int) : ref05_Checkl12r (f + 1) x0 x1 x2 x3 x4 = ref05_Checkl12s (ref05_Checkl12r f) x0 x1 x2 x3 x4 := by kernel_rfl
theorem ref05_Checkl12_eq : ∀ f, ref05_Checkl12r f = ref05_Checkl12 f
  | 0 => rfl
  | f + 1 => by funext x0 x1 x2 x3 x4; rw [ref05_Checkl12_step, ref05_Checkl12_eq f]; rfl
noncomputable def ref05_Checkl9r (f : Nat) (x0 : Int) (x1 x2 : List Int) (x3 : Int) : Option ((Int × List Int × List Int × Int) ⊕ (List Int × List Int × Int)) := lrun ref05_Checkc 0 [1, 4] [1, 2] (loopOf Tryd.f22 9) f ([V.s (S.ptr 0 0 none 0), V.s (S.i IntKind.i64 x0)]) ([Obj.cells 28 [Seg.arr IntKind.i8 81 x1, Seg.arr IntKind.i8 16 x2, Seg.one [S.i IntKind.i8 x3]]]) ref05_Checkl9d
theorem ref05_Checkl9_step (f : Nat) (x0 : Int) (x1 x2 : List Int) (x3 : Int) : ref05_Checkl9r (f + 1) x0 x1 x2 x3 = ref05_Checkl9s (ref05_Checkl9r f) x0 x1 x2 x3 := by kernel_rfl
theorem ref05_Checkl9_eq : ∀ f, ref05_Checkl9r f = ref05_Checkl9 f
  | 0 => rfl
  | f + 1 => by funext x0 x1 x2 x3; rw [ref05_Checkl9_step, ref05_Checkl9_eq f]; rfl
noncomputable def ref05_Checkl20r (f : Nat) (x0 : Int) (x1 x2 : List Int) (x3 : Int) : Option ((Int × List Int × List Int × Int) ⊕ (List Int × List Int × Int)) := lrun ref05_Checkc 0 [1, 7] [1, 2] (loopOf Tryd.f22 20) f ([V.s (S.ptr 0 0 none 0), V.s (S.i IntKind.i64 x0)]) ([Obj.cells 28 [Seg.arr IntKind.i8 81 x1, Seg.arr IntKind.i8 16 x2, Seg.one [S.i IntKind.i8 x3]]]) ref05_Checkl20d
theorem ref05_Checkl20_step (f : Nat) (x0 : Int) (x1 x2 : List Int) (x3 : Int) : ref05_Checkl20r (f + 1) x0 x1 x2 x3 = ref05_Checkl20s (ref05_Checkl20r f) x0 x1 x2 x3 := by kernel_rfl
theorem ref05_Checkl20_eq : ∀ f, ref05_Checkl20r f = ref05_Checkl20 f
  | 0 => rfl
  | f + 1 => by funext x0 x1 x2 x3; rw [ref05_Checkl20_step, ref05_Checkl20_eq f]; rfl
noncomputable def ref05_Checkl25r (f : Nat) (x0 : Int) (x1 x2 : List Int) (x3 : Int) : Option ((Int × List Int × List Int × Int) ⊕ (List Int × List Int × Int)) := lrun ref05_Checkc 0 [1, 8] [1, 2] (loopOf Tryd.f22 25) f ([V.s (S.ptr 0 0 none 0), V.s (S.i IntKind.i64 x0)]) ([Obj.cells 28 [Seg.arr IntKind.i8 81 x1, Seg.arr IntKind.i8 16 x2, Seg.one [S.i IntKind.i8 x3]]]) ref05_Checkl25d
theorem ref05_Checkl25_step (f : Nat) (x0 : Int) (x1 x2 : List Int) (x3 : Int) : ref05_Checkl25r (f + 1) x0 x1 x2 x3 = ref05_Checkl25s (ref05_Checkl25r f) x0 x1 x2 x3 := by kernel_rfl
theorem ref05_Checkl25_eq : ∀ f, ref05_Checkl25r f = ref05_Checkl25 f
  | 0 => rfl
  | f + 1 => by funext x0 x1 x2 x3; rw [ref05_Checkl25_step, ref05_Checkl25_eq f]; rfl
noncomputable def ref05_Checkl30r (f : Nat) (x0 : Int) (x1 x2 : List Int) (x3 : Int) : Option ((Int) ⊕ (Unit)) := lrun ref05_Checkc 0 [1, 9] [2] (loopOf Tryd.f22 30) f ([V.s (S.ptr 0 0 none 0), V.s (S.i IntKind.i64 x0)]) ([Obj.cells 28 [Seg.arr IntKind.i8 81 x1, Seg.arr IntKind.i8 16 x2, Seg.one [S.i IntKind.i8 x3]]]) ref05_Checkl30d
theorem ref05_Checkl30_step (f : Nat) (x0 : Int) (x1 x2 : List Int) (x3 : Int) : ref05_Checkl30r (f + 1) x0 x1 x2 x3 = ref05_Checkl30s (ref05_Checkl30r f) x0 x1 x2 x3 := by kernel_rfl
theorem ref05_Checkl30_eq : ∀ f, ref05_Checkl30r f = ref05_Checkl30 f
  | 0 => rfl
  | f + 1 => by funext x0 x1 x2 x3; rw [ref05_Checkl30_step, ref05_Checkl30_eq f]; rfl
theorem ref05_Checks4 : LoopSound Tryd.prog ref05_Checkc 0 (loopOf Tryd.f22 4) :=
  loopSound_by mixed ref05_Checkc_ok (AllP.of (l' := []) (by kernel_rfl) trivial) (q := 4) (kin := [1, 3]) (kout := [1, 2]) (by kernel_rfl) (by kernel_rfl) fun vs objs K r h => by
    replace h : ref05_Checkp4 vs objs K = some r := h
    unfold ref05_Checkp4 at h
    split at h
    · skip
      obtain ⟨t, h1, h2⟩ := ob_ok h
      rw [← ref05_Checkl4_eq] at h1
      refine ⟨_, ref05_Checkl4d, t, many, h1, fun e vs' objs' hd => ?_⟩
      unfold ref05_Checkl4d at hd
      split at hd
      · skip
        cases hd
        exact h2
      · skip
        cases hd
        exact h2
      · cases hd
    · cases h
theorem ref05_Checks12 : LoopSound Tryd.prog ref05_Checkc 0 (loopOf Tryd.f22 12) :=
  loopSound_by mixed ref05_Checkc_ok (AllP.of (l' := []) (by kernel_rfl) trivial) (q := 12) (kin := [1, 4, 5]) (kout := [1, 2, 4]) (by kernel_rfl) (by kernel_rfl) fun vs objs K r h => by
    replace h : ref05_Checkp12 vs objs K = some r := h
    unfold ref05_Checkp12 at h
    split at h
    · skip
      obtain ⟨t, h1, h2⟩ := ob_ok h
      rw [← ref05_Checkl12_eq] at h1
      refine ⟨_, ref05_Checkl12d, t, many, h1, fun e vs' objs' hd => ?_⟩
      unfold ref05_Checkl12d at hd
      split at hd
      · skip
        cases hd
        exact h2
      · skip
        cases hd
        exact h2
      · cases hd
    · cases h
theorem ref05_Checks20 : LoopSound Tryd.prog ref05_Checkc 0 (loopOf Tryd.f22 20) :=
  loopSound_by mixed ref05_Checkc_ok (AllP.of (l' := []) (by kernel_rfl) trivial) (q := 20) (kin := [1, 7]) (kout := [1, 2]) (by kernel_rfl) (by kernel_rfl) fun vs objs K r h => by
    replace h : ref05_Checkp20 vs objs K = some r := h
    unfold ref05_Checkp20 at h
    split at h
    · skip
      obtain ⟨t, h1, h2⟩ := ob_ok h
      rw [← ref05_Checkl20_eq] at h1
      refine ⟨_, ref05_Checkl20d, t, many, h1, fun e vs' objs' hd => ?_⟩
      unfold ref05_Checkl20d at hd
      split at hd
      · skip
        cases hd
        exact h2
      · skip
        cases hd
        exact h2
      · cases hd
    · cases h
theorem ref05_Checks25 : LoopSound Tryd.prog ref05_Checkc 0 (loopOf Tryd.f22 25) :=
  loopSound_by mixed ref05_Checkc_ok (AllP.of (l' := []) (by kernel_rfl) trivial) (q := 25) (kin := [1, 8]) (kout := [1, 2]) (by kernel_rfl) (by kernel_rfl) fun vs objs K r h => by
    replace h : ref05_Checkp25 vs objs K = some r := h
    unfold ref05_Checkp25 at h
    split at h
    · skip
      obtain ⟨t, h1, h2⟩ := ob_ok h
      rw [← ref05_Checkl25_eq] at h1
      refine ⟨_, ref05_Checkl25d, t, many, h1, fun e vs' objs' hd => ?_⟩
      unfold ref05_Checkl25d at hd
      split at hd
      · skip
        cases hd
        exact h2
      · skip
        cases hd
        exact h2
      · cases hd
    · cases h
theorem ref05_Checks30 : LoopSound Tryd.prog ref05_Checkc 0 (loopOf Tryd.f22 30) :=
  loopSound_by mixed ref05_Checkc_ok (AllP.of (l' := []) (by kernel_rfl) trivial) (q := 30) (kin := [1, 9]) (kout := [2]) (by kernel_rfl) (by kernel_rfl) fun vs objs K r h => by
    replace h : ref05_Checkp30 vs objs K = some r := h
    unfold ref05_Checkp30 at h
    split at h
    · skip
      obtain ⟨t, h1, h2⟩ := ob_ok h
      rw [← ref05_Checkl30_eq] at h1
      refine ⟨_, ref05_Checkl30d, t, many, h1, fun e vs' objs' hd => ?_⟩
      unfold ref05_Checkl30d at hd
      split at hd
      · skip
        cases hd
        exact h2
      · skip
        cases hd
        exact h2
      · cases hd
    · cases h
theorem ref05_Checks9 : LoopSound Tryd.prog ref05_Checkc 0 (loopOf Tryd.f22 9) :=
  loopSound_by mixed ref05_Checkc_ok (AllP.of (l' := [loopOf Tryd.f22 12]) (by kernel_rfl) ⟨ref05_Checks12, trivial⟩) (q := 9) (kin := [1, 4]) (kout := [1, 2]) (by kernel_rfl) (by kernel_rfl) fun vs objs K r h => by
    replace h : ref05_Checkp9 vs objs K = some r := h
    unfold ref05_Checkp9 at h
    split at h
    · skip
      obtain ⟨t, h1, h2⟩ := ob_ok h
      rw [← ref05_Checkl9_eq] at h1
      refine ⟨_, ref05_Checkl9d, t, many, h1, fun e vs' objs' hd => ?_⟩
      unfold ref05_Checkl9d at hd
      split at hd
      · skip
        cases hd
        exact h2
      · skip
        cases hd
        exact h2
      · cases hd
    · cases h
noncomputable def ref05_Checkd : V → List Obj → Option (Int) := fun v objs => match v, objs with
  | V.s (S.i IntKind.i64 y0), [] => some (y0)
  | _, _ => none
theorem ref05_Check_eq (x0 x1 : List Int) (x2 : Int) : fnE ref05_Checkc Tryd.f22 ([V.agg [Seg.arr IntKind.i8 81 x0, Seg.arr IntKind.i8 16 x1, Seg.one [S.i IntKind.i8 x2]]]) ([]) ref05_Checkd = ref05_Check x0 x1 x2 := by kernel_rfl
noncomputable def ref05_Checka {R : Type} (o : Orc) (vs : List V) (objs : List Obj) (K : Bool → V → List Obj → Option R) : Option R := match vs, objs with
  | [V.agg [Seg.arr IntKind.i8 81 x0, Seg.arr IntKind.i8 16 x1, Seg.one [S.i IntKind.i8 x2]]], [] => ob (ref05_Check x0 x1 x2) fun y0 => K false (V.s (S.i IntKind.i64 y0)) ([])
  | _, _ => o 22 vs objs K
noncomputable def ref05_Checko (o : Orc) : Orc := hook 22 (ref05_Checka o) o
theorem ref05_Checko_ok (o : Orc) (ho : OSound Tryd.prog o) : OSound Tryd.prog (ref05_Checko o) := hook_ok ho fun vs objs K r h => by
  unfold ref05_Checka at h
  split at h
  · skip
    obtain ⟨t, h1, h2⟩ := ob_ok h
    refine anyOK_of mixed ref05_Checkc_ok (fn := Tryd.f22) (b := (Tryd.f22).body.getD .skip) (by kernel_rfl) (by kernel_rfl) (by kernel_rfl) ((ref05_Check_eq _ _ _).trans h1) (m := 0) rfl (AllP.of (l' := [loopOf Tryd.f22 4, loopOf Tryd.f22 9, loopOf Tryd.f22 20, loopOf Tryd.f22 25, loopOf Tryd.f22 30]) (by kernel_rfl) ⟨ref05_Checks4, ref05_Checks9, ref05_Checks20, ref05_Checks25, ref05_Checks30, trivial⟩) fun v objs' hd => ?_
    unfold ref05_Checkd at hd
    split at hd
    · skip
      cases hd
      exact h2
    · cases hd
  · exact ho _ _ _ _ _ h
noncomputable def set_Squaresl2d : Ex → List V → List Obj → Option (Nat × Int × Int × Nat × List Int) := fun e vs objs => match e, vs, objs with
  | Ex.exit 0, [V.s (S.ptr 0 0 none 0), V.s (S.sl 1 0 y0 true)], [Obj.cells 57 [Seg.one [S.i IntKind.u64 y1, S.i IntKind.u64 y2]], Obj.sli 3 false (Seg.arr IntKind.i64 y3 y4)] => some (y0, y1, y2, y3, y4)
  | _, _, _ => none
noncomputable def set_Squaresl5d : Ex → List V → List Obj → Option (Nat × Nat × List Int) := fun e vs objs => match e, vs, objs with
  | Ex.exit 2, [V.s (S.sl 0 0 y0 true)], [Obj.sli 3 false (Seg.arr IntKind.i64 y1 y2)] => some (y0, y1, y2)
  | _, _, _ => none
noncomputable def set_Squaresp2 {R : Type} (vs : List V) (objs : List Obj) (K : Ex → List V → List Obj → Option R) : Option R := match vs, objs with
  | [V.s (S.ptr 0 0 none 0), V.s (S.sl 1 0 x0 true)], [Obj.cells 57 [Seg.one [S.i IntKind.u64 x1, S.i IntKind.u64 x2]], Obj.sli 3 false (Seg.arr IntKind.i64 x3 x4)] => ob (set_Squaresl2 many x0 x1 x2 x3 x4) fun z => K (Ex.exit 0) ([V.s (S.ptr 0 0 none 0), V.s (S.sl 1 0 (z.1) true)]) ([Obj.cells 57 [Seg.one [S.i IntKind.u64 (z.2.1), S.i IntKind.u64 (z.2.2.1)]], Obj.sli 3 false (Seg.arr IntKind.i64 (z.2.2.2.1) (z.2.2.2.2))])
  | _, _ => none
noncomputable def set_Squaresp5 {R : Type} (vs : List V) (objs : List Obj) (K : Ex → List V → List Obj → Option R) : Option R := match vs, objs with
  | [V.s (S.ptr 0 0 none 0), V.s (S.sl 1 0 x0 true)], [Obj.cells 57 [Seg.one [S.i IntKind.u64 x1, S.i IntKind.u64 x2]], Obj.sli 3 false (Seg.arr IntKind.i64 x3 x4)] => ob (set_Squaresl5 many x0 x1 x2 x3 x4) fun z => K (Ex.exit 2) ([V.s (S.sl 0 0 (z.1) true)]) ([Obj.sli 3 false (Seg.arr IntKind.i64 (z.2.1) (z.2.2))])
  | _, _ => none
noncomputable def set_Squareslp : {R : Type} → Nat → List V → List Obj → (Ex → List V → List Obj → Option R) → Option R := fun q vs objs K => bif Nat.beq q 2 then set_Squaresp2 vs objs K else bif Nat.beq q 5 then set_Squaresp5 vs objs K else none
noncomputable def set_Squaresc : Ctx := mkC 38 ((bits_TrailingZeros64o oNil)) [(2, [1, 3], [1, 3]), (5, [1, 3], [3])] set_Squareslp
theorem set_Squaresc_ok : CtxOK Tryd.prog set_Squaresc := mkC_ok ((bits_TrailingZeros64o_ok _ oNil_ok))
noncomputable def set_Squaresl2r (f : Nat) (x0 : Nat) (x1 x2 : Int) (x3 : Nat) (x4 : List Int) : Option (Nat × Int × Int × Nat × List Int) := lrun set_Squaresc 0 [1, 3] [1, 3] (loopOf Tryd.f82 2) f ([V.s (S.ptr 0 0 none 0), V.s (S.sl 1 0 x0 true)]) ([Obj.cells 57 [Seg.one [S.i IntKind.u64 x1, S.i IntKind.u64 x2]], Obj.sli 3 false (Seg.arr IntKind.i64 x3 x4)]) set_Squaresl2d
theorem set_Squaresl2_step (f : Nat) (x0 : Nat) (x1 x2 : Int) (x3 : Nat) (x4 : List Int) : set_Squaresl2r (f + 1) x0 x1 x2 x3 x4 = set_Squaresl2s (set_Squaresl2r f) x0 x1 x2 x3 x4 := by kernel_rfl
theorem set_Squaresl2_eq : ∀ f, set_Squaresl2r f = set_Squaresl2 f
  | 0 => rfl
  | f + 1 => by funext x0 x1 x2 x3 x4; rw [set_Squaresl2_step, set_Squaresl2_eq f]; rfl
noncomputable def set_Squaresl5r (f : Nat) (x0 : Nat) (x1 x2 : Int) (x3 : Nat) (x4 : List Int) : Option (Nat × Nat × List Int) := lrun set_Squaresc 0 [1, 3] [3] (loopOf Tryd.f82 5) f ([V.s (S.ptr 0 0 none 0), V.s (S.sl 1 0 x0 true)]) ([Obj.cells 57 [Seg.one [S.i IntKind.u64 x1, S.i IntKind.u64 x2]], Obj.sli 3 false (Seg.arr IntKind.i64 x3 x4)]) set_Squaresl5d
theorem set_Squaresl5_step (f : Nat) (x0 : Nat) (x1 x2 : Int) (x3 : Nat) (x4 : List Int) : set_Squaresl5r (f + 1) x0 x1 x2 x3 x4 = set_Squaresl5s (set_Squaresl5r f) x0 x1 x2 x3 x4 := by kernel_rfl
theorem set_Squaresl5_eq : ∀ f, set_Squaresl5r f = set_Squaresl5 f
  | 0 => rfl
  | f + 1 => by funext x0 x1 x2 x3 x4; rw [set_Squaresl5_step, set_Squaresl5_eq f]; rfl
theorem set_Squaress2 : LoopSound Tryd.prog set_Squaresc 0 (loopOf Tryd.f82 2) :=
  loopSound_by mixed set_Squaresc_ok (AllP.of (l' := []) (by kernel_rfl) trivial) (q := 2) (kin := [1, 3]) (kout := [1, 3]) (by kernel_rfl) (by kernel_rfl) fun vs objs K r h => by
    replace h : set_Squaresp2 vs objs K = some r := h
    unfold set_Squaresp2 at h
    split at h
    · skip
      obtain ⟨t, h1, h2⟩ := ob_ok h
      rw [← set_Squaresl2_eq] at h1
      refine ⟨_, set_Squaresl2d, t, many, h1, fun e vs' objs' hd => ?_⟩
      unfold set_Squaresl2d at hd
      split at hd
      · skip
        cases hd
        exact h2
      · cases hd
    · cases h
theorem set_Squaress5 : LoopSound Tryd.prog set_Squaresc 0 (loopOf Tryd.f82 5) :=
  loopSound_by mixed set_Squaresc_ok (AllP.of (l' := []) (by kernel_rfl) trivial) (q := 5) (kin := [1, 3]) (kout := [3]) (by kernel_rfl) (by kernel_rfl) fun vs objs K r h => by
    replace h : set_Squaresp5 vs objs K = some r := h
    unfold set_Squaresp5 at h
    split at h
    · skip
      obtain ⟨t, h1, h2⟩ := ob_ok h
      rw [← set_Squaresl5_eq] at h1
      refine ⟨_, set_Squaresl5d, t, many, h1, fun e vs' objs' hd => ?_⟩
      unfold set_Squaresl5d at hd
      split at hd
      · skip
        cases hd
        exact h2
      · cases hd
    · cases h
noncomputable def set_Squaresd : V → List Obj → Option (Nat × Nat × List Int) := fun v objs => match v, objs with
  | V.s (S.sl 0 0 y0 true), [Obj.sli 3 false (Seg.arr IntKind.i64 y1 y2)] => some (y0, y1, y2)
  | _, _ => none
theorem set_Squares_eq (x0 x1 : Int) : fnE set_Squaresc Tryd.f82 ([V.agg [Seg.one [S.i IntKind.u64 x0, S.i IntKind.u64 x1]]]) ([]) set_Squaresd = set_Squares x0 x1 := by kernel_rfl
noncomputable def set_Squaresa {R : Type} (o : Orc) (vs : List V) (objs : List Obj) (K : Bool → V → List Obj → Option R) : Option R := match vs, objs with
  | [V.agg [Seg.one [S.i IntKind.u64 x0, S.i IntKind.u64 x1]]], [] => ob (set_Squares x0 x1) fun z => K false (V.s (S.sl 0 0 (z.1) true)) ([Obj.sli 3 false (Seg.arr IntKind.i64 (z.2.1) (z.2.2))])
  | _, _ => o 82 vs objs K
noncomputable def set_Squareso (o : Orc) : Orc := hook 82 (set_Squaresa o) o
theorem set_Squareso_ok (o : Orc) (ho : OSound Tryd.prog o) : OSound Tryd.prog (set_Squareso o) := hook_ok ho fun vs objs K r h => by
  unfold set_Squaresa at h
  split at h
  · skip
    obtain ⟨t, h1, h2⟩ := ob_ok h
    refine anyOK_of mixed set_Squaresc_ok (fn := Tryd.f82) (b := (Tryd.f82).body.getD .skip) (by kernel_rfl) (by kernel_rfl) (by kernel_rfl) ((set_Squares_eq _ _).trans h1) (m := 0) rfl (AllP.of (l' := [loopOf Tryd.f82 2, loopOf Tryd.f82 5]) (by kernel_rfl) ⟨set_Squaress2, set_Squaress5, trivial⟩) fun v objs' hd => ?_
    unfold set_Squaresd at hd
    split at hd
    · skip
      cases hd
      exact h2
    · cases hd
  · exact ho _ _ _ _ _ h
noncomputable def ray_Between_v2l2d : Ex → List V → List Obj → Option ((Int × Int) ⊕ (Int × Int)) := fun e vs objs => match e, vs, objs with
  | Ex.ret, [V.s (S.ptr 0 0 none 0)], [Obj.cells 57 [Seg.one [S.i IntKind.u64 y0, S.i IntKind.u64 y1]]] => some (Sum.inl (y0, y1))
  | Ex.exit 0, [V.s (S.ptr 0 0 none 0)], [Obj.cells 57 [Seg.one [S.i IntKind.u64 y0, S.i IntKind.u64 y1]]] => some (Sum.inr (y0, y1))
  | _, _, _ => none
noncomputable def ray_Between_v2p2 {R : Type} (vs : List V) (objs : List Obj) (K : Ex → List V → List Obj → Option R) : Option R := match vs, objs with
  | [V.s (S.i IntKind.i64 x0), V.s (S.i IntKind.i64 x1), V.s (S.ptr 0 0 none 0), V.s (S.sl 1 0 x2 true), V.s (S.i IntKind.i64 x3), V.s (S.i IntKind.i64 x4)], [Obj.cells 57 [Seg.one [S.i IntKind.u64 x5, S.i IntKind.u64 x6]], Obj.sli 119 false (Seg.rows [.i .i64, .i .i64] x7 x8)] => ob (ray_Between_v2l2 many x0 x1 x2 x3 x4 x5 x6 x7 x8) fun t0 => sw t0 (fun z => K (Ex.ret) ([V.s (S.ptr 0 0 none 0)]) ([Obj.cells 57 [Seg.one [S.i IntKind.u64 (z.1), S.i IntKind.u64 (z.2)]]])) (fun z => K (Ex.exit 0) ([V.s (S.ptr 0 0 none 0)]) ([Obj.cells 57 [Seg.one [S.i IntKind.u64 (z.1), S.i IntKind.u64 (z.2)]]]))
  | _, _ => none
noncomputable def ray_Between_v2lp : {R : Type} → Nat → List V → List Obj → (Ex → List V → List Obj → Option R) → Option R := fun q vs objs K => bif Nat.beq q 2 then ray_Between_v2p2 vs objs K else none
noncomputable def ray_Between_v2c : Ctx := mkC 30 ((set_Withouto (set_Haso (ray_Wayo (set_Ofo (ray_Dirso oNil)))))) [(2, [0, 1, 4, 10, 11, 12], [4])] ray_Between_v2lp
theorem ray_Between_v2c_ok : CtxOK Tryd.prog ray_Between_v2c := mkC_ok ((set_Withouto_ok _ (set_Haso_ok _ (ray_Wayo_ok _ (set_Ofo_ok _ (ray_Dirso_ok _ oNil_ok))))))
noncomputable def ray_Between_v2l2r (f : Nat) (x0 x1 : Int) (x2 : Nat) (x3 x4 : Int) (x5 x6 : Int) (x7 : Nat) (x8 : List (List Int)) : Option ((Int × Int) ⊕ (Int × Int)) := lrun ray_Between_v2c 0 [0, 1, 4, 10, 11, 12] [4] (loopOf Tryd.f94 2) f ([V.s (S.i IntKind.i64 x0), V.s (S.i IntKind.i64 x1), V.s (S.ptr 0 0 none 0), V.s (S.sl 1 0 x2 true), V.s (S.i IntKind.i64 x3), V.s (S.i IntKind.i64 x4)]) ([Obj.cells 57 [Seg.one [S.i IntKind.u64 x5, S.i IntKind.u64 x6]], Obj.sli 119 false (Seg.rows [.i .i64, .i .i64] x7 x8)]) ray_Between_v2l2d
theorem ray_Between_v2l2_step (f : Nat) (x0 x1 : Int) (x2 : Nat) (x3 x4 : Int) (x5 x6 : Int) (x7 : Nat) (x8 : List (List Int)) : ray_Between_v2l2r (f + 1) x0 x1 x2 x3 x4 x5 x6 x7 x8 = ray_Between_v2l2s (ray_Between_v2l2r f) x0 x1 x2 x3 x4 x5 x6 x7 x8 := by kernel_rfl
theorem ray_Between_v2l2_eq : ∀ f, ray_Between_v2l2r f = ray_Between_v2l2 f
  | 0 => rfl
  | f + 1 => by funext x0 x1 x2 x3 x4 x5 x6 x7 x8; rw [ray_Between_v2l2_step, ray_Between_v2l2_eq f]; rfl
theorem ray_Between_v2s2 : LoopSound Tryd.prog ray_Between_v2c 0 (loopOf Tryd.f94 2) :=
  loopSound_by mixed ray_Between_v2c_ok (AllP.of (l' := []) (by kernel_rfl) trivial) (q := 2) (kin := [0, 1, 4, 10, 11, 12]) (kout := [4]) (by kernel_rfl) (by kernel_rfl) fun vs objs K r h => by
    replace h : ray_Between_v2p2 vs objs K = some r := h
    unfold ray_Between_v2p2 at h
    split at h
    · skip
      obtain ⟨t, h1, h2⟩ := ob_ok h
      rw [← ray_Between_v2l2_eq] at h1
      refine ⟨_, ray_Between_v2l2d, t, many, h1, fun e vs' objs' hd => ?_⟩
      unfold ray_Between_v2l2d at hd
      split at hd
      · skip
        cases hd
        exact h2
      · skip
        cases hd
        exact h2
      · cases hd
    · cases h
noncomputable def ray_Between_v2d : V → List Obj → Option (Int × Int) := fun v objs => match v, objs with
  | V.agg [Seg.one [S.i IntKind.u64 y0, S.i IntKind.u64 y1]], [] => some (y0, y1)
  | _, _ => none
theorem ray_Between_v2_eq (x0 x1 : Int) : fnE ray_Between_v2c Tryd.f94 ([V.s (S.i IntKind.i64 x0), V.s (S.i IntKind.i64 x1)]) ([]) ray_Between_v2d = ray_Between_v2 x0 x1 := by kernel_rfl
noncomputable def ray_Between_v2a {R : Type} (o : Orc) (vs : List V) (objs : List Obj) (K : Bool → V → List Obj → Option R) : Option R := match vs, objs with
  | [V.s (S.i IntKind.i64 x0), V.s (S.i IntKind.i64 x1)], [] => ob (ray_Between_v2 x0 x1) fun z => K false (V.agg [Seg.one [S.i IntKind.u64 (z.1), S.i IntKind.u64 (z.2)]]) ([])
  | _, _ => o 94 vs objs K
noncomputable def ray_Between_v2o (o : Orc) : Orc := hook 94 (ray_Between_v2a o) o
theorem ray_Between_v2o_ok (o : Orc) (ho : OSound Tryd.prog o) : OSound Tryd.prog (ray_Between_v2o o) := hook_ok ho fun vs objs K r h => by
  unfold ray_Between_v2a at h
  split at h
  · skip
    obtain ⟨t, h1, h2⟩ := ob_ok h
    refine anyOK_of mixed ray_Between_v2c_ok (fn := Tryd.f94) (b := (Tryd.f94).body.getD .skip) (by kernel_rfl) (by kernel_rfl) (by kernel_rfl) ((ray_Between_v2_eq _ _).trans h1) (m := 0) rfl (AllP.of (l' := [loopOf Tryd.f94 2]) (by kernel_rfl) ⟨ray_Between_v2s2, trivial⟩) fun v objs' hd => ?_
    unfold ray_Between_v2d at hd
    split at hd
    · skip
      cases hd
      exact h2
    · cases hd
  · exact ho _ _ _ _ _ h
noncomputable def board_Piecesc : Ctx := mkC 18 (oNil) [] lpNil
theorem board_Piecesc_ok : CtxOK Tryd.prog board_Piecesc := mkC_ok (oNil_ok)
noncomputable def board_Piecesd : V → List Obj → Option (Int × Int) := fun v objs => match v, objs with
  | V.agg [Seg.one [S.i IntKind.u64 y0, S.i IntKind.u64 y1]], [] => some (y0, y1)
  | _, _ => none
theorem board_Pieces_eq (x0 : Int) (x1 x2 : List Int) (x3 : Int) (x4 x5 : List (List Int)) : fnE board_Piecesc Tryd.f92 ([V.s (S.ptr 0 0 none 0), V.s (S.i IntKind.i64 x0)]) ([Obj.rcells 81 [Seg.arr IntKind.i8 81 x1, Seg.arr IntKind.i8 16 x2, Seg.one [S.i IntKind.i8 x3], Seg.rows [.i .u64, .i .u64] 32 x4, Seg.rows [.i .u64, .i .u64] 2 x5]]) (pureD 1 board_Piecesd) = board_Pieces x0 x1 x2 x3 x4 x5 := by kernel_rfl
noncomputable def board_Piecesa {R : Type} (o : Orc) (vs : List V) (objs : List Obj) (K : Bool → V → List Obj → Option R) : Option R := match vs, List.map Obj.toRO objs with
  | [V.s (S.ptr 0 0 none 0), V.s (S.i IntKind.i64 x0)], [Obj.rcells 81 [Seg.arr IntKind.i8 81 x1, Seg.arr IntKind.i8 16 x2, Seg.one [S.i IntKind.i8 x3], Seg.rows [.i .u64, .i .u64] 32 x4, Seg.rows [.i .u64, .i .u64] 2 x5]] => ob (board_Pieces x0 x1 x2 x3 x4 x5) fun z => K true (V.agg [Seg.one [S.i IntKind.u64 (z.1), S.i IntKind.u64 (z.2)]]) ([])
  | _, _ => o 92 vs objs K
noncomputable def board_Pieceso (o : Orc) : Orc := hook 92 (board_Piecesa o) o
theorem board_Pieceso_ok (o : Orc) (ho : OSound Tryd.prog o) : OSound Tryd.prog (board_Pieceso o) := hook_ok ho fun vs objs K r h => by
  unfold board_Piecesa at h
  split at h
  · skip
    have hq : List.map Obj.toRO objs = _ := (by rename_i hq; first | exact hq | assumption)
    obtain ⟨t, h1, h2⟩ := ob_ok h
    refine purOK_by mixed board_Piecesc_ok (m := 1) (fn := Tryd.f92) (b := (Tryd.f92).body.getD .skip) (by kernel_rfl) (by kernel_rfl) (by kernel_rfl) hq (by kernel_rfl) (by kernel_rfl) (AllP.of (l' := []) (by kernel_rfl) trivial) ((board_Pieces_eq _ _ _ _ _ _).trans h1) fun v objs' hd => ?_
    unfold board_Piecesd at hd
    split at hd
    · skip
      cases hd
      exact h2
    · cases hd
  · exact ho _ _ _ _ _ h
noncomputable def board_Atc : Ctx := mkC 18 (oNil) [] lpNil
theorem board_Atc_ok : CtxOK Tryd.prog board_Atc := mkC_ok (oNil_ok)
noncomputable def board_Atd : V → List Obj → Option (Int) := fun v objs => match v, objs with
  | V.s (S.i IntKind.i8 y0), [] => some (y0)
  | _, _ => none
theorem board_At_eq (x0 : Int) (x1 x2 : List Int) (x3 : Int) (x4 x5 : List (List Int)) : fnE board_Atc Tryd.f65 ([V.s (S.ptr 0 0 none 0), V.s (S.i IntKind.i64 x0)]) ([Obj.rcells 81 [Seg.arr IntKind.i8 81 x1, Seg.arr IntKind.i8 16 x2, Seg.one [S.i IntKind.i8 x3], Seg.rows [.i .u64, .i .u64] 32 x4, Seg.rows [.i .u64, .i .u64] 2 x5]]) (pureD 1 board_Atd) = board_At x0 x1 x2 x3 x4 x5 := by kernel_rfl
noncomputable def board_Ata {R : Type} (o : Orc) (vs : List V) (objs : List Obj) (K : Bool → V → List Obj → Option R) : Option R := match vs, List.map Obj.toRO objs with
  | [V.s (S.ptr 0 0 none 0), V.s (S.i IntKind.i64 x0)], [Obj.rcells 81 [Seg.arr IntKind.i8 81 x1, Seg.arr IntKind.i8 16 x2, Seg.one [S.i IntKind.i8 x3], Seg.rows [.i .u64, .i .u64] 32 x4, Seg.rows [.i .u64, .i .u64] 2 x5]] => ob (board_At x0 x1 x2 x3 x4 x5) fun y0 => K true (V.s (S.i IntKind.i8 y0)) ([])
  | _, _ => o 65 vs objs K
noncomputable def board_Ato (o : Orc) : Orc := hook 65 (board_Ata o) o
theorem board_Ato_ok (o : Orc) (ho : OSound Tryd.prog o) : OSound Tryd.prog (board_Ato o) := hook_ok ho fun vs objs K r h => by
  unfold board_Ata at h
  split at h
  · skip
    have hq : List.map Obj.toRO objs = _ := (by rename_i hq; first | exact hq | assumption)
    obtain ⟨t, h1, h2⟩ := ob_ok h
    refine purOK_by mixed board_Atc_ok (m := 1) (fn := Tryd.f65) (b := (Tryd.f65).body.getD .skip) (by kernel_rfl) (by kernel_rfl) (by kernel_rfl) hq (by kernel_rfl) (by kernel_rfl) (AllP.of (l' := []) (by kernel_rfl) trivial) ((board_At_eq _ _ _ _ _ _).trans h1) fun v objs' hd => ?_
    unfold board_Atd at hd
    split at hd
    · skip
      cases hd
      exact h2
    · cases hd
  · exact ho _ _ _ _ _ h
noncomputable def attack_Pinned_v2l9d : Ex → List V → List Obj → Option (Int × Int × Nat × Int × Int × List Int × List Int × Int × List (List Int) × List (List Int) × List (List Int × List Int) × Nat × List Int) := fun e vs objs => match e, vs, objs with
  | Ex.exit 2, [V.s (S.ptr 0 0 none 0), V.s (S.i IntKind.i64 y0), V.s (S.mp 1), V.s (S.i IntKind.i64 y1), V.s (S.sl 2 0 y2 true), V.s (S.i IntKind.i64 y3), V.s (S.i IntKind.i64 y4)], [Obj.rcells 81 [Seg.arr IntKind.i8 81 y5, Seg.arr IntKind.i8 16 y6, Seg.one [S.i IntKind.i8 y7], Seg.rows [.i .u64, .i .u64] 32 y8, Seg.rows [.i .u64, .i .u64] 2 y9], Obj.map false true [.i .i64] [.i .u64, .i .u64] y10, Obj.sli 3 false (Seg.arr IntKind.i64 y11 y12)] => some (y0, y1, y2, y3, y4, y5, y6, y7, y8, y9, y10, y11, y12)
  | _, _, _ => none
noncomputable def attack_Pinned_v2l6d : Ex → List V → List Obj → Option (List Int × List Int × Int × List (List Int) × List (List Int) × List (List Int × List Int)) := fun e vs objs => match e, vs, objs with
  | Ex.exit 0, [V.s (S.mp 1)], [Obj.rcells 81 [Seg.arr IntKind.i8 81 y0, Seg.arr IntKind.i8 16 y1, Seg.one [S.i IntKind.i8 y2], Seg.rows [.i .u64, .i .u64] 32 y3, Seg.rows [.i .u64, .i .u64] 2 y4], Obj.map false true [.i .i64] [.i .u64, .i .u64] y5] => some (y0, y1, y2, y3, y4, y5)
  | _, _, _ => none
noncomputable def attack_Pinned_v2p9 {R : Type} (vs : List V) (objs : List Obj) (K : Ex → List V → List Obj → Option R) : Option R := match vs, objs with
  | [V.s (S.ptr 0 0 none 0), V.s (S.i IntKind.i64 x0), V.s (S.mp 1), V.s (S.i IntKind.i64 x1), V.s (S.sl 2 0 x2 true), V.s (S.i IntKind.i64 x3), V.s (S.i IntKind.i64 x4), V.s (S.sl 3 0 x5 true), V.s (S.i IntKind.i64 x6), V.s (S.i IntKind.i64 x7)], [Obj.rcells 81 [Seg.arr IntKind.i8 81 x8, Seg.arr IntKind.i8 16 x9, Seg.one [S.i IntKind.i8 x10], Seg.rows [.i .u64, .i .u64] 32 x11, Seg.rows [.i .u64, .i .u64] 2 x12], Obj.map false true [.i .i64] [.i .u64, .i .u64] x13, Obj.sli 3 false (Seg.arr IntKind.i64 x14 x15), Obj.sli 3 false (Seg.arr IntKind.i64 x16 x17)] => ob (attack_Pinned_v2l9 many x0 x1 x2 x3 x4 x5 x6 x7 x8 x9 x10 x11 x12 x13 x14 x15 x16 x17) fun z => K (Ex.exit 2) ([V.s (S.ptr 0 0 none 0), V.s (S.i IntKind.i64 (z.1)), V.s (S.mp 1), V.s (S.i IntKind.i64 (z.2.1)), V.s (S.sl 2 0 (z.2.2.1) true), V.s (S.i IntKind.i64 (z.2.2.2.1)), V.s (S.i IntKind.i64 (z.2.2.2.2.1))]) ([Obj.rcells 81 [Seg.arr IntKind.i8 81 (z.2.2.2.2.2.1), Seg.arr IntKind.i8 16 (z.2.2.2.2.2.2.1), Seg.one [S.i IntKind.i8 (z.2.2.2.2.2.2.2.1)], Seg.rows [.i .u64, .i .u64] 32 (z.2.2.2.2.2.2.2.2.1), Seg.rows [.i .u64, .i .u64] 2 (z.2.2.2.2.2.2.2.2.2.1)], Obj.map false true [.i .i64] [.i .u64, .i .u64] (z.2.2.2.2.2.2.2.2.2.2.1), Obj.sli 3 false (Seg.arr IntKind.i64 (z.2.2.2.2.2.2.2.2.2.2.2.1) (z.2.2.2.2.2.2.2.2.2.2.2.2))])
  | _, _ => none
noncomputable def attack_Pinned_v2p6 {R : Type} (vs : List V) (objs : List Obj) (K : Ex → List V → List Obj → Option R) : Option R := match vs, objs with
  | [V.s (S.ptr 0 0 none 0), V.s (S.i IntKind.i64 x0), V.s (S.mp 1), V.s (S.i IntKind.i64 x1), V.s (S.sl 2 0 x2 true), V.s (S.i IntKind.i64 x3), V.s (S.i IntKind.i64 x4)], [Obj.rcells 81 [Seg.arr IntKind.i8 81 x5, Seg.arr IntKind.i8 16 x6, Seg.one [S.i IntKind.i8 x7], Seg.rows [.i .u64, .i .u64] 32 x8, Seg.rows [.i .u64, .i .u64] 2 x9], Obj.map false true [.i .i64] [.i .u64, .i .u64] x10, Obj.sli 3 false (Seg.arr IntKind.i64 x11 x12)] => ob (attack_Pinned_v2l6 many x0 x1 x2 x3 x4 x5 x6 x7 x8 x9 x10 x11 x12) fun z => K (Ex.exit 0) ([V.s (S.mp 1)]) ([Obj.rcells 81 [Seg.arr IntKind.i8 81 (z.1), Seg.arr IntKind.i8 16 (z.2.1), Seg.one [S.i IntKind.i8 (z.2.2.1)], Seg.rows [.i .u64, .i .u64] 32 (z.2.2.2.1), Seg.rows [.i .u64, .i .u64] 2 (z.2.2.2.2.1)], Obj.map false true [.i .i64] [.i .u64, .i .u64] (z.2.2.2.2.2)])
  | _, _ => none
noncomputable def attack_Pinned_v2lp : {R : Type} → Nat → List V → List Obj → (Ex → List V → List Obj → Option R) → Option R := fun q vs objs K => bif Nat.beq q 9 then attack_Pinned_v2p9 vs objs K else bif Nat.beq q 6 then attack_Pinned_v2p6 vs objs K else none
noncomputable def attack_Pinned_v2c : Ctx := mkC 89 ((set_Witho (set_Haso (ray_Ofo (set_Withouto (board_Ato (set_Firsto (set_Emptyo (board_Pieceso (set_Counto (set_Ando (board_Takeno (ray_Between_v2o (set_Squareso (board_Ofo (board_Kingo oNil)))))))))))))))) [(6, [0, 1, 5, 6, 21, 22, 23], [5]), (9, [0, 1, 5, 6, 21, 22, 23, 32, 33, 34], [0, 1, 5, 6, 21, 22, 23])] attack_Pinned_v2lp
theorem attack_Pinned_v2c_ok : CtxOK Tryd.prog attack_Pinned_v2c := mkC_ok ((set_Witho_ok _ (set_Haso_ok _ (ray_Ofo_ok _ (set_Withouto_ok _ (board_Ato_ok _ (set_Firsto_ok _ (set_Emptyo_ok _ (board_Pieceso_ok _ (set_Counto_ok _ (set_Ando_ok _ (board_Takeno_ok _ (ray_Between_v2o_ok _ (set_Squareso_ok _ (board_Ofo_ok _ (board_Kingo_ok _ oNil_ok))))))))))))))))
noncomputable def attack_Pinned_v2l9r (f : Nat) (x0 x1 : Int) (x2 : Nat) (x3 x4 : Int) (x5 : Nat) (x6 x7 : Int) (x8 x9 : List Int) (x10 : Int) (x11 x12 : List (List Int)) (x13 : List (List Int × List Int)) (x14 : Nat) (x15 : List Int) (x16 : Nat) (x17 : List Int) : Option (Int × Int × Nat × Int × Int × List Int × List Int × Int × List (List Int) × List (List Int) × List (List Int × List Int) × Nat × List Int) := lrun attack_Pinned_v2c 1 [0, 1, 5, 6, 21, 22, 23, 32, 33, 34] [0, 1, 5, 6, 21, 22, 23] (loopOf Tryd.f48 9) f ([V.s (S.ptr 0 0 none 0), V.s (S.i IntKind.i64 x0), V.s (S.mp 1), V.s (S.i IntKind.i64 x1), V.s (S.sl 2 0 x2 true), V.s (S.i IntKind.i64 x3), V.s (S.i IntKind.i64 x4), V.s (S.sl 3 0 x5 true), V.s (S.i IntKind.i64 x6), V.s (S.i IntKind.i64 x7)]) ([Obj.rcells 81 [Seg.arr IntKind.i8 81 x8, Seg.arr IntKind.i8 16 x9, Seg.one [S.i IntKind.i8 x10], Seg.rows [.i .u64, .i .u64] 32 x11, Seg.rows [.i .u64, .i .u64] 2 x12], Obj.map false true [.i .i64] [.i .u64, .i .u64] x13, Obj.sli 3 false (Seg.arr IntKind.i64 x14 x15), Obj.sli 3 false (Seg.arr IntKind.i64 x16 x17)]) attack_Pinned_v2l9d
theorem attack_Pinned_v2l9_step (f : Nat) (x0 x1 : Int) (x2 : Nat) (x3 x4 : Int) (x5 : Nat) (x6 x7 : Int) (x8 x9 : List Int) (x10 : Int) (x11 x12 : List (List Int)) (x13 : List (List Int × List Int)) (x14 : Nat) (x15 : List Int) (x16 : Nat) (x17 : List Int) : attack_Pinned_v2l9r (f + 1) x0 x1 x2 x3 x4 x5 x6 x7 x8 x9 x10 x11 x12 x13 x14 x15 x16 x17 = attack_Pinned_v2l9s (attack_Pinned_v2l9r f) x0 x1 x2 x3 x4 x5 x6 x7 x8 x9 x10 x11 x12 x13 x14 x15 x16 x17 := by kernel_rfl
theorem attack_Pinned_v2l9_eq : ∀ f, attack_Pinned_v2l9r f = attack_Pinned_v2l9 f
  | 0 => rfl
  | f + 1 => by funext x0 x1 x2 x3 x4 x5 x6 x7 x8 x9 x10 x11 x12 x13 x14 x15 x16 x17; rw [attack_Pinned_v2l9_step, attack_Pinned_v2l9_eq f]; rfl
noncomputable def attack_Pinned_v2l6r (f : Nat) (x0 x1 : Int) (x2 : Nat) (x3 x4 : Int) (x5 x6 : List Int) (x7 : Int) (x8 x9 : List (List Int)) (x10 : List (List Int × List Int)) (x11 : Nat) (x12 : List Int) : Option (List Int × List Int × Int × List (List Int) × List (List Int) × List (List Int × List Int)) := lrun attack_Pinned_v2c 1 [0, 1, 5, 6, 21, 22, 23] [5] (loopOf Tryd.f48 6) f ([V.s (S.ptr 0 0 none 0), V.s (S.i IntKind.i64 x0), V.s (S.mp 1), V.s (S.i IntKind.i64 x1), V.s (S.sl 2 0 x2 true), V.s (S.i IntKind.i64 x3), V.s (S.i IntKind.i64 x4)]) ([Obj.rcells 81 [Seg.arr IntKind.i8 81 x5, Seg.arr IntKind.i8 16 x6, Seg.one [S.i IntKind.i8 x7], Seg.rows [.i .u64, .i .u64] 32 x8, Seg.rows [.i .u64, .i .u64] 2 x9], Obj.map false true [.i .i64] [.i .u64, .i .u64] x10, Obj.sli 3 false (Seg.arr IntKind.i64 x11 x12)]) attack_Pinned_v2l6d
theorem attack_Pinned_v2l6_step (f : Nat) (x0 x1 : Int) (x2 : Nat) (x3 x4 : Int) (x5 x6 : List Int) (x7 : Int) (x8 x9 : List (List Int)) (x10 : List (List Int × List Int)) (x11 : Nat) (x12 : List Int) : attack_Pinned_v2l6r (f + 1) x0 x1 x2 x3 x4 x5 x6 x7 x8 x9 x10 x11 x12 = attack_Pinned_v2l6s (attack_Pinned_v2l6r f) x0 x1 x2 x3 x4 x5 x6 x7 x8 x9 x10 x11 x12 := by kernel_rfl
theorem attack_Pinned_v2l6_eq : ∀ f, attack_Pinned_v2l6r f = attack_Pinned_v2l6 f
  | 0 => rfl
  | f + 1 => by funext x0 x1 x2 x3 x4 x5 x6 x7 x8 x9 x10 x11 x12; rw [attack_Pinned_v2l6_step, attack_Pinned_v2l6_eq f]; rfl
theorem attack_Pinned_v2s9 : LoopSound Tryd.prog attack_Pinned_v2c 1 (loopOf Tryd.f48 9) :=
  loopSound_by mixed attack_Pinned_v2c_ok (AllP.of (l' := []) (by kernel_rfl) trivial) (q := 9) (kin := [0, 1, 5, 6, 21, 22, 23, 32, 33, 34]) (kout := [0, 1, 5, 6, 21, 22, 23]) (by kernel_rfl) (by kernel_rfl) fun vs objs K r h => by
    replace h : attack_Pinned_v2p9 vs objs K = some r := h
    unfold attack_Pinned_v2p9 at h
    split at h
    · skip
      obtain ⟨t, h1, h2⟩ := ob_ok h
      rw [← attack_Pinned_v2l9_eq] at h1
      refine ⟨_, attack_Pinned_v2l9d, t, many, h1, fun e vs' objs' hd => ?_⟩
      unfold attack_Pinned_v2l9d at hd
      split at hd
      · skip
        cases hd
        exact h2
      · cases hd
    · cases h
theorem attack_Pinned_v2s6 : LoopSound Tryd.prog attack_Pinned_v2c 1 (loopOf Tryd.f48 6) :=
  loopSound_by mixed attack_Pinned_v2c_ok (AllP.of (l' := [loopOf Tryd.f48 9]) (by kernel_rfl) ⟨attack_Pinned_v2s9, trivial⟩) (q := 6) (kin := [0, 1, 5, 6, 21, 22, 23]) (kout := [5]) (by kernel_rfl) (by kernel_rfl) fun vs objs K r h => by
    replace h : attack_Pinned_v2p6 vs objs K = some r := h
    unfold attack_Pinned_v2p6 at h
    split at h
    · skip
      obtain ⟨t, h1, h2⟩ := ob_ok h
      rw [← attack_Pinned_v2l6_eq] at h1
      refine ⟨_, attack_Pinned_v2l6d, t, many, h1, fun e vs' objs' hd => ?_⟩
      unfold attack_Pinned_v2l6d at hd
      split at hd
      · skip
        cases hd
        exact h2
      · cases hd
    · cases h
noncomputable def attack_Pinned_v2d : V → List Obj → Option (List (List Int × List Int)) := fun v objs => match v, objs with
  | V.s (S.mp 1), [Obj.map false true [.i .i64] [.i .u64, .i .u64] y0] => some (y0)
  | _, _ => none
theorem attack_Pinned_v2_eq (x0 : Int) (x1 x2 : List Int) (x3 : Int) (x4 x5 : List (List Int)) : fnE attack_Pinned_v2c Tryd.f48 ([V.s (S.ptr 0 0 none 0), V.s (S.i IntKind.i64 x0)]) ([Obj.rcells 81 [Seg.arr IntKind.i8 81 x1, Seg.arr IntKind.i8 16 x2, Seg.one [S.i IntKind.i8 x3], Seg.rows [.i .u64, .i .u64] 32 x4, Seg.rows [.i .u64, .i .u64] 2 x5]]) (pureD 1 attack_Pinned_v2d) = attack_Pinned_v2 x0 x1 x2 x3 x4 x5 := by kernel_rfl
noncomputable def attack_Pinned_v2a {R : Type} (o : Orc) (vs : List V) (objs : List Obj) (K : Bool → V → List Obj → Option R) : Option R := match vs, List.map Obj.toRO objs with
  | [V.s (S.ptr 0 0 none 0), V.s (S.i IntKind.i64 x0)], [Obj.rcells 81 [Seg.arr IntKind.i8 81 x1, Seg.arr IntKind.i8 16 x2, Seg.one [S.i IntKind.i8 x3], Seg.rows [.i .u64, .i .u64] 32 x4, Seg.rows [.i .u64, .i .u64] 2 x5]] => ob (attack_Pinned_v2 x0 x1 x2 x3 x4 x5) fun y0 => K true (V.s (S.mp 1)) ([Obj.map false true [.i .i64] [.i .u64, .i .u64] y0])
  | _, _ => o 48 vs objs K
noncomputable def attack_Pinned_v2o (o : Orc) : Orc := hook 48 (attack_Pinned_v2a o) o
theorem attack_Pinned_v2o_ok (o : Orc) (ho : OSound Tryd.prog o) : OSound Tryd.prog (attack_Pinned_v2o o) := hook_ok ho fun vs objs K r h => by
  unfold attack_Pinned_v2a at h
  split at h
  · skip
    have hq : List.map Obj.toRO objs = _ := (by rename_i hq; first | exact hq | assumption)
    obtain ⟨t, h1, h2⟩ := ob_ok h
    refine purOK_by mixed attack_Pinned_v2c_ok (m := 1) (fn := Tryd.f48) (b := (Tryd.f48).body.getD .skip) (by kernel_rfl) (by kernel_rfl) (by kernel_rfl) hq (by kernel_rfl) (by kernel_rfl) (AllP.of (l' := [loopOf Tryd.f48 6]) (by kernel_rfl) ⟨attack_Pinned_v2s6, trivial⟩) ((attack_Pinned_v2_eq _ _ _ _ _ _).trans h1) fun v objs' hd => ?_
    unfold attack_Pinned_v2d at hd
    split at hd
    · skip
      cases hd
      exact h2
    · cases hd
  · exact ho _ _ _ _ _ h
noncomputable def ref08_Kingl2d : Ex → List V → List Obj → Option ((Int) ⊕ (Unit)) := fun e vs objs => match e, vs, objs with
  | Ex.ret, [V.s (S.i IntKind.i64 y0)], [] => some (Sum.inl (y0))
  | Ex.exit 0, [V.s S.bad], [] => some (Sum.inr ())
  | _, _, _ => none
noncomputable def ref08_Kingp2 {R : Type} (vs : List V) (objs : List Obj) (K : Ex → List V → List Obj → Option R) : Option R := match vs, objs with
  | [V.s (S.i IntKind.i64 x0), V.s (S.ptr 0 0 none 0), V.s (S.i IntKind.i64 x1)], [Obj.cells 28 [Seg.arr IntKind.i8 81 x2, Seg.arr IntKind.i8 16 x3, Seg.one [S.i IntKind.i8 x4]]] => ob (ref08_Kingl2 many x0 x1 x2 x3 x4) fun t0 => sw t0 (fun y0 => K (Ex.ret) ([V.s (S.i IntKind.i64 y0)]) ([])) (fun _ => K (Ex.exit 0) ([V.s S.bad]) ([]))
  | _, _ => none
noncomputable def ref08_Kinglp : {R : Type} → Nat → List V → List Obj → (Ex → List V → List Obj → Option R) → Option R := fun q vs objs K => bif Nat.beq q 2 then ref08_Kingp2 vs objs K else none
noncomputable def ref08_Kingc : Ctx := mkC 20 (oNil) [(2, [1, 2, 5], [4])] ref08_Kinglp
theorem ref08_Kingc_ok : CtxOK Tryd.prog ref08_Kingc := mkC_ok (oNil_ok)
noncomputable def ref08_Kingl2r (f : Nat) (x0 x1 : Int) (x2 x3 : List Int) (x4 : Int) : Option ((Int) ⊕ (Unit)) := lrun ref08_Kingc 0 [1, 2, 5] [4] (loopOf Tryd.f45 2) f ([V.s (S.i IntKind.i64 x0), V.s (S.ptr 0 0 none 0), V.s (S.i IntKind.i64 x1)]) ([Obj.cells 28 [Seg.arr IntKind.i8 81 x2, Seg.arr IntKind.i8 16 x3, Seg.one [S.i IntKind.i8 x4]]]) ref08_Kingl2d
theorem ref08_Kingl2_step (f : Nat) (x0 x1 : Int) (x2 x3 : List Int) (x4 : Int) : ref08_Kingl2r (f + 1) x0 x1 x2 x3 x4 = ref08_Kingl2s (ref08_Kingl2r f) x0 x1 x2 x3 x4 := by kernel_rfl
theorem ref08_Kingl2_eq : ∀ f, ref08_Kingl2r f = ref08_Kingl2 f
  | 0 => rfl
  | f + 1 => by funext x0 x1 x2 x3 x4; rw [ref08_Kingl2_step, ref08_Kingl2_eq f]; rfl
theorem ref08_Kings2 : LoopSound Tryd.prog ref08_Kingc 0 (loopOf Tryd.f45 2) :=
  loopSound_by mixed ref08_Kingc_ok (AllP.of (l' := []) (by kernel_rfl) trivial) (q := 2) (kin := [1, 2, 5]) (kout := [4]) (by kernel_rfl) (by kernel_rfl) fun vs objs K r h => by
    replace h : ref08_Kingp2 vs objs K = some r := h
    unfold ref08_Kingp2 at h
    split at h
    · skip
      obtain ⟨t, h1, h2⟩ := ob_ok h
      rw [← ref08_Kingl2_eq] at h1
      refine ⟨_, ref08_Kingl2d, t, many, h1, fun e vs' objs' hd => ?_⟩
      unfold ref08_Kingl2d at hd
      split at hd
      · skip
        cases hd
        exact h2
      · skip
        cases hd
        exact h2
      · cases hd
    · cases h
noncomputable def ref08_Kingd : V → List Obj → Option (Int) := fun v objs => match v, objs with
  | V.s (S.i IntKind.i64 y0), [] => some (y0)
  | _, _ => none
theorem ref08_King_eq (x0 x1 : List Int) (x2 x3 : Int) : fnE ref08_Kingc Tryd.f45 ([V.agg [Seg.arr IntKind.i8 81 x0, Seg.arr IntKind.i8 16 x1, Seg.one [S.i IntKind.i8 x2]], V.s (S.i IntKind.i64 x3)]) ([]) ref08_Kingd = ref08_King x0 x1 x2 x3 := by kernel_rfl
noncomputable def ref08_Kinga {R : Type} (o : Orc) (vs : List V) (objs : List Obj) (K : Bool → V → List Obj → Option R) : Option R := match vs, objs with
  | [V.agg [Seg.arr IntKind.i8 81 x0, Seg.arr IntKind.i8 16 x1, Seg.one [S.i IntKind.i8 x2]], V.s (S.i IntKind.i64 x3)], [] => ob (ref08_King x0 x1 x2 x3) fun y0 => K false (V.s (S.i IntKind.i64 y0)) ([])
  | _, _ => o 45 vs objs K
noncomputable def ref08_Kingo (o : Orc) : Orc := hook 45 (ref08_Kinga o) o
theorem ref08_Kingo_ok (o : Orc) (ho : OSound Tryd.prog o) : OSound Tryd.prog (ref08_Kingo o) := hook_ok ho fun vs objs K r h => by
  unfold ref08_Kinga at h
  split at h
  · skip
    obtain ⟨t, h1, h2⟩ := ob_ok h
    refine anyOK_of mixed ref08_Kingc_ok (fn := Tryd.f45) (b := (Tryd.f45).body.getD .skip) (by kernel_rfl) (by kernel_rfl) (by kernel_rfl) ((ref08_King_eq _ _ _ _).trans h1) (m := 0) rfl (AllP.of (l' := [loopOf Tryd.f45 2]) (by kernel_rfl) ⟨ref08_Kings2, trivial⟩) fun v objs' hd => ?_
    unfold ref08_Kingd at hd
    split at hd
    · skip
      cases hd
      exact h2
    · cases hd
  · exact ho _ _ _ _ _ h
noncomputable def ref05_Takenl3d : Ex → List V → List Obj → Option (List Bool × List Bool) := fun e vs objs => match e, vs, objs with
  | Ex.exit 0, [V.s (S.ptr 0 0 none 0), V.s (S.ptr 1 0 none 0)], [Obj.cells 71 [Seg.barr 81 y0], Obj.cells 71 [Seg.barr 81 y1]] => some (y0, y1)
  | _, _, _ => none
noncomputable def ref05_Takenp3 {R : Type} (vs : List V) (objs : List Obj) (K : Ex → List V → List Obj → Option R) : Option R := match vs, objs with
  | [V.s (S.ptr 0 0 none 0), V.s (S.ptr 1 0 none 0), V.s (S.ptr 2 0 none 0), V.s (S.i IntKind.i64 x0)], [Obj.cells 28 [Seg.arr IntKind.i8 81 x1, Seg.arr IntKind.i8 16 x2, Seg.one [S.i IntKind.i8 x3]], Obj.cells 71 [Seg.barr 81 x4], Obj.cells 71 [Seg.barr 81 x5]] => ob (ref05_Takenl3 many x0 x1 x2 x3 x4 x5) fun z => K (Ex.exit 0) ([V.s (S.ptr 0 0 none 0), V.s (S.ptr 1 0 none 0)]) ([Obj.cells 71 [Seg.barr 81 (z.1)], Obj.cells 71 [Seg.barr 81 (z.2)]])
  | _, _ => none
noncomputable def ref05_Takenlp : {R : Type} → Nat → List V → List Obj → (Ex → List V → List Obj → Option R) → Option R := fun q vs objs K => bif Nat.beq q 3 then ref05_Takenp3 vs objs K else none
noncomputable def ref05_Takenc : Ctx := mkC 18 (oNil) [(3, [1, 2, 3, 4], [2, 3])] ref05_Takenlp
theorem ref05_Takenc_ok : CtxOK Tryd.prog ref05_Takenc := mkC_ok (oNil_ok)
noncomputable def ref05_Takenl3r (f : Nat) (x0 : Int) (x1 x2 : List Int) (x3 : Int) (x4 x5 : List Bool) : Option (List Bool × List Bool) := lrun ref05_Takenc 0 [1, 2, 3, 4] [2, 3] (loopOf Tryd.f46 3) f ([V.s (S.ptr 0 0 none 0), V.s (S.ptr 1 0 none 0), V.s (S.ptr 2 0 none 0), V.s (S.i IntKind.i64 x0)]) ([Obj.cells 28 [Seg.arr IntKind.i8 81 x1, Seg.arr IntKind.i8 16 x2, Seg.one [S.i IntKind.i8 x3]], Obj.cells 71 [Seg.barr 81 x4], Obj.cells 71 [Seg.barr 81 x5]]) ref05_Takenl3d
theorem ref05_Takenl3_step (f : Nat) (x0 : Int) (x1 x2 : List Int) (x3 : Int) (x4 x5 : List Bool) : ref05_Takenl3r (f + 1) x0 x1 x2 x3 x4 x5 = ref05_Takenl3s (ref05_Takenl3r f) x0 x1 x2 x3 x4 x5 := by kernel_rfl
theorem ref05_Takenl3_eq : ∀ f, ref05_Takenl3r f = ref05_Takenl3 f
  | 0 => rfl
  | f + 1 => by funext x0 x1 x2 x3 x4 x5; rw [ref05_Takenl3_step, ref05_Takenl3_eq f]; rfl
theorem ref05_Takens3 : LoopSound Tryd.prog ref05_Takenc 0 (loopOf Tryd.f46 3) :=
  loopSound_by mixed ref05_Takenc_ok (AllP.of (l' := []) (by kernel_rfl) trivial) (q := 3) (kin := [1, 2, 3, 4]) (kout := [2, 3]) (by kernel_rfl) (by kernel_rfl) fun vs objs K r h => by
    replace h : ref05_Takenp3 vs objs K = some r := h
    unfold ref05_Takenp3 at h
    split at h
    · skip
      obtain ⟨t, h1, h2⟩ := ob_ok h
      rw [← ref05_Takenl3_eq] at h1
      refine ⟨_, ref05_Takenl3d, t, many, h1, fun e vs' objs' hd => ?_⟩
      unfold ref05_Takenl3d at hd
      split at hd
      · skip
        cases hd
        exact h2
      · cases hd
    · cases h
noncomputable def ref05_Takend : V → List Obj → Option (List Bool) := fun v objs => match v, objs with
  | V.agg [Seg.barr 81 y0], [] => some (y0)
  | _, _ => none
theorem ref05_Taken_eq (x0 x1 : List Int) (x2 : Int) : fnE ref05_Takenc Tryd.f46 ([V.agg [Seg.arr IntKind.i8 81 x0, Seg.arr IntKind.i8 16 x1, Seg.one [S.i IntKind.i8 x2]]]) ([]) ref05_Takend = ref05_Taken x0 x1 x2 := by kernel_rfl
noncomputable def ref05_Takena {R : Type} (o : Orc) (vs : List V) (objs : List Obj) (K : Bool → V → List Obj → Option R) : Option R := match vs, objs with
  | [V.agg [Seg.arr IntKind.i8 81 x0, Seg.arr IntKind.i8 16 x1, Seg.one [S.i IntKind.i8 x2]]], [] => ob (ref05_Taken x0 x1 x2) fun y0 => K false (V.agg [Seg.barr 81 y0]) ([])
  | _, _ => o 46 vs objs K
noncomputable def ref05_Takeno (o : Orc) : Orc := hook 46 (ref05_Takena o) o
theorem ref05_Takeno_ok (o : Orc) (ho : OSound Tryd.prog o) : OSound Tryd.prog (ref05_Takeno o) := hook_ok ho fun vs objs K r h => by
  unfold ref05_Takena at h
  split at h
  · skip
    obtain ⟨t, h1, h2⟩ := ob_ok h
    refine anyOK_of mixed ref05_Takenc_ok (fn := Tryd.f46) (b := (Tryd.f46).body.getD .skip) (by kernel_rfl) (by kernel_rfl) (by kernel_rfl) ((ref05_Taken_eq _ _ _).trans h1) (m := 0) rfl (AllP.of (l' := [loopOf Tryd.f46 3]) (by kernel_rfl) ⟨ref05_Takens3, trivial⟩) fun v objs' hd => ?_
    unfold ref05_Takend at hd
    split at hd
    · skip
      cases hd
      exact h2
    · cases hd
  · exact ho _ _ _ _ _ h
noncomputable def ref03_sizec : Ctx := mkC 8 (oNil) [] lpNil
theorem ref03_sizec_ok : CtxOK Tryd.prog ref03_sizec := mkC_ok (oNil_ok)
noncomputable def ref03_sized : V → List Obj → Option (Int) := fun v objs => match v, objs with
  | V.s (S.i IntKind.i64 y0), [] => some (y0)
  | _, _ => none
theorem ref03_size_eq (x0 : Int) : fnE ref03_sizec Tryd.f120 ([V.s (S.i IntKind.i64 x0)]) ([]) ref03_sized = ref03_size x0 := by kernel_rfl
noncomputable def ref03_sizea {R : Type} (o : Orc) (vs : List V) (objs : List Obj) (K : Bool → V → List Obj → Option R) : Option R := match vs, objs with
  | [V.s (S.i IntKind.i64 x0)], [] => ob (ref03_size x0) fun y0 => K false (V.s (S.i IntKind.i64 y0)) ([])
  | _, _ => o 120 vs objs K
noncomputable def ref03_sizeo (o : Orc) : Orc := hook 120 (ref03_sizea o) o
theorem ref03_sizeo_ok (o : Orc) (ho : OSound Tryd.prog o) : OSound Tryd.prog (ref03_sizeo o) := hook_ok ho fun vs objs K r h => by
  unfold ref03_sizea at h
  split at h
  · skip
    obtain ⟨t, h1, h2⟩ := ob_ok h
    refine anyOK_of mixed ref03_sizec_ok (fn := Tryd.f120) (b := (Tryd.f120).body.getD .skip) (by kernel_rfl) (by kernel_rfl) (by kernel_rfl) ((ref03_size_eq _).trans h1) (m := 0) rfl (AllP.of (l' := []) (by kernel_rfl) trivial) fun v objs' hd => ?_
    unfold ref03_sized at hd
    split at hd
    · skip
      cases hd
      exact h2
    · cases hd
  · exact ho _ _ _ _ _ h
noncomputable def ref03_Stepc : Ctx := mkC 125 ((ref02_Kindo (ref02_Sideo (ref03_sizeo oNil)))) [] lpNil
theorem ref03_Stepc_ok : CtxOK Tryd.prog ref03_Stepc := mkC_ok ((ref02_Kindo_ok _ (ref02_Sideo_ok _ (ref03_sizeo_ok _ oNil_ok))))
noncomputable def ref03_Stepd : V → List Obj → Option (Bool) := fun v objs => match v, objs with
  | V.s (S.b y0), [] => some (y0)
  | _, _ => none
theorem ref03_Step_eq (x0 x1 x2 : Int) : fnE ref03_Stepc Tryd.f107 ([V.s (S.i IntKind.i64 x0), V.s (S.i IntKind.i64 x1), V.s (S.i IntKind.i64 x2)]) ([]) ref03_Stepd = ref03_Step x0 x1 x2 := by kernel_rfl
noncomputable def ref03_Stepa {R : Type} (o : Orc) (vs : List V) (objs : List Obj) (K : Bool → V → List Obj → Option R) : Option R := match vs, objs with
  | [V.s (S.i IntKind.i64 x0), V.s (S.i IntKind.i64 x1), V.s (S.i IntKind.i64 x2)], [] => ob (ref03_Step x0 x1 x2) fun y0 => K false (V.s (S.b y0)) ([])
  | _, _ => o 107 vs objs K
noncomputable def ref03_Stepo (o : Orc) : Orc := hook 107 (ref03_Stepa o) o
theorem ref03_Stepo_ok (o : Orc) (ho : OSound Tryd.prog o) : OSound Tryd.prog (ref03_Stepo o) := hook_ok ho fun vs objs K r h => by
  unfold ref03_Stepa at h
  split at h
  · skip
    obtain ⟨t, h1, h2⟩ := ob_ok h
    refine anyOK_of mixed ref03_Stepc_ok (fn := Tryd.f107) (b := (Tryd.f107).body.getD .skip) (by kernel_rfl) (by kernel_rfl) (by kernel_rfl) ((ref03_Step_eq _ _ _).trans h1) (m := 0) rfl (AllP.of (l' := []) (by kernel_rfl) trivial) fun v objs' hd => ?_
    unfold ref03_Stepd at hd
    split at hd
    · skip
      cases hd
      exact h2
    · cases hd
  · exact ho _ _ _ _ _ h
noncomputable def ref04_Linec : Ctx := mkC 51 (oNil) [] lpNil
theorem ref04_Linec_ok : CtxOK Tryd.prog ref04_Linec := mkC_ok (oNil_ok)
noncomputable def ref04_Lined : V → List Obj → Option (Int) := fun v objs => match v, objs with
  | V.s (S.i IntKind.i64 y0), [] => some (y0)
  | _, _ => none
theorem ref04_Line_eq (x0 x1 : Int) : fnE ref04_Linec Tryd.f108 ([V.s (S.i IntKind.i64 x0), V.s (S.i IntKind.i64 x1)]) ([]) ref04_Lined = ref04_Line x0 x1 := by kernel_rfl
noncomputable def ref04_Linea {R : Type} (o : Orc) (vs : List V) (objs : List Obj) (K : Bool → V → List Obj → Option R) : Option R := match vs, objs with
  | [V.s (S.i IntKind.i64 x0), V.s (S.i IntKind.i64 x1)], [] => ob (ref04_Line x0 x1) fun y0 => K false (V.s (S.i IntKind.i64 y0)) ([])
  | _, _ => o 108 vs objs K
noncomputable def ref04_Lineo (o : Orc) : Orc := hook 108 (ref04_Linea o) o
theorem ref04_Lineo_ok (o : Orc) (ho : OSound Tryd.prog o) : OSound Tryd.prog (ref04_Lineo o) := hook_ok ho fun vs objs K r h => by
  unfold ref04_Linea at h
  split at h
  · skip
    obtain ⟨t, h1, h2⟩ := ob_ok h
    refine anyOK_of mixed ref04_Linec_ok (fn := Tryd.f108) (b := (Tryd.f108).body.getD .skip) (by kernel_rfl) (by kernel_rfl) (by kernel_rfl) ((ref04_Line_eq _ _).trans h1) (m := 0) rfl (AllP.of (l' := []) (by kernel_rfl) trivial) fun v objs' hd => ?_
    unfold ref04_Lined at hd
    split at hd
    · skip
      cases hd
      exact h2
    · cases hd
  · exact ho _ _ _ _ _ h
noncomputable def ref04_signc : Ctx := mkC 7 (oNil) [] lpNil
theorem ref04_signc_ok : CtxOK Tryd.prog ref04_signc := mkC_ok (oNil_ok)
noncomputable def ref04_signd : V → List Obj → Option (Int) := fun v objs => match v, objs with
  | V.s (S.i IntKind.i64 y0), [] => some (y0)
  | _, _ => none
theorem ref04_sign_eq (x0 : Int) : fnE ref04_signc Tryd.f126 ([V.s (S.i IntKind.i64 x0)]) ([]) ref04_signd = ref04_sign x0 := by kernel_rfl
noncomputable def ref04_signa {R : Type} (o : Orc) (vs : List V) (objs : List Obj) (K : Bool → V → List Obj → Option R) : Option R := match vs, objs with
  | [V.s (S.i IntKind.i64 x0)], [] => ob (ref04_sign x0) fun y0 => K false (V.s (S.i IntKind.i64 y0)) ([])
  | _, _ => o 126 vs objs K
noncomputable def ref04_signo (o : Orc) : Orc := hook 126 (ref04_signa o) o
theorem ref04_signo_ok (o : Orc) (ho : OSound Tryd.prog o) : OSound Tryd.prog (ref04_signo o) := hook_ok ho fun vs objs K r h => by
  unfold ref04_signa at h
  split at h
  · skip
    obtain ⟨t, h1, h2⟩ := ob_ok h
    refine anyOK_of mixed ref04_signc_ok (fn := Tryd.f126) (b := (Tryd.f126).body.getD .skip) (by kernel_rfl) (by kernel_rfl) (by kernel_rfl) ((ref04_sign_eq _).trans h1) (m := 0) rfl (AllP.of (l' := []) (by kernel_rfl) trivial) fun v objs' hd => ?_
    unfold ref04_signd at hd
    split at hd
    · skip
      cases hd
      exact h2
    · cases hd
  · exact ho _ _ _ _ _ h
end Go.Kk.KkGP
