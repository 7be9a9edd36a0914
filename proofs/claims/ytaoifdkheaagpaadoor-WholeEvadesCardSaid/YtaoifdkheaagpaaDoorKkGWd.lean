/- Printed by a tool of this project (KkGen): the program's functions come to the plain ones. -/
import Derived.Test.YtaoifdkheaagpaaDoorKkGWc
namespace Go.Kk.KkGW
open Go.Proofs Go.Kk.Pl
set_option maxRecDepth 100000
set_option maxHeartbeats 4000000
noncomputable def top_WholeEvadesl13d : Ex → List V → List Obj → Option (Int × List Int × List Int × Int × List Int × List Int × Int × List (List Int) × List (List Int) × List (List Int × List Int)) := fun e vs objs => match e, vs, objs with
  | Ex.exit 0, [V.s (S.ptr 0 0 none 0), V.s (S.ptr 1 0 none 0), V.s (S.i IntKind.i64 y0), V.s (S.mp 2)], [Obj.cells 28 [Seg.arr IntKind.i8 81 y1, Seg.arr IntKind.i8 16 y2, Seg.one [S.i IntKind.i8 y3]], Obj.cells 81 [Seg.arr IntKind.i8 81 y4, Seg.arr IntKind.i8 16 y5, Seg.one [S.i IntKind.i8 y6], Seg.rows [.i .u64, .i .u64] 32 y7, Seg.rows [.i .u64, .i .u64] 2 y8], Obj.map true false [.i .i64, .i .i64, .i .i64, .b] [.b] y9] => some (y0, y1, y2, y3, y4, y5, y6, y7, y8, y9)
  | _, _, _ => none
noncomputable def top_WholeEvadesl19d : Ex → List V → List Obj → Option ((Bool × Int × List Int × List Int × Int × List (List Int) × List (List Int) × List (List Int × List Int)) ⊕ (Int × List Int × List Int × Int × List (List Int) × List (List Int) × List (List Int × List Int))) := fun e vs objs => match e, vs, objs with
  | Ex.ret, [V.s (S.b y0), V.s (S.ptr 0 0 none 0), V.s (S.mp 1), V.s (S.i IntKind.i64 y1)], [Obj.cells 81 [Seg.arr IntKind.i8 81 y2, Seg.arr IntKind.i8 16 y3, Seg.one [S.i IntKind.i8 y4], Seg.rows [.i .u64, .i .u64] 32 y5, Seg.rows [.i .u64, .i .u64] 2 y6], Obj.map true false [.i .i64, .i .i64, .i .i64, .b] [.b] y7] => some (Sum.inl (y0, y1, y2, y3, y4, y5, y6, y7))
  | Ex.exit 2, [V.s S.bad, V.s (S.ptr 0 0 none 0), V.s (S.mp 1), V.s (S.i IntKind.i64 y0)], [Obj.cells 81 [Seg.arr IntKind.i8 81 y1, Seg.arr IntKind.i8 16 y2, Seg.one [S.i IntKind.i8 y3], Seg.rows [.i .u64, .i .u64] 32 y4, Seg.rows [.i .u64, .i .u64] 2 y5], Obj.map true false [.i .i64, .i .i64, .i .i64, .b] [.b] y6] => some (Sum.inr (y0, y1, y2, y3, y4, y5, y6))
  | _, _, _ => none
noncomputable def top_WholeEvadesp13 {R : Type} (vs : List V) (objs : List Obj) (K : Ex → List V → List Obj → Option R) : Option R := match vs, objs with
  | [V.s (S.ptr 0 0 none 0), V.s (S.ptr 1 0 none 0), V.s (S.i IntKind.i64 x0), V.s (S.mp 2), V.s (S.sl 3 0 x1 true), V.s (S.i IntKind.i64 x2), V.s (S.i IntKind.i64 x3)], [Obj.cells 28 [Seg.arr IntKind.i8 81 x4, Seg.arr IntKind.i8 16 x5, Seg.one [S.i IntKind.i8 x6]], Obj.cells 81 [Seg.arr IntKind.i8 81 x7, Seg.arr IntKind.i8 16 x8, Seg.one [S.i IntKind.i8 x9], Seg.rows [.i .u64, .i .u64] 32 x10, Seg.rows [.i .u64, .i .u64] 2 x11], Obj.map true false [.i .i64, .i .i64, .i .i64, .b] [.b] x12, Obj.sli 40 false (Seg.rows [.i .i64, .i .i64, .i .i64, .b] x13 x14)] => ob (top_WholeEvadesl13 many x0 x1 x2 x3 x4 x5 x6 x7 x8 x9 x10 x11 x12 x13 x14) fun z => K (Ex.exit 0) ([V.s (S.ptr 0 0 none 0), V.s (S.ptr 1 0 none 0), V.s (S.i IntKind.i64 (z.1)), V.s (S.mp 2)]) ([Obj.cells 28 [Seg.arr IntKind.i8 81 (z.2.1), Seg.arr IntKind.i8 16 (z.2.2.1), Seg.one [S.i IntKind.i8 (z.2.2.2.1)]], Obj.cells 81 [Seg.arr IntKind.i8 81 (z.2.2.2.2.1), Seg.arr IntKind.i8 16 (z.2.2.2.2.2.1), Seg.one [S.i IntKind.i8 (z.2.2.2.2.2.2.1)], Seg.rows [.i .u64, .i .u64] 32 (z.2.2.2.2.2.2.2.1), Seg.rows [.i .u64, .i .u64] 2 (z.2.2.2.2.2.2.2.2.1)], Obj.map true false [.i .i64, .i .i64, .i .i64, .b] [.b] (z.2.2.2.2.2.2.2.2.2)])
  | _, _ => none
noncomputable def top_WholeEvadesp19 {R : Type} (vs : List V) (objs : List Obj) (K : Ex → List V → List Obj → Option R) : Option R := match vs, objs with
  | [V.s (S.ptr 0 0 none 0), V.s (S.ptr 1 0 none 0), V.s (S.i IntKind.i64 x0), V.s (S.mp 2), V.s (S.i IntKind.i64 x1), V.s (S.sl 3 0 x2 true), V.s (S.i IntKind.i64 x3), V.s (S.i IntKind.i64 x4)], [Obj.cells 28 [Seg.arr IntKind.i8 81 x5, Seg.arr IntKind.i8 16 x6, Seg.one [S.i IntKind.i8 x7]], Obj.cells 81 [Seg.arr IntKind.i8 81 x8, Seg.arr IntKind.i8 16 x9, Seg.one [S.i IntKind.i8 x10], Seg.rows [.i .u64, .i .u64] 32 x11, Seg.rows [.i .u64, .i .u64] 2 x12], Obj.map true false [.i .i64, .i .i64, .i .i64, .b] [.b] x13, Obj.sli 40 false (Seg.rows [.i .i64, .i .i64, .i .i64, .b] x14 x15)] => ob (top_WholeEvadesl19 many x0 x1 x2 x3 x4 x5 x6 x7 x8 x9 x10 x11 x12 x13 x14 x15) fun t0 => sw t0 (fun z => K (Ex.ret) ([V.s (S.b (z.1)), V.s (S.ptr 0 0 none 0), V.s (S.mp 1), V.s (S.i IntKind.i64 (z.2.1))]) ([Obj.cells 81 [Seg.arr IntKind.i8 81 (z.2.2.1), Seg.arr IntKind.i8 16 (z.2.2.2.1), Seg.one [S.i IntKind.i8 (z.2.2.2.2.1)], Seg.rows [.i .u64, .i .u64] 32 (z.2.2.2.2.2.1), Seg.rows [.i .u64, .i .u64] 2 (z.2.2.2.2.2.2.1)], Obj.map true false [.i .i64, .i .i64, .i .i64, .b] [.b] (z.2.2.2.2.2.2.2)])) (fun z => K (Ex.exit 2) ([V.s S.bad, V.s (S.ptr 0 0 none 0), V.s (S.mp 1), V.s (S.i IntKind.i64 (z.1))]) ([Obj.cells 81 [Seg.arr IntKind.i8 81 (z.2.1), Seg.arr IntKind.i8 16 (z.2.2.1), Seg.one [S.i IntKind.i8 (z.2.2.2.1)], Seg.rows [.i .u64, .i .u64] 32 (z.2.2.2.2.1), Seg.rows [.i .u64, .i .u64] 2 (z.2.2.2.2.2.1)], Obj.map true false [.i .i64, .i .i64, .i .i64, .b] [.b] (z.2.2.2.2.2.2)]))
  | _, _ => none
noncomputable def top_WholeEvadeslp : {R : Type} → Nat → List V → List Obj → (Ex → List V → List Obj → Option R) → Option R := fun q vs objs K => bif Nat.beq q 13 then top_WholeEvadesp13 vs objs K else bif Nat.beq q 19 then top_WholeEvadesp19 vs objs K else none
noncomputable def top_WholeEvadesc : Ctx := mkC 102 ((legal_PawnMateso (deed_Aftero (legal_Allo (attack_InChecko (attack_Checko (gen_Allo (mate_Matedo (board_Newo (board_Starto oNil)))))))))) [(13, [1, 3, 4, 5, 36, 37, 38], [1, 3, 4, 5]), (19, [1, 3, 4, 5, 8, 46, 47, 48], [2, 3, 5, 8])] top_WholeEvadeslp
theorem top_WholeEvadesc_ok : CtxOK Tryd.prog top_WholeEvadesc := mkC_ok ((legal_PawnMateso_ok _ (deed_Aftero_ok _ (legal_Allo_ok _ (attack_InChecko_ok _ (attack_Checko_ok _ (gen_Allo_ok _ (mate_Matedo_ok _ (board_Newo_ok _ (board_Starto_ok _ oNil_ok))))))))))
noncomputable def top_WholeEvadesl13r (f : Nat) (x0 : Int) (x1 : Nat) (x2 x3 : Int) (x4 x5 : List Int) (x6 : Int) (x7 x8 : List Int) (x9 : Int) (x10 x11 : List (List Int)) (x12 : List (List Int × List Int)) (x13 : Nat) (x14 : List (List Int)) : Option (Int × List Int × List Int × Int × List Int × List Int × Int × List (List Int) × List (List Int) × List (List Int × List Int)) := lrun top_WholeEvadesc 0 [1, 3, 4, 5, 36, 37, 38] [1, 3, 4, 5] (loopOf Tryd.f3 13) f ([V.s (S.ptr 0 0 none 0), V.s (S.ptr 1 0 none 0), V.s (S.i IntKind.i64 x0), V.s (S.mp 2), V.s (S.sl 3 0 x1 true), V.s (S.i IntKind.i64 x2), V.s (S.i IntKind.i64 x3)]) ([Obj.cells 28 [Seg.arr IntKind.i8 81 x4, Seg.arr IntKind.i8 16 x5, Seg.one [S.i IntKind.i8 x6]], Obj.cells 81 [Seg.arr IntKind.i8 81 x7, Seg.arr IntKind.i8 16 x8, Seg.one [S.i IntKind.i8 x9], Seg.rows [.i .u64, .i .u64] 32 x10, Seg.rows [.i .u64, .i .u64] 2 x11], Obj.map true false [.i .i64, .i .i64, .i .i64, .b] [.b] x12, Obj.sli 40 false (Seg.rows [.i .i64, .i .i64, .i .i64, .b] x13 x14)]) top_WholeEvadesl13d
theorem top_WholeEvadesl13_step (f : Nat) (x0 : Int) (x1 : Nat) (x2 x3 : Int) (x4 x5 : List Int) (x6 : Int) (x7 x8 : List Int) (x9 : Int) (x10 x11 : List (List Int)) (x12 : List (List Int × List Int)) (x13 : Nat) (x14 : List (List Int)) : top_WholeEvadesl13r (f + 1) x0 x1 x2 x3 x4 x5 x6 x7 x8 x9 x10 x11 x12 x13 x14 = top_WholeEvadesl13s (top_WholeEvadesl13r f) x0 x1 x2 x3 x4 x5 x6 x7 x8 x9 x10 x11 x12 x13 x14 := by kernel_rfl
theorem top_WholeEvadesl13_eq : ∀ f, top_WholeEvadesl13r f = top_WholeEvadesl13 f
  | 0 => rfl
  | f + 1 => by funext x0 x1 x2 x3 x4 x5 x6 x7 x8 x9 x10 x11 x12 x13 x14; rw [top_WholeEvadesl13_step, top_WholeEvadesl13_eq f]; rfl
noncomputable def top_WholeEvadesl19r (f : Nat) (x0 x1 : Int) (x2 : Nat) (x3 x4 : Int) (x5 x6 : List Int) (x7 : Int) (x8 x9 : List Int) (x10 : Int) (x11 x12 : List (List Int)) (x13 : List (List Int × List Int)) (x14 : Nat) (x15 : List (List Int)) : Option ((Bool × Int × List Int × List Int × Int × List (List Int) × List (List Int) × List (List Int × List Int)) ⊕ (Int × List Int × List Int × Int × List (List Int) × List (List Int) × List (List Int × List Int))) := lrun top_WholeEvadesc 0 [1, 3, 4, 5, 8, 46, 47, 48] [2, 3, 5, 8] (loopOf Tryd.f3 19) f ([V.s (S.ptr 0 0 none 0), V.s (S.ptr 1 0 none 0), V.s (S.i IntKind.i64 x0), V.s (S.mp 2), V.s (S.i IntKind.i64 x1), V.s (S.sl 3 0 x2 true), V.s (S.i IntKind.i64 x3), V.s (S.i IntKind.i64 x4)]) ([Obj.cells 28 [Seg.arr IntKind.i8 81 x5, Seg.arr IntKind.i8 16 x6, Seg.one [S.i IntKind.i8 x7]], Obj.cells 81 [Seg.arr IntKind.i8 81 x8, Seg.arr IntKind.i8 16 x9, Seg.one [S.i IntKind.i8 x10], Seg.rows [.i .u64, .i .u64] 32 x11, Seg.rows [.i .u64, .i .u64] 2 x12], Obj.map true false [.i .i64, .i .i64, .i .i64, .b] [.b] x13, Obj.sli 40 false (Seg.rows [.i .i64, .i .i64, .i .i64, .b] x14 x15)]) top_WholeEvadesl19d
theorem top_WholeEvadesl19_step (f : Nat) (x0 x1 : Int) (x2 : Nat) (x3 x4 : Int) (x5 x6 : List Int) (x7 : Int) (x8 x9 : List Int) (x10 : Int) (x11 x12 : List (List Int)) (x13 : List (List Int × List Int)) (x14 : Nat) (x15 : List (List Int)) : top_WholeEvadesl19r (f + 1) x0 x1 x2 x3 x4 x5 x6 x7 x8 x9 x10 x11 x12 x13 x14 x15 = top_WholeEvadesl19s (top_WholeEvadesl19r f) x0 x1 x2 x3 x4 x5 x6 x7 x8 x9 x10 x11 x12 x13 x14 x15 := by kernel_rfl
theorem top_WholeEvadesl19_eq : ∀ f, top_WholeEvadesl19r f = top_WholeEvadesl19 f
  | 0 => rfl
  | f + 1 => by funext x0 x1 x2 x3 x4 x5 x6 x7 x8 x9 x10 x11 x12 x13 x14 x15; rw [top_WholeEvadesl19_step, top_WholeEvadesl19_eq f]; rfl
theorem top_WholeEvadess13 : LoopSound Tryd.prog top_WholeEvadesc 0 (loopOf Tryd.f3 13) :=
  loopSound_by mixed top_WholeEvadesc_ok (AllP.of (l' := []) (by kernel_rfl) trivial) (q := 13) (kin := [1, 3, 4, 5, 36, 37, 38]) (kout := [1, 3, 4, 5]) (by kernel_rfl) (by kernel_rfl) fun vs objs K r h => by
    replace h : top_WholeEvadesp13 vs objs K = some r := h
    unfold top_WholeEvadesp13 at h
    split at h
    · skip
      obtain ⟨t, h1, h2⟩ := ob_ok h
      rw [← top_WholeEvadesl13_eq] at h1
      refine ⟨_, top_WholeEvadesl13d, t, many, h1, fun e vs' objs' hd => ?_⟩
      unfold top_WholeEvadesl13d at hd
      split at hd
      · skip
        cases hd
        exact h2
      · cases hd
    · cases h
theorem top_WholeEvadess19 : LoopSound Tryd.prog top_WholeEvadesc 0 (loopOf Tryd.f3 19) :=
  loopSound_by mixed top_WholeEvadesc_ok (AllP.of (l' := []) (by kernel_rfl) trivial) (q := 19) (kin := [1, 3, 4, 5, 8, 46, 47, 48]) (kout := [2, 3, 5, 8]) (by kernel_rfl) (by kernel_rfl) fun vs objs K r h => by
    replace h : top_WholeEvadesp19 vs objs K = some r := h
    unfold top_WholeEvadesp19 at h
    split at h
    · skip
      obtain ⟨t, h1, h2⟩ := ob_ok h
      rw [← top_WholeEvadesl19_eq] at h1
      refine ⟨_, top_WholeEvadesl19d, t, many, h1, fun e vs' objs' hd => ?_⟩
      unfold top_WholeEvadesl19d at hd
      split at hd
      · skip
        cases hd
        exact h2
      · skip
        cases hd
        exact h2
      · cases hd
    · cases h
noncomputable def top_WholeEvadesd : V → List Obj → Option (Bool) := fun v objs => match v, objs with
  | V.s (S.b y0), [] => some (y0)
  | _, _ => none
theorem top_WholeEvades_eq (x0 x1 : List Int) (x2 : Int) : fnE top_WholeEvadesc Tryd.f3 ([V.agg [Seg.arr IntKind.i8 81 x0, Seg.arr IntKind.i8 16 x1, Seg.one [S.i IntKind.i8 x2]]]) ([]) top_WholeEvadesd = top_WholeEvades x0 x1 x2 := by kernel_rfl
noncomputable def top_WholeEvadesa {R : Type} (o : Orc) (vs : List V) (objs : List Obj) (K : Bool → V → List Obj → Option R) : Option R := match vs, objs with
  | [V.agg [Seg.arr IntKind.i8 81 x0, Seg.arr IntKind.i8 16 x1, Seg.one [S.i IntKind.i8 x2]]], [] => ob (top_WholeEvades x0 x1 x2) fun y0 => K false (V.s (S.b y0)) ([])
  | _, _ => o 3 vs objs K
noncomputable def top_WholeEvadeso (o : Orc) : Orc := hook 3 (top_WholeEvadesa o) o
theorem top_WholeEvades_ok {vs : List V} {objs : List Obj} (x0 x1 : List Int) (x2 : Int) {R : Type} {K : Bool → V → List Obj → Option R} {r : R} (hv : vs = [V.agg [Seg.arr IntKind.i8 81 x0, Seg.arr IntKind.i8 16 x1, Seg.one [S.i IntKind.i8 x2]]]) (ho : objs = []) (h : ob (top_WholeEvades x0 x1 x2) (fun y0 => K false (V.s (S.b y0)) ([])) = some r) :
    ∃ p v objs', K p v objs' = some r ∧ AnyOK Tryd.prog 3 vs objs p v objs' := by
  subst hv
  subst ho
  obtain ⟨t, h1, h2⟩ := ob_ok h
  refine anyOK_of mixed top_WholeEvadesc_ok (fn := Tryd.f3) (b := (Tryd.f3).body.getD .skip) (by kernel_rfl) (by kernel_rfl) (by kernel_rfl) ((top_WholeEvades_eq _ _ _).trans h1) (m := 0) rfl (AllP.of (l' := [loopOf Tryd.f3 13, loopOf Tryd.f3 19]) (by kernel_rfl) ⟨top_WholeEvadess13, top_WholeEvadess19, trivial⟩) fun v objs' hd => ?_
  unfold top_WholeEvadesd at hd
  split at hd
  · skip
    cases hd
    exact h2
  · cases hd
theorem top_WholeEvadeso_ok (o : Orc) (ho : OSound Tryd.prog o) : OSound Tryd.prog (top_WholeEvadeso o) := hook_ok ho fun vs objs K r h => by
  unfold top_WholeEvadesa at h
  split at h
  · skip
    obtain ⟨t, h1, h2⟩ := ob_ok h
    refine anyOK_of mixed top_WholeEvadesc_ok (fn := Tryd.f3) (b := (Tryd.f3).body.getD .skip) (by kernel_rfl) (by kernel_rfl) (by kernel_rfl) ((top_WholeEvades_eq _ _ _).trans h1) (m := 0) rfl (AllP.of (l' := [loopOf Tryd.f3 13, loopOf Tryd.f3 19]) (by kernel_rfl) ⟨top_WholeEvadess13, top_WholeEvadess19, trivial⟩) fun v objs' hd => ?_
    unfold top_WholeEvadesd at hd
    split at hd
    · skip
      cases hd
      exact h2
    · cases hd
  · exact ho _ _ _ _ _ h
end Go.Kk.KkGW
