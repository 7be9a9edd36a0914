/- Printed by a tool of this project (KkGen): the program's functions come to the plain ones. -/
import Derived.Test.YtaoifdkheaagpaaDoorKkGM
namespace Go.Kk.KkGM
open Go.Proofs Go.Kk.Pl
set_option maxRecDepth 100000
set_option maxHeartbeats 4000000

noncomputable def gen_Boardl9d : Ex → List V → List Obj → Option (Nat × Int × Nat × Int × Int × List Int × List Int × Int × List (List Int) × List (List Int) × Int × Int × Nat × List (List Int) × Int × Int × Nat × List Int) := fun e vs objs => match e, vs, objs with
  | Ex.exit 2, [V.s (S.ptr 0 0 none 0), V.s (S.ptr 1 0 none 0), V.s (S.sl 2 0 y0 true), V.s (S.i IntKind.i64 y1), V.s (S.ptr 3 0 none 0), V.s (S.sl 4 0 y2 true), V.s (S.i IntKind.i64 y3), V.s (S.i IntKind.i64 y4)], [Obj.rcells 81 [Seg.arr IntKind.i8 81 y5, Seg.arr IntKind.i8 16 y6, Seg.one [S.i IntKind.i8 y7], Seg.rows [.i .u64, .i .u64] 32 y8, Seg.rows [.i .u64, .i .u64] 2 y9], Obj.cells 57 [Seg.one [S.i IntKind.u64 y10, S.i IntKind.u64 y11]], Obj.sli 40 false (Seg.rows [.i .i64, .i .i64, .i .i64, .b] y12 y13), Obj.cells 57 [Seg.one [S.i IntKind.u64 y14, S.i IntKind.u64 y15]], Obj.sli 3 false (Seg.arr IntKind.i64 y16 y17)] => some (y0, y1, y2, y3, y4, y5, y6, y7, y8, y9, y10, y11, y12, y13, y14, y15, y16, y17)
  | _, _, _ => none

noncomputable def gen_Boardl5d : Ex → List V → List Obj → Option (Nat × List Int × List Int × Int × List (List Int) × List (List Int) × Nat × List (List Int)) := fun e vs objs => match e, vs, objs with
  | Ex.exit 0, [V.s (S.sl 1 0 y0 true)], [Obj.rcells 81 [Seg.arr IntKind.i8 81 y1, Seg.arr IntKind.i8 16 y2, Seg.one [S.i IntKind.i8 y3], Seg.rows [.i .u64, .i .u64] 32 y4, Seg.rows [.i .u64, .i .u64] 2 y5], Obj.sli 40 false (Seg.rows [.i .i64, .i .i64, .i .i64, .b] y6 y7)] => some (y0, y1, y2, y3, y4, y5, y6, y7)
  | _, _, _ => none

noncomputable def gen_Boardp9 {R : Type} (vs : List V) (objs : List Obj) (K : Ex → List V → List Obj → Option R) : Option R := match vs, objs with
  | [V.s (S.ptr 0 0 none 0), V.s (S.ptr 1 0 none 0), V.s (S.sl 2 0 x0 true), V.s (S.i IntKind.i64 x1), V.s (S.ptr 3 0 none 0), V.s (S.i IntKind.i64 x2), V.s (S.i IntKind.i8 x3), V.s (S.sl 4 0 x4 true), V.s (S.i IntKind.i64 x5), V.s (S.i IntKind.i64 x6), V.s (S.sl 5 0 x7 true), V.s (S.i IntKind.i64 x8), V.s (S.i IntKind.i64 x9)], [Obj.rcells 81 [Seg.arr IntKind.i8 81 x10, Seg.arr IntKind.i8 16 x11, Seg.one [S.i IntKind.i8 x12], Seg.rows [.i .u64, .i .u64] 32 x13, Seg.rows [.i .u64, .i .u64] 2 x14], Obj.cells 57 [Seg.one [S.i IntKind.u64 x15, S.i IntKind.u64 x16]], Obj.sli 40 false (Seg.rows [.i .i64, .i .i64, .i .i64, .b] x17 x18), Obj.cells 57 [Seg.one [S.i IntKind.u64 x19, S.i IntKind.u64 x20]], Obj.sli 3 false (Seg.arr IntKind.i64 x21 x22), Obj.sli 3 false (Seg.arr IntKind.i64 x23 x24)] => ob (gen_Boardl9 many x0 x1 x2 x3 x4 x5 x6 x7 x8 x9 x10 x11 x12 x13 x14 x15 x16 x17 x18 x19 x20 x21 x22 x23 x24) fun z => K (Ex.exit 2) ([V.s (S.ptr 0 0 none 0), V.s (S.ptr 1 0 none 0), V.s (S.sl 2 0 (z.1) true), V.s (S.i IntKind.i64 (z.2.1)), V.s (S.ptr 3 0 none 0), V.s (S.sl 4 0 (z.2.2.1) true), V.s (S.i IntKind.i64 (z.2.2.2.1)), V.s (S.i IntKind.i64 (z.2.2.2.2.1))]) ([Obj.rcells 81 [Seg.arr IntKind.i8 81 (z.2.2.2.2.2.1), Seg.arr IntKind.i8 16 (z.2.2.2.2.2.2.1), Seg.one [S.i IntKind.i8 (z.2.2.2.2.2.2.2.1)], Seg.rows [.i .u64, .i .u64] 32 (z.2.2.2.2.2.2.2.2.1), Seg.rows [.i .u64, .i .u64] 2 (z.2.2.2.2.2.2.2.2.2.1)], Obj.cells 57 [Seg.one [S.i IntKind.u64 (z.2.2.2.2.2.2.2.2.2.2.1), S.i IntKind.u64 (z.2.2.2.2.2.2.2.2.2.2.2.1)]], Obj.sli 40 false (Seg.rows [.i .i64, .i .i64, .i .i64, .b] (z.2.2.2.2.2.2.2.2.2.2.2.2.1) (z.2.2.2.2.2.2.2.2.2.2.2.2.2.1)), Obj.cells 57 [Seg.one [S.i IntKind.u64 (z.2.2.2.2.2.2.2.2.2.2.2.2.2.2.1), S.i IntKind.u64 (z.2.2.2.2.2.2.2.2.2.2.2.2.2.2.2.1)]], Obj.sli 3 false (Seg.arr IntKind.i64 (z.2.2.2.2.2.2.2.2.2.2.2.2.2.2.2.2.1) (z.2.2.2.2.2.2.2.2.2.2.2.2.2.2.2.2.2))])
  | _, _ => none

noncomputable def gen_Boardp5 {R : Type} (vs : List V) (objs : List Obj) (K : Ex → List V → List Obj → Option R) : Option R := match vs, objs with
  | [V.s (S.ptr 0 0 none 0), V.s (S.ptr 1 0 none 0), V.s (S.sl 2 0 x0 true), V.s (S.i IntKind.i64 x1), V.s (S.ptr 3 0 none 0), V.s (S.sl 4 0 x2 true), V.s (S.i IntKind.i64 x3), V.s (S.i IntKind.i64 x4)], [Obj.rcells 81 [Seg.arr IntKind.i8 81 x5, Seg.arr IntKind.i8 16 x6, Seg.one [S.i IntKind.i8 x7], Seg.rows [.i .u64, .i .u64] 32 x8, Seg.rows [.i .u64, .i .u64] 2 x9], Obj.cells 57 [Seg.one [S.i IntKind.u64 x10, S.i IntKind.u64 x11]], Obj.sli 40 false (Seg.rows [.i .i64, .i .i64, .i .i64, .b] x12 x13), Obj.cells 57 [Seg.one [S.i IntKind.u64 x14, S.i IntKind.u64 x15]], Obj.sli 3 false (Seg.arr IntKind.i64 x16 x17)] => ob (gen_Boardl5 many x0 x1 x2 x3 x4 x5 x6 x7 x8 x9 x10 x11 x12 x13 x14 x15 x16 x17) fun z => K (Ex.exit 0) ([V.s (S.sl 1 0 (z.1) true)]) ([Obj.rcells 81 [Seg.arr IntKind.i8 81 (z.2.1), Seg.arr IntKind.i8 16 (z.2.2.1), Seg.one [S.i IntKind.i8 (z.2.2.2.1)], Seg.rows [.i .u64, .i .u64] 32 (z.2.2.2.2.1), Seg.rows [.i .u64, .i .u64] 2 (z.2.2.2.2.2.1)], Obj.sli 40 false (Seg.rows [.i .i64, .i .i64, .i .i64, .b] (z.2.2.2.2.2.2.1) (z.2.2.2.2.2.2.2))])
  | _, _ => none

noncomputable def gen_Boardlp : {R : Type} → Nat → List V → List Obj → (Ex → List V → List Obj → Option R) → Option R := fun q vs objs K => bif Nat.beq q 9 then gen_Boardp9 vs objs K else bif Nat.beq q 5 then gen_Boardp5 vs objs K else none

noncomputable def gen_Boardc : Ctx := mkC 82 ((gen_Promoteso (set_Ando (set_Minuso (ray_Ofo (board_Takeno (board_Ato (set_Squareso (board_Pieceso (set_Oro (board_Ofo oNil))))))))))) [(5, [0, 3, 5, 6, 7, 29, 30, 31], [5]), (9, [0, 3, 5, 6, 7, 9, 10, 29, 30, 31, 51, 52, 53], [0, 3, 5, 6, 7, 29, 30, 31])] gen_Boardlp

theorem gen_Boardc_ok : CtxOK Tryd.prog gen_Boardc := mkC_ok ((gen_Promoteso_ok _ (set_Ando_ok _ (set_Minuso_ok _ (ray_Ofo_ok _ (board_Takeno_ok _ (board_Ato_ok _ (set_Squareso_ok _ (board_Pieceso_ok _ (set_Oro_ok _ (board_Ofo_ok _ oNil_ok)))))))))))

noncomputable def gen_Boardl9r (f : Nat) (x0 : Nat) (x1 : Int) (x2 : Int) (x3 : Int) (x4 : Nat) (x5 : Int) (x6 : Int) (x7 : Nat) (x8 : Int) (x9 : Int) (x10 : List Int) (x11 : List Int) (x12 : Int) (x13 : List (List Int)) (x14 : List (List Int)) (x15 : Int) (x16 : Int) (x17 : Nat) (x18 : List (List Int)) (x19 : Int) (x20 : Int) (x21 : Nat) (x22 : List Int) (x23 : Nat) (x24 : List Int) : Option (Nat × Int × Nat × Int × Int × List Int × List Int × Int × List (List Int) × List (List Int) × Int × Int × Nat × List (List Int) × Int × Int × Nat × List Int) := lrun gen_Boardc 1 [0, 3, 5, 6, 7, 9, 10, 29, 30, 31, 51, 52, 53] [0, 3, 5, 6, 7, 29, 30, 31] (loopOf Tryd.f57 9) f ([V.s (S.ptr 0 0 none 0), V.s (S.ptr 1 0 none 0), V.s (S.sl 2 0 x0 true), V.s (S.i IntKind.i64 x1), V.s (S.ptr 3 0 none 0), V.s (S.i IntKind.i64 x2), V.s (S.i IntKind.i8 x3), V.s (S.sl 4 0 x4 true), V.s (S.i IntKind.i64 x5), V.s (S.i IntKind.i64 x6), V.s (S.sl 5 0 x7 true), V.s (S.i IntKind.i64 x8), V.s (S.i IntKind.i64 x9)]) ([Obj.rcells 81 [Seg.arr IntKind.i8 81 x10, Seg.arr IntKind.i8 16 x11, Seg.one [S.i IntKind.i8 x12], Seg.rows [.i .u64, .i .u64] 32 x13, Seg.rows [.i .u64, .i .u64] 2 x14], Obj.cells 57 [Seg.one [S.i IntKind.u64 x15, S.i IntKind.u64 x16]], Obj.sli 40 false (Seg.rows [.i .i64, .i .i64, .i .i64, .b] x17 x18), Obj.cells 57 [Seg.one [S.i IntKind.u64 x19, S.i IntKind.u64 x20]], Obj.sli 3 false (Seg.arr IntKind.i64 x21 x22), Obj.sli 3 false (Seg.arr IntKind.i64 x23 x24)]) gen_Boardl9d

theorem gen_Boardl9_step (f : Nat) (x0 : Nat) (x1 : Int) (x2 : Int) (x3 : Int) (x4 : Nat) (x5 : Int) (x6 : Int) (x7 : Nat) (x8 : Int) (x9 : Int) (x10 : List Int) (x11 : List Int) (x12 : Int) (x13 : List (List Int)) (x14 : List (List Int)) (x15 : Int) (x16 : Int) (x17 : Nat) (x18 : List (List Int)) (x19 : Int) (x20 : Int) (x21 : Nat) (x22 : List Int) (x23 : Nat) (x24 : List Int) : gen_Boardl9r (f + 1) x0 x1 x2 x3 x4 x5 x6 x7 x8 x9 x10 x11 x12 x13 x14 x15 x16 x17 x18 x19 x20 x21 x22 x23 x24 = gen_Boardl9s (gen_Boardl9r f) x0 x1 x2 x3 x4 x5 x6 x7 x8 x9 x10 x11 x12 x13 x14 x15 x16 x17 x18 x19 x20 x21 x22 x23 x24 := by kernel_rfl

theorem gen_Boardl9_eq : ∀ f, gen_Boardl9r f = gen_Boardl9 f
  | 0 => rfl
  | f + 1 => by funext x0 x1 x2 x3 x4 x5 x6 x7 x8 x9 x10 x11 x12 x13 x14 x15 x16 x17 x18 x19 x20 x21 x22 x23 x24; rw [gen_Boardl9_step, gen_Boardl9_eq f]; rfl

noncomputable def gen_Boardl5r (f : Nat) (x0 : Nat) (x1 : Int) (x2 : Nat) (x3 : Int) (x4 : Int) (x5 : List Int) (x6 : List Int) (x7 : Int) (x8 : List (List Int)) (x9 : List (List Int)) (x10 : Int) (x11 : Int) (x12 : Nat) (x13 : List (List Int)) (x14 : Int) (x15 : Int) (x16 : Nat) (x17 : List Int) : Option (Nat × List Int × List Int × Int × List (List Int) × List (List Int) × Nat × List (List Int)) := lrun gen_Boardc 1 [0, 3, 5, 6, 7, 29, 30, 31] [5] (loopOf Tryd.f57 5) f ([V.s (S.ptr 0 0 none 0), V.s (S.ptr 1 0 none 0), V.s (S.sl 2 0 x0 true), V.s (S.i IntKind.i64 x1), V.s (S.ptr 3 0 none 0), V.s (S.sl 4 0 x2 true), V.s (S.i IntKind.i64 x3), V.s (S.i IntKind.i64 x4)]) ([Obj.rcells 81 [Seg.arr IntKind.i8 81 x5, Seg.arr IntKind.i8 16 x6, Seg.one [S.i IntKind.i8 x7], Seg.rows [.i .u64, .i .u64] 32 x8, Seg.rows [.i .u64, .i .u64] 2 x9], Obj.cells 57 [Seg.one [S.i IntKind.u64 x10, S.i IntKind.u64 x11]], Obj.sli 40 false (Seg.rows [.i .i64, .i .i64, .i .i64, .b] x12 x13), Obj.cells 57 [Seg.one [S.i IntKind.u64 x14, S.i IntKind.u64 x15]], Obj.sli 3 false (Seg.arr IntKind.i64 x16 x17)]) gen_Boardl5d

theorem gen_Boardl5_step (f : Nat) (x0 : Nat) (x1 : Int) (x2 : Nat) (x3 : Int) (x4 : Int) (x5 : List Int) (x6 : List Int) (x7 : Int) (x8 : List (List Int)) (x9 : List (List Int)) (x10 : Int) (x11 : Int) (x12 : Nat) (x13 : List (List Int)) (x14 : Int) (x15 : Int) (x16 : Nat) (x17 : List Int) : gen_Boardl5r (f + 1) x0 x1 x2 x3 x4 x5 x6 x7 x8 x9 x10 x11 x12 x13 x14 x15 x16 x17 = gen_Boardl5s (gen_Boardl5r f) x0 x1 x2 x3 x4 x5 x6 x7 x8 x9 x10 x11 x12 x13 x14 x15 x16 x17 := by kernel_rfl

theorem gen_Boardl5_eq : ∀ f, gen_Boardl5r f = gen_Boardl5 f
  | 0 => rfl
  | f + 1 => by funext x0 x1 x2 x3 x4 x5 x6 x7 x8 x9 x10 x11 x12 x13 x14 x15 x16 x17; rw [gen_Boardl5_step, gen_Boardl5_eq f]; rfl

theorem gen_Boards9 : LoopSound Tryd.prog gen_Boardc 1 (loopOf Tryd.f57 9) :=
  loopSound_by mixed gen_Boardc_ok (AllP.of (l' := []) (by kernel_rfl) trivial) (q := 9) (kin := [0, 3, 5, 6, 7, 9, 10, 29, 30, 31, 51, 52, 53]) (kout := [0, 3, 5, 6, 7, 29, 30, 31]) (by kernel_rfl) (by kernel_rfl) fun vs objs K r h => by
    replace h : gen_Boardp9 vs objs K = some r := h
    unfold gen_Boardp9 at h
    split at h
    · skip
      obtain ⟨t, h1, h2⟩ := ob_ok h
      rw [← gen_Boardl9_eq] at h1
      refine ⟨_, gen_Boardl9d, t, many, h1, fun e vs' objs' hd => ?_⟩
      unfold gen_Boardl9d at hd
      split at hd
      · skip
        cases hd
        exact h2
      · cases hd
    · cases h

theorem gen_Boards5 : LoopSound Tryd.prog gen_Boardc 1 (loopOf Tryd.f57 5) :=
  loopSound_by mixed gen_Boardc_ok (AllP.of (l' := [loopOf Tryd.f57 9]) (by kernel_rfl) ⟨gen_Boards9, trivial⟩) (q := 5) (kin := [0, 3, 5, 6, 7, 29, 30, 31]) (kout := [5]) (by kernel_rfl) (by kernel_rfl) fun vs objs K r h => by
    replace h : gen_Boardp5 vs objs K = some r := h
    unfold gen_Boardp5 at h
    split at h
    · skip
      obtain ⟨t, h1, h2⟩ := ob_ok h
      rw [← gen_Boardl5_eq] at h1
      refine ⟨_, gen_Boardl5d, t, many, h1, fun e vs' objs' hd => ?_⟩
      unfold gen_Boardl5d at hd
      split at hd
      · skip
        cases hd
        exact h2
      · cases hd
    · cases h

noncomputable def gen_Boardd : V → List Obj → Option (Nat × Nat × List (List Int)) := fun v objs => match v, objs with
  | V.s (S.sl 1 0 y0 true), [Obj.sli 40 false (Seg.rows [.i .i64, .i .i64, .i .i64, .b] y1 y2)] => some (y0, y1, y2)
  | _, _ => none

theorem gen_Board_eq (x0 : Int) (x1 : Int) (x2 : List Int) (x3 : List Int) (x4 : Int) (x5 : List (List Int)) (x6 : List (List Int)) : fnE gen_Boardc Tryd.f57 ([V.s (S.ptr 0 0 none 0), V.agg [Seg.one [S.i IntKind.u64 x0, S.i IntKind.u64 x1]]]) ([Obj.rcells 81 [Seg.arr IntKind.i8 81 x2, Seg.arr IntKind.i8 16 x3, Seg.one [S.i IntKind.i8 x4], Seg.rows [.i .u64, .i .u64] 32 x5, Seg.rows [.i .u64, .i .u64] 2 x6]]) (pureD 1 gen_Boardd) = gen_Board x0 x1 x2 x3 x4 x5 x6 := by kernel_rfl

noncomputable def gen_Boarda {R : Type} (o : Orc) (vs : List V) (objs : List Obj) (K : Bool → V → List Obj → Option R) : Option R := match vs, List.map Obj.toRO objs with
  | [V.s (S.ptr 0 0 none 0), V.agg [Seg.one [S.i IntKind.u64 x0, S.i IntKind.u64 x1]]], [Obj.rcells 81 [Seg.arr IntKind.i8 81 x2, Seg.arr IntKind.i8 16 x3, Seg.one [S.i IntKind.i8 x4], Seg.rows [.i .u64, .i .u64] 32 x5, Seg.rows [.i .u64, .i .u64] 2 x6]] => ob (gen_Board x0 x1 x2 x3 x4 x5 x6) fun z => K true (V.s (S.sl 1 0 (z.1) true)) ([Obj.sli 40 false (Seg.rows [.i .i64, .i .i64, .i .i64, .b] (z.2.1) (z.2.2))])
  | _, _ => o 57 vs objs K

noncomputable def gen_Boardo (o : Orc) : Orc := hook 57 (gen_Boarda o) o

theorem gen_Boardo_ok (o : Orc) (ho : OSound Tryd.prog o) : OSound Tryd.prog (gen_Boardo o) := hook_ok ho fun vs objs K r h => by
  unfold gen_Boarda at h
  split at h
  · skip
    have hq : List.map Obj.toRO objs = _ := (by rename_i hq; first | exact hq | assumption)
    obtain ⟨t, h1, h2⟩ := ob_ok h
    refine purOK_by mixed gen_Boardc_ok (m := 1) (fn := Tryd.f57) (b := (Tryd.f57).body.getD .skip) (by kernel_rfl) (by kernel_rfl) (by kernel_rfl) hq (by kernel_rfl) (by kernel_rfl) (AllP.of (l' := [loopOf Tryd.f57 5]) (by kernel_rfl) ⟨gen_Boards5, trivial⟩) ((gen_Board_eq _ _ _ _ _ _ _).trans h1) fun v objs' hd => ?_
    unfold gen_Boardd at hd
    split at hd
    · skip
      cases hd
      exact h2
    · cases hd
  · exact ho _ _ _ _ _ h

noncomputable def board_Handc : Ctx := mkC 31 (oNil) [] lpNil

theorem board_Handc_ok : CtxOK Tryd.prog board_Handc := mkC_ok (oNil_ok)

noncomputable def board_Handd : V → List Obj → Option (Int) := fun v objs => match v, objs with
  | V.s (S.i IntKind.i64 y0), [] => some (y0)
  | _, _ => none

theorem board_Hand_eq (x0 : Int) (x1 : Int) (x2 : List Int) (x3 : List Int) (x4 : Int) (x5 : List (List Int)) (x6 : List (List Int)) : fnE board_Handc Tryd.f36 ([V.s (S.ptr 0 0 none 0), V.s (S.i IntKind.i64 x0), V.s (S.i IntKind.i64 x1)]) ([Obj.rcells 81 [Seg.arr IntKind.i8 81 x2, Seg.arr IntKind.i8 16 x3, Seg.one [S.i IntKind.i8 x4], Seg.rows [.i .u64, .i .u64] 32 x5, Seg.rows [.i .u64, .i .u64] 2 x6]]) (pureD 1 board_Handd) = board_Hand x0 x1 x2 x3 x4 x5 x6 := by kernel_rfl

noncomputable def board_Handa {R : Type} (o : Orc) (vs : List V) (objs : List Obj) (K : Bool → V → List Obj → Option R) : Option R := match vs, List.map Obj.toRO objs with
  | [V.s (S.ptr 0 0 none 0), V.s (S.i IntKind.i64 x0), V.s (S.i IntKind.i64 x1)], [Obj.rcells 81 [Seg.arr IntKind.i8 81 x2, Seg.arr IntKind.i8 16 x3, Seg.one [S.i IntKind.i8 x4], Seg.rows [.i .u64, .i .u64] 32 x5, Seg.rows [.i .u64, .i .u64] 2 x6]] => ob (board_Hand x0 x1 x2 x3 x4 x5 x6) fun y0 => K true (V.s (S.i IntKind.i64 y0)) ([])
  | _, _ => o 36 vs objs K

noncomputable def board_Hando (o : Orc) : Orc := hook 36 (board_Handa o) o

theorem board_Hando_ok (o : Orc) (ho : OSound Tryd.prog o) : OSound Tryd.prog (board_Hando o) := hook_ok ho fun vs objs K r h => by
  unfold board_Handa at h
  split at h
  · skip
    have hq : List.map Obj.toRO objs = _ := (by rename_i hq; first | exact hq | assumption)
    obtain ⟨t, h1, h2⟩ := ob_ok h
    refine purOK_by mixed board_Handc_ok (m := 1) (fn := Tryd.f36) (b := (Tryd.f36).body.getD .skip) (by kernel_rfl) (by kernel_rfl) (by kernel_rfl) hq (by kernel_rfl) (by kernel_rfl) (AllP.of (l' := []) (by kernel_rfl) trivial) ((board_Hand_eq _ _ _ _ _ _ _).trans h1) fun v objs' hd => ?_
    unfold board_Handd at hd
    split at hd
    · skip
      cases hd
      exact h2
    · cases hd
  · exact ho _ _ _ _ _ h

noncomputable def set_Notc : Ctx := mkC 6 ((set_Minuso (set_Allo oNil))) [] lpNil

theorem set_Notc_ok : CtxOK Tryd.prog set_Notc := mkC_ok ((set_Minuso_ok _ (set_Allo_ok _ oNil_ok)))

noncomputable def set_Notd : V → List Obj → Option (Int × Int) := fun v objs => match v, objs with
  | V.agg [Seg.one [S.i IntKind.u64 y0, S.i IntKind.u64 y1]], [] => some (y0, y1)
  | _, _ => none

theorem set_Not_eq (x0 : Int) (x1 : Int) : fnE set_Notc Tryd.f81 ([V.agg [Seg.one [S.i IntKind.u64 x0, S.i IntKind.u64 x1]]]) ([]) set_Notd = set_Not x0 x1 := by kernel_rfl

noncomputable def set_Nota {R : Type} (o : Orc) (vs : List V) (objs : List Obj) (K : Bool → V → List Obj → Option R) : Option R := match vs, objs with
  | [V.agg [Seg.one [S.i IntKind.u64 x0, S.i IntKind.u64 x1]]], [] => ob (set_Not x0 x1) fun z => K false (V.agg [Seg.one [S.i IntKind.u64 (z.1), S.i IntKind.u64 (z.2)]]) ([])
  | _, _ => o 81 vs objs K

noncomputable def set_Noto (o : Orc) : Orc := hook 81 (set_Nota o) o

theorem set_Noto_ok (o : Orc) (ho : OSound Tryd.prog o) : OSound Tryd.prog (set_Noto o) := hook_ok ho fun vs objs K r h => by
  unfold set_Nota at h
  split at h
  · skip
    obtain ⟨t, h1, h2⟩ := ob_ok h
    refine anyOK_of mixed set_Notc_ok (fn := Tryd.f81) (b := (Tryd.f81).body.getD .skip) (by kernel_rfl) (by kernel_rfl) (by kernel_rfl) ((set_Not_eq _ _).trans h1) (m := 0) rfl (AllP.of (l' := []) (by kernel_rfl) trivial) fun v objs' hd => ?_
    unfold set_Notd at hd
    split at hd
    · skip
      cases hd
      exact h2
    · cases hd
  · exact ho _ _ _ _ _ h

noncomputable def set_InFilel3d : Ex → List V → List Obj → Option (Int × Int × Int × Int) := fun e vs objs => match e, vs, objs with
  | Ex.exit 0, [V.s (S.ptr 0 0 none 0), V.s (S.ptr 1 0 none 0)], [Obj.cells 57 [Seg.one [S.i IntKind.u64 y0, S.i IntKind.u64 y1]], Obj.cells 57 [Seg.one [S.i IntKind.u64 y2, S.i IntKind.u64 y3]]] => some (y0, y1, y2, y3)
  | _, _, _ => none

noncomputable def set_InFilep3 {R : Type} (vs : List V) (objs : List Obj) (K : Ex → List V → List Obj → Option R) : Option R := match vs, objs with
  | [V.s (S.i IntKind.i64 x0), V.s (S.ptr 0 0 none 0), V.s (S.ptr 1 0 none 0), V.s (S.i IntKind.i64 x1)], [Obj.cells 57 [Seg.one [S.i IntKind.u64 x2, S.i IntKind.u64 x3]], Obj.cells 57 [Seg.one [S.i IntKind.u64 x4, S.i IntKind.u64 x5]]] => ob (set_InFilel3 many x0 x1 x2 x3 x4 x5) fun z => K (Ex.exit 0) ([V.s (S.ptr 0 0 none 0), V.s (S.ptr 1 0 none 0)]) ([Obj.cells 57 [Seg.one [S.i IntKind.u64 (z.1), S.i IntKind.u64 (z.2.1)]], Obj.cells 57 [Seg.one [S.i IntKind.u64 (z.2.2.1), S.i IntKind.u64 (z.2.2.2)]]])
  | _, _ => none

noncomputable def set_InFilelp : {R : Type} → Nat → List V → List Obj → (Ex → List V → List Obj → Option R) → Option R := fun q vs objs K => bif Nat.beq q 3 then set_InFilep3 vs objs K else none

noncomputable def set_InFilec : Ctx := mkC 15 ((set_Witho (set_Squareo oNil))) [(3, [0, 2, 3, 5], [2, 3])] set_InFilelp

theorem set_InFilec_ok : CtxOK Tryd.prog set_InFilec := mkC_ok ((set_Witho_ok _ (set_Squareo_ok _ oNil_ok)))

noncomputable def set_InFilel3r (f : Nat) (x0 : Int) (x1 : Int) (x2 : Int) (x3 : Int) (x4 : Int) (x5 : Int) : Option (Int × Int × Int × Int) := lrun set_InFilec 0 [0, 2, 3, 5] [2, 3] (loopOf Tryd.f84 3) f ([V.s (S.i IntKind.i64 x0), V.s (S.ptr 0 0 none 0), V.s (S.ptr 1 0 none 0), V.s (S.i IntKind.i64 x1)]) ([Obj.cells 57 [Seg.one [S.i IntKind.u64 x2, S.i IntKind.u64 x3]], Obj.cells 57 [Seg.one [S.i IntKind.u64 x4, S.i IntKind.u64 x5]]]) set_InFilel3d

theorem set_InFilel3_step (f : Nat) (x0 : Int) (x1 : Int) (x2 : Int) (x3 : Int) (x4 : Int) (x5 : Int) : set_InFilel3r (f + 1) x0 x1 x2 x3 x4 x5 = set_InFilel3s (set_InFilel3r f) x0 x1 x2 x3 x4 x5 := by kernel_rfl

theorem set_InFilel3_eq : ∀ f, set_InFilel3r f = set_InFilel3 f
  | 0 => rfl
  | f + 1 => by funext x0 x1 x2 x3 x4 x5; rw [set_InFilel3_step, set_InFilel3_eq f]; rfl

theorem set_InFiles3 : LoopSound Tryd.prog set_InFilec 0 (loopOf Tryd.f84 3) :=
  loopSound_by mixed set_InFilec_ok (AllP.of (l' := []) (by kernel_rfl) trivial) (q := 3) (kin := [0, 2, 3, 5]) (kout := [2, 3]) (by kernel_rfl) (by kernel_rfl) fun vs objs K r h => by
    replace h : set_InFilep3 vs objs K = some r := h
    unfold set_InFilep3 at h
    split at h
    · skip
      obtain ⟨t, h1, h2⟩ := ob_ok h
      rw [← set_InFilel3_eq] at h1
      refine ⟨_, set_InFilel3d, t, many, h1, fun e vs' objs' hd => ?_⟩
      unfold set_InFilel3d at hd
      split at hd
      · skip
        cases hd
        exact h2
      · cases hd
    · cases h

noncomputable def set_InFiled : V → List Obj → Option (Int × Int) := fun v objs => match v, objs with
  | V.agg [Seg.one [S.i IntKind.u64 y0, S.i IntKind.u64 y1]], [] => some (y0, y1)
  | _, _ => none

theorem set_InFile_eq (x0 : Int) : fnE set_InFilec Tryd.f84 ([V.s (S.i IntKind.i64 x0)]) ([]) set_InFiled = set_InFile x0 := by kernel_rfl

noncomputable def set_InFilea {R : Type} (o : Orc) (vs : List V) (objs : List Obj) (K : Bool → V → List Obj → Option R) : Option R := match vs, objs with
  | [V.s (S.i IntKind.i64 x0)], [] => ob (set_InFile x0) fun z => K false (V.agg [Seg.one [S.i IntKind.u64 (z.1), S.i IntKind.u64 (z.2)]]) ([])
  | _, _ => o 84 vs objs K

noncomputable def set_InFileo (o : Orc) : Orc := hook 84 (set_InFilea o) o

theorem set_InFileo_ok (o : Orc) (ho : OSound Tryd.prog o) : OSound Tryd.prog (set_InFileo o) := hook_ok ho fun vs objs K r h => by
  unfold set_InFilea at h
  split at h
  · skip
    obtain ⟨t, h1, h2⟩ := ob_ok h
    refine anyOK_of mixed set_InFilec_ok (fn := Tryd.f84) (b := (Tryd.f84).body.getD .skip) (by kernel_rfl) (by kernel_rfl) (by kernel_rfl) ((set_InFile_eq _).trans h1) (m := 0) rfl (AllP.of (l' := [loopOf Tryd.f84 3]) (by kernel_rfl) ⟨set_InFiles3, trivial⟩) fun v objs' hd => ?_
    unfold set_InFiled at hd
    split at hd
    · skip
      cases hd
      exact h2
    · cases hd
  · exact ho _ _ _ _ _ h

noncomputable def gen_Freel6d : Ex → List V → List Obj → Option (List Int × List Int × Int × List (List Int) × List (List Int) × Int × Int × Int × Int) := fun e vs objs => match e, vs, objs with
  | Ex.exit 0, [V.s (S.ptr 1 0 none 0), V.s (S.ptr 2 0 none 0)], [Obj.rcells 81 [Seg.arr IntKind.i8 81 y0, Seg.arr IntKind.i8 16 y1, Seg.one [S.i IntKind.i8 y2], Seg.rows [.i .u64, .i .u64] 32 y3, Seg.rows [.i .u64, .i .u64] 2 y4], Obj.cells 57 [Seg.one [S.i IntKind.u64 y5, S.i IntKind.u64 y6]], Obj.cells 57 [Seg.one [S.i IntKind.u64 y7, S.i IntKind.u64 y8]]] => some (y0, y1, y2, y3, y4, y5, y6, y7, y8)
  | _, _, _ => none

noncomputable def gen_Freep6 {R : Type} (vs : List V) (objs : List Obj) (K : Ex → List V → List Obj → Option R) : Option R := match vs, objs with
  | [V.s (S.ptr 0 0 none 0), V.s (S.i IntKind.i64 x0), V.s (S.i IntKind.i64 x1), V.s (S.ptr 1 0 none 0), V.s (S.i IntKind.i8 x2), V.s (S.ptr 2 0 none 0), V.s (S.sl 3 0 x3 true), V.s (S.i IntKind.i64 x4), V.s (S.i IntKind.i64 x5)], [Obj.rcells 81 [Seg.arr IntKind.i8 81 x6, Seg.arr IntKind.i8 16 x7, Seg.one [S.i IntKind.i8 x8], Seg.rows [.i .u64, .i .u64] 32 x9, Seg.rows [.i .u64, .i .u64] 2 x10], Obj.cells 57 [Seg.one [S.i IntKind.u64 x11, S.i IntKind.u64 x12]], Obj.cells 57 [Seg.one [S.i IntKind.u64 x13, S.i IntKind.u64 x14]], Obj.sli 3 false (Seg.arr IntKind.i64 x15 x16)] => ob (gen_Freel6 many x0 x1 x2 x3 x4 x5 x6 x7 x8 x9 x10 x11 x12 x13 x14 x15 x16) fun z => K (Ex.exit 0) ([V.s (S.ptr 1 0 none 0), V.s (S.ptr 2 0 none 0)]) ([Obj.rcells 81 [Seg.arr IntKind.i8 81 (z.1), Seg.arr IntKind.i8 16 (z.2.1), Seg.one [S.i IntKind.i8 (z.2.2.1)], Seg.rows [.i .u64, .i .u64] 32 (z.2.2.2.1), Seg.rows [.i .u64, .i .u64] 2 (z.2.2.2.2.1)], Obj.cells 57 [Seg.one [S.i IntKind.u64 (z.2.2.2.2.2.1), S.i IntKind.u64 (z.2.2.2.2.2.2.1)]], Obj.cells 57 [Seg.one [S.i IntKind.u64 (z.2.2.2.2.2.2.2.1), S.i IntKind.u64 (z.2.2.2.2.2.2.2.2)]]])
  | _, _ => none

noncomputable def gen_Freelp : {R : Type} → Nat → List V → List Obj → (Ex → List V → List Obj → Option R) → Option R := fun q vs objs K => bif Nat.beq q 6 then gen_Freep6 vs objs K else none

noncomputable def gen_Freec : Ctx := mkC 53 ((set_Witho (set_Emptyo (set_Ando (set_InFileo (set_Fileo (board_Ofo (step_Deado (set_Squareso (set_Noto (board_Takeno (piece_Ofo oNil)))))))))))) [(6, [0, 1, 2, 6, 7, 8, 24, 25, 26], [6, 8])] gen_Freelp

theorem gen_Freec_ok : CtxOK Tryd.prog gen_Freec := mkC_ok ((set_Witho_ok _ (set_Emptyo_ok _ (set_Ando_ok _ (set_InFileo_ok _ (set_Fileo_ok _ (board_Ofo_ok _ (step_Deado_ok _ (set_Squareso_ok _ (set_Noto_ok _ (board_Takeno_ok _ (piece_Ofo_ok _ oNil_ok))))))))))))

noncomputable def gen_Freel6r (f : Nat) (x0 : Int) (x1 : Int) (x2 : Int) (x3 : Nat) (x4 : Int) (x5 : Int) (x6 : List Int) (x7 : List Int) (x8 : Int) (x9 : List (List Int)) (x10 : List (List Int)) (x11 : Int) (x12 : Int) (x13 : Int) (x14 : Int) (x15 : Nat) (x16 : List Int) : Option (List Int × List Int × Int × List (List Int) × List (List Int) × Int × Int × Int × Int) := lrun gen_Freec 1 [0, 1, 2, 6, 7, 8, 24, 25, 26] [6, 8] (loopOf Tryd.f30 6) f ([V.s (S.ptr 0 0 none 0), V.s (S.i IntKind.i64 x0), V.s (S.i IntKind.i64 x1), V.s (S.ptr 1 0 none 0), V.s (S.i IntKind.i8 x2), V.s (S.ptr 2 0 none 0), V.s (S.sl 3 0 x3 true), V.s (S.i IntKind.i64 x4), V.s (S.i IntKind.i64 x5)]) ([Obj.rcells 81 [Seg.arr IntKind.i8 81 x6, Seg.arr IntKind.i8 16 x7, Seg.one [S.i IntKind.i8 x8], Seg.rows [.i .u64, .i .u64] 32 x9, Seg.rows [.i .u64, .i .u64] 2 x10], Obj.cells 57 [Seg.one [S.i IntKind.u64 x11, S.i IntKind.u64 x12]], Obj.cells 57 [Seg.one [S.i IntKind.u64 x13, S.i IntKind.u64 x14]], Obj.sli 3 false (Seg.arr IntKind.i64 x15 x16)]) gen_Freel6d

theorem gen_Freel6_step (f : Nat) (x0 : Int) (x1 : Int) (x2 : Int) (x3 : Nat) (x4 : Int) (x5 : Int) (x6 : List Int) (x7 : List Int) (x8 : Int) (x9 : List (List Int)) (x10 : List (List Int)) (x11 : Int) (x12 : Int) (x13 : Int) (x14 : Int) (x15 : Nat) (x16 : List Int) : gen_Freel6r (f + 1) x0 x1 x2 x3 x4 x5 x6 x7 x8 x9 x10 x11 x12 x13 x14 x15 x16 = gen_Freel6s (gen_Freel6r f) x0 x1 x2 x3 x4 x5 x6 x7 x8 x9 x10 x11 x12 x13 x14 x15 x16 := by kernel_rfl

theorem gen_Freel6_eq : ∀ f, gen_Freel6r f = gen_Freel6 f
  | 0 => rfl
  | f + 1 => by funext x0 x1 x2 x3 x4 x5 x6 x7 x8 x9 x10 x11 x12 x13 x14 x15 x16; rw [gen_Freel6_step, gen_Freel6_eq f]; rfl

theorem gen_Frees6 : LoopSound Tryd.prog gen_Freec 1 (loopOf Tryd.f30 6) :=
  loopSound_by mixed gen_Freec_ok (AllP.of (l' := []) (by kernel_rfl) trivial) (q := 6) (kin := [0, 1, 2, 6, 7, 8, 24, 25, 26]) (kout := [6, 8]) (by kernel_rfl) (by kernel_rfl) fun vs objs K r h => by
    replace h : gen_Freep6 vs objs K = some r := h
    unfold gen_Freep6 at h
    split at h
    · skip
      obtain ⟨t, h1, h2⟩ := ob_ok h
      rw [← gen_Freel6_eq] at h1
      refine ⟨_, gen_Freel6d, t, many, h1, fun e vs' objs' hd => ?_⟩
      unfold gen_Freel6d at hd
      split at hd
      · skip
        cases hd
        exact h2
      · cases hd
    · cases h

noncomputable def gen_Freed : V → List Obj → Option (Int × Int) := fun v objs => match v, objs with
  | V.agg [Seg.one [S.i IntKind.u64 y0, S.i IntKind.u64 y1]], [] => some (y0, y1)
  | _, _ => none

theorem gen_Free_eq (x0 : Int) (x1 : Int) (x2 : List Int) (x3 : List Int) (x4 : Int) (x5 : List (List Int)) (x6 : List (List Int)) : fnE gen_Freec Tryd.f30 ([V.s (S.ptr 0 0 none 0), V.s (S.i IntKind.i64 x0), V.s (S.i IntKind.i64 x1)]) ([Obj.rcells 81 [Seg.arr IntKind.i8 81 x2, Seg.arr IntKind.i8 16 x3, Seg.one [S.i IntKind.i8 x4], Seg.rows [.i .u64, .i .u64] 32 x5, Seg.rows [.i .u64, .i .u64] 2 x6]]) (pureD 1 gen_Freed) = gen_Free x0 x1 x2 x3 x4 x5 x6 := by kernel_rfl

noncomputable def gen_Freea {R : Type} (o : Orc) (vs : List V) (objs : List Obj) (K : Bool → V → List Obj → Option R) : Option R := match vs, List.map Obj.toRO objs with
  | [V.s (S.ptr 0 0 none 0), V.s (S.i IntKind.i64 x0), V.s (S.i IntKind.i64 x1)], [Obj.rcells 81 [Seg.arr IntKind.i8 81 x2, Seg.arr IntKind.i8 16 x3, Seg.one [S.i IntKind.i8 x4], Seg.rows [.i .u64, .i .u64] 32 x5, Seg.rows [.i .u64, .i .u64] 2 x6]] => ob (gen_Free x0 x1 x2 x3 x4 x5 x6) fun z => K true (V.agg [Seg.one [S.i IntKind.u64 (z.1), S.i IntKind.u64 (z.2)]]) ([])
  | _, _ => o 30 vs objs K

noncomputable def gen_Freeo (o : Orc) : Orc := hook 30 (gen_Freea o) o

theorem gen_Freeo_ok (o : Orc) (ho : OSound Tryd.prog o) : OSound Tryd.prog (gen_Freeo o) := hook_ok ho fun vs objs K r h => by
  unfold gen_Freea at h
  split at h
  · skip
    have hq : List.map Obj.toRO objs = _ := (by rename_i hq; first | exact hq | assumption)
    obtain ⟨t, h1, h2⟩ := ob_ok h
    refine purOK_by mixed gen_Freec_ok (m := 1) (fn := Tryd.f30) (b := (Tryd.f30).body.getD .skip) (by kernel_rfl) (by kernel_rfl) (by kernel_rfl) hq (by kernel_rfl) (by kernel_rfl) (AllP.of (l' := [loopOf Tryd.f30 6]) (by kernel_rfl) ⟨gen_Frees6, trivial⟩) ((gen_Free_eq _ _ _ _ _ _ _).trans h1) fun v objs' hd => ?_
    unfold gen_Freed at hd
    split at hd
    · skip
      cases hd
      exact h2
    · cases hd
  · exact ho _ _ _ _ _ h

noncomputable def gen_Dropsl8d : Ex → List V → List Obj → Option (Nat × Int × Int × List Int × List Int × Int × List (List Int) × List (List Int) × Int × Int × Nat × List (List Int)) := fun e vs objs => match e, vs, objs with
  | Ex.exit 2, [V.s (S.ptr 0 0 none 0), V.s (S.ptr 1 0 none 0), V.s (S.sl 2 0 y0 true), V.s (S.i IntKind.i64 y1), V.s (S.i IntKind.i64 y2)], [Obj.rcells 81 [Seg.arr IntKind.i8 81 y3, Seg.arr IntKind.i8 16 y4, Seg.one [S.i IntKind.i8 y5], Seg.rows [.i .u64, .i .u64] 32 y6, Seg.rows [.i .u64, .i .u64] 2 y7], Obj.cells 57 [Seg.one [S.i IntKind.u64 y8, S.i IntKind.u64 y9]], Obj.sli 40 false (Seg.rows [.i .i64, .i .i64, .i .i64, .b] y10 y11)] => some (y0, y1, y2, y3, y4, y5, y6, y7, y8, y9, y10, y11)
  | _, _, _ => none

noncomputable def gen_Dropsl4d : Ex → List V → List Obj → Option (Nat × List Int × List Int × Int × List (List Int) × List (List Int) × Nat × List (List Int)) := fun e vs objs => match e, vs, objs with
  | Ex.exit 0, [V.s (S.sl 1 0 y0 true)], [Obj.rcells 81 [Seg.arr IntKind.i8 81 y1, Seg.arr IntKind.i8 16 y2, Seg.one [S.i IntKind.i8 y3], Seg.rows [.i .u64, .i .u64] 32 y4, Seg.rows [.i .u64, .i .u64] 2 y5], Obj.sli 40 false (Seg.rows [.i .i64, .i .i64, .i .i64, .b] y6 y7)] => some (y0, y1, y2, y3, y4, y5, y6, y7)
  | _, _, _ => none

noncomputable def gen_Dropsp8 {R : Type} (vs : List V) (objs : List Obj) (K : Ex → List V → List Obj → Option R) : Option R := match vs, objs with
  | [V.s (S.ptr 0 0 none 0), V.s (S.ptr 1 0 none 0), V.s (S.sl 2 0 x0 true), V.s (S.i IntKind.i64 x1), V.s (S.i IntKind.i64 x2), V.s (S.sl 3 0 x3 true), V.s (S.i IntKind.i64 x4), V.s (S.i IntKind.i64 x5)], [Obj.rcells 81 [Seg.arr IntKind.i8 81 x6, Seg.arr IntKind.i8 16 x7, Seg.one [S.i IntKind.i8 x8], Seg.rows [.i .u64, .i .u64] 32 x9, Seg.rows [.i .u64, .i .u64] 2 x10], Obj.cells 57 [Seg.one [S.i IntKind.u64 x11, S.i IntKind.u64 x12]], Obj.sli 40 false (Seg.rows [.i .i64, .i .i64, .i .i64, .b] x13 x14), Obj.sli 3 false (Seg.arr IntKind.i64 x15 x16)] => ob (gen_Dropsl8 many x0 x1 x2 x3 x4 x5 x6 x7 x8 x9 x10 x11 x12 x13 x14 x15 x16) fun z => K (Ex.exit 2) ([V.s (S.ptr 0 0 none 0), V.s (S.ptr 1 0 none 0), V.s (S.sl 2 0 (z.1) true), V.s (S.i IntKind.i64 (z.2.1)), V.s (S.i IntKind.i64 (z.2.2.1))]) ([Obj.rcells 81 [Seg.arr IntKind.i8 81 (z.2.2.2.1), Seg.arr IntKind.i8 16 (z.2.2.2.2.1), Seg.one [S.i IntKind.i8 (z.2.2.2.2.2.1)], Seg.rows [.i .u64, .i .u64] 32 (z.2.2.2.2.2.2.1), Seg.rows [.i .u64, .i .u64] 2 (z.2.2.2.2.2.2.2.1)], Obj.cells 57 [Seg.one [S.i IntKind.u64 (z.2.2.2.2.2.2.2.2.1), S.i IntKind.u64 (z.2.2.2.2.2.2.2.2.2.1)]], Obj.sli 40 false (Seg.rows [.i .i64, .i .i64, .i .i64, .b] (z.2.2.2.2.2.2.2.2.2.2.1) (z.2.2.2.2.2.2.2.2.2.2.2))])
  | _, _ => none

noncomputable def gen_Dropsp4 {R : Type} (vs : List V) (objs : List Obj) (K : Ex → List V → List Obj → Option R) : Option R := match vs, objs with
  | [V.s (S.ptr 0 0 none 0), V.s (S.ptr 1 0 none 0), V.s (S.sl 2 0 x0 true), V.s (S.i IntKind.i64 x1), V.s (S.i IntKind.i64 x2)], [Obj.rcells 81 [Seg.arr IntKind.i8 81 x3, Seg.arr IntKind.i8 16 x4, Seg.one [S.i IntKind.i8 x5], Seg.rows [.i .u64, .i .u64] 32 x6, Seg.rows [.i .u64, .i .u64] 2 x7], Obj.cells 57 [Seg.one [S.i IntKind.u64 x8, S.i IntKind.u64 x9]], Obj.sli 40 false (Seg.rows [.i .i64, .i .i64, .i .i64, .b] x10 x11)] => ob (gen_Dropsl4 many x0 x1 x2 x3 x4 x5 x6 x7 x8 x9 x10 x11) fun z => K (Ex.exit 0) ([V.s (S.sl 1 0 (z.1) true)]) ([Obj.rcells 81 [Seg.arr IntKind.i8 81 (z.2.1), Seg.arr IntKind.i8 16 (z.2.2.1), Seg.one [S.i IntKind.i8 (z.2.2.2.1)], Seg.rows [.i .u64, .i .u64] 32 (z.2.2.2.2.1), Seg.rows [.i .u64, .i .u64] 2 (z.2.2.2.2.2.1)], Obj.sli 40 false (Seg.rows [.i .i64, .i .i64, .i .i64, .b] (z.2.2.2.2.2.2.1) (z.2.2.2.2.2.2.2))])
  | _, _ => none

noncomputable def gen_Dropslp : {R : Type} → Nat → List V → List Obj → (Ex → List V → List Obj → Option R) → Option R := fun q vs objs K => bif Nat.beq q 8 then gen_Dropsp8 vs objs K else bif Nat.beq q 4 then gen_Dropsp4 vs objs K else none

noncomputable def gen_Dropsc : Ctx := mkC 45 ((set_Squareso (set_Ando (gen_Freeo (board_Hando oNil))))) [(4, [0, 3, 5, 6, 7], [5]), (8, [0, 3, 5, 6, 7, 31, 32, 33], [0, 3, 5, 6, 7])] gen_Dropslp

theorem gen_Dropsc_ok : CtxOK Tryd.prog gen_Dropsc := mkC_ok ((set_Squareso_ok _ (set_Ando_ok _ (gen_Freeo_ok _ (board_Hando_ok _ oNil_ok)))))

noncomputable def gen_Dropsl8r (f : Nat) (x0 : Nat) (x1 : Int) (x2 : Int) (x3 : Nat) (x4 : Int) (x5 : Int) (x6 : List Int) (x7 : List Int) (x8 : Int) (x9 : List (List Int)) (x10 : List (List Int)) (x11 : Int) (x12 : Int) (x13 : Nat) (x14 : List (List Int)) (x15 : Nat) (x16 : List Int) : Option (Nat × Int × Int × List Int × List Int × Int × List (List Int) × List (List Int) × Int × Int × Nat × List (List Int)) := lrun gen_Dropsc 1 [0, 3, 5, 6, 7, 31, 32, 33] [0, 3, 5, 6, 7] (loopOf Tryd.f59 8) f ([V.s (S.ptr 0 0 none 0), V.s (S.ptr 1 0 none 0), V.s (S.sl 2 0 x0 true), V.s (S.i IntKind.i64 x1), V.s (S.i IntKind.i64 x2), V.s (S.sl 3 0 x3 true), V.s (S.i IntKind.i64 x4), V.s (S.i IntKind.i64 x5)]) ([Obj.rcells 81 [Seg.arr IntKind.i8 81 x6, Seg.arr IntKind.i8 16 x7, Seg.one [S.i IntKind.i8 x8], Seg.rows [.i .u64, .i .u64] 32 x9, Seg.rows [.i .u64, .i .u64] 2 x10], Obj.cells 57 [Seg.one [S.i IntKind.u64 x11, S.i IntKind.u64 x12]], Obj.sli 40 false (Seg.rows [.i .i64, .i .i64, .i .i64, .b] x13 x14), Obj.sli 3 false (Seg.arr IntKind.i64 x15 x16)]) gen_Dropsl8d

theorem gen_Dropsl8_step (f : Nat) (x0 : Nat) (x1 : Int) (x2 : Int) (x3 : Nat) (x4 : Int) (x5 : Int) (x6 : List Int) (x7 : List Int) (x8 : Int) (x9 : List (List Int)) (x10 : List (List Int)) (x11 : Int) (x12 : Int) (x13 : Nat) (x14 : List (List Int)) (x15 : Nat) (x16 : List Int) : gen_Dropsl8r (f + 1) x0 x1 x2 x3 x4 x5 x6 x7 x8 x9 x10 x11 x12 x13 x14 x15 x16 = gen_Dropsl8s (gen_Dropsl8r f) x0 x1 x2 x3 x4 x5 x6 x7 x8 x9 x10 x11 x12 x13 x14 x15 x16 := by kernel_rfl

theorem gen_Dropsl8_eq : ∀ f, gen_Dropsl8r f = gen_Dropsl8 f
  | 0 => rfl
  | f + 1 => by funext x0 x1 x2 x3 x4 x5 x6 x7 x8 x9 x10 x11 x12 x13 x14 x15 x16; rw [gen_Dropsl8_step, gen_Dropsl8_eq f]; rfl

noncomputable def gen_Dropsl4r (f : Nat) (x0 : Nat) (x1 : Int) (x2 : Int) (x3 : List Int) (x4 : List Int) (x5 : Int) (x6 : List (List Int)) (x7 : List (List Int)) (x8 : Int) (x9 : Int) (x10 : Nat) (x11 : List (List Int)) : Option (Nat × List Int × List Int × Int × List (List Int) × List (List Int) × Nat × List (List Int)) := lrun gen_Dropsc 1 [0, 3, 5, 6, 7] [5] (loopOf Tryd.f59 4) f ([V.s (S.ptr 0 0 none 0), V.s (S.ptr 1 0 none 0), V.s (S.sl 2 0 x0 true), V.s (S.i IntKind.i64 x1), V.s (S.i IntKind.i64 x2)]) ([Obj.rcells 81 [Seg.arr IntKind.i8 81 x3, Seg.arr IntKind.i8 16 x4, Seg.one [S.i IntKind.i8 x5], Seg.rows [.i .u64, .i .u64] 32 x6, Seg.rows [.i .u64, .i .u64] 2 x7], Obj.cells 57 [Seg.one [S.i IntKind.u64 x8, S.i IntKind.u64 x9]], Obj.sli 40 false (Seg.rows [.i .i64, .i .i64, .i .i64, .b] x10 x11)]) gen_Dropsl4d

theorem gen_Dropsl4_step (f : Nat) (x0 : Nat) (x1 : Int) (x2 : Int) (x3 : List Int) (x4 : List Int) (x5 : Int) (x6 : List (List Int)) (x7 : List (List Int)) (x8 : Int) (x9 : Int) (x10 : Nat) (x11 : List (List Int)) : gen_Dropsl4r (f + 1) x0 x1 x2 x3 x4 x5 x6 x7 x8 x9 x10 x11 = gen_Dropsl4s (gen_Dropsl4r f) x0 x1 x2 x3 x4 x5 x6 x7 x8 x9 x10 x11 := by kernel_rfl

theorem gen_Dropsl4_eq : ∀ f, gen_Dropsl4r f = gen_Dropsl4 f
  | 0 => rfl
  | f + 1 => by funext x0 x1 x2 x3 x4 x5 x6 x7 x8 x9 x10 x11; rw [gen_Dropsl4_step, gen_Dropsl4_eq f]; rfl

theorem gen_Dropss8 : LoopSound Tryd.prog gen_Dropsc 1 (loopOf Tryd.f59 8) :=
  loopSound_by mixed gen_Dropsc_ok (AllP.of (l' := []) (by kernel_rfl) trivial) (q := 8) (kin := [0, 3, 5, 6, 7, 31, 32, 33]) (kout := [0, 3, 5, 6, 7]) (by kernel_rfl) (by kernel_rfl) fun vs objs K r h => by
    replace h : gen_Dropsp8 vs objs K = some r := h
    unfold gen_Dropsp8 at h
    split at h
    · skip
      obtain ⟨t, h1, h2⟩ := ob_ok h
      rw [← gen_Dropsl8_eq] at h1
      refine ⟨_, gen_Dropsl8d, t, many, h1, fun e vs' objs' hd => ?_⟩
      unfold gen_Dropsl8d at hd
      split at hd
      · skip
        cases hd
        exact h2
      · cases hd
    · cases h

theorem gen_Dropss4 : LoopSound Tryd.prog gen_Dropsc 1 (loopOf Tryd.f59 4) :=
  loopSound_by mixed gen_Dropsc_ok (AllP.of (l' := [loopOf Tryd.f59 8]) (by kernel_rfl) ⟨gen_Dropss8, trivial⟩) (q := 4) (kin := [0, 3, 5, 6, 7]) (kout := [5]) (by kernel_rfl) (by kernel_rfl) fun vs objs K r h => by
    replace h : gen_Dropsp4 vs objs K = some r := h
    unfold gen_Dropsp4 at h
    split at h
    · skip
      obtain ⟨t, h1, h2⟩ := ob_ok h
      rw [← gen_Dropsl4_eq] at h1
      refine ⟨_, gen_Dropsl4d, t, many, h1, fun e vs' objs' hd => ?_⟩
      unfold gen_Dropsl4d at hd
      split at hd
      · skip
        cases hd
        exact h2
      · cases hd
    · cases h

noncomputable def gen_Dropsd : V → List Obj → Option (Nat × Nat × List (List Int)) := fun v objs => match v, objs with
  | V.s (S.sl 1 0 y0 true), [Obj.sli 40 false (Seg.rows [.i .i64, .i .i64, .i .i64, .b] y1 y2)] => some (y0, y1, y2)
  | _, _ => none

theorem gen_Drops_eq (x0 : Int) (x1 : Int) (x2 : List Int) (x3 : List Int) (x4 : Int) (x5 : List (List Int)) (x6 : List (List Int)) : fnE gen_Dropsc Tryd.f59 ([V.s (S.ptr 0 0 none 0), V.agg [Seg.one [S.i IntKind.u64 x0, S.i IntKind.u64 x1]]]) ([Obj.rcells 81 [Seg.arr IntKind.i8 81 x2, Seg.arr IntKind.i8 16 x3, Seg.one [S.i IntKind.i8 x4], Seg.rows [.i .u64, .i .u64] 32 x5, Seg.rows [.i .u64, .i .u64] 2 x6]]) (pureD 1 gen_Dropsd) = gen_Drops x0 x1 x2 x3 x4 x5 x6 := by kernel_rfl

noncomputable def gen_Dropsa {R : Type} (o : Orc) (vs : List V) (objs : List Obj) (K : Bool → V → List Obj → Option R) : Option R := match vs, List.map Obj.toRO objs with
  | [V.s (S.ptr 0 0 none 0), V.agg [Seg.one [S.i IntKind.u64 x0, S.i IntKind.u64 x1]]], [Obj.rcells 81 [Seg.arr IntKind.i8 81 x2, Seg.arr IntKind.i8 16 x3, Seg.one [S.i IntKind.i8 x4], Seg.rows [.i .u64, .i .u64] 32 x5, Seg.rows [.i .u64, .i .u64] 2 x6]] => ob (gen_Drops x0 x1 x2 x3 x4 x5 x6) fun z => K true (V.s (S.sl 1 0 (z.1) true)) ([Obj.sli 40 false (Seg.rows [.i .i64, .i .i64, .i .i64, .b] (z.2.1) (z.2.2))])
  | _, _ => o 59 vs objs K

noncomputable def gen_Dropso (o : Orc) : Orc := hook 59 (gen_Dropsa o) o

theorem gen_Dropso_ok (o : Orc) (ho : OSound Tryd.prog o) : OSound Tryd.prog (gen_Dropso o) := hook_ok ho fun vs objs K r h => by
  unfold gen_Dropsa at h
  split at h
  · skip
    have hq : List.map Obj.toRO objs = _ := (by rename_i hq; first | exact hq | assumption)
    obtain ⟨t, h1, h2⟩ := ob_ok h
    refine purOK_by mixed gen_Dropsc_ok (m := 1) (fn := Tryd.f59) (b := (Tryd.f59).body.getD .skip) (by kernel_rfl) (by kernel_rfl) (by kernel_rfl) hq (by kernel_rfl) (by kernel_rfl) (AllP.of (l' := [loopOf Tryd.f59 4]) (by kernel_rfl) ⟨gen_Dropss4, trivial⟩) ((gen_Drops_eq _ _ _ _ _ _ _).trans h1) fun v objs' hd => ?_
    unfold gen_Dropsd at hd
    split at hd
    · skip
      cases hd
      exact h2
    · cases hd
  · exact ho _ _ _ _ _ h

noncomputable def gen_Allc : Ctx := mkC 10 ((gen_Dropso (gen_Boardo (set_Allo oNil)))) [] lpNil

theorem gen_Allc_ok : CtxOK Tryd.prog gen_Allc := mkC_ok ((gen_Dropso_ok _ (gen_Boardo_ok _ (set_Allo_ok _ oNil_ok))))

noncomputable def gen_Alld : V → List Obj → Option (Nat × Nat × List (List Int)) := fun v objs => match v, objs with
  | V.s (S.sl 1 0 y0 true), [Obj.sli 40 false (Seg.rows [.i .i64, .i .i64, .i .i64, .b] y1 y2)] => some (y0, y1, y2)
  | _, _ => none

theorem gen_All_eq (x0 : List Int) (x1 : List Int) (x2 : Int) (x3 : List (List Int)) (x4 : List (List Int)) : fnE gen_Allc Tryd.f15 ([V.s (S.ptr 0 0 none 0)]) ([Obj.rcells 81 [Seg.arr IntKind.i8 81 x0, Seg.arr IntKind.i8 16 x1, Seg.one [S.i IntKind.i8 x2], Seg.rows [.i .u64, .i .u64] 32 x3, Seg.rows [.i .u64, .i .u64] 2 x4]]) (pureD 1 gen_Alld) = gen_All x0 x1 x2 x3 x4 := by kernel_rfl

noncomputable def gen_Alla {R : Type} (o : Orc) (vs : List V) (objs : List Obj) (K : Bool → V → List Obj → Option R) : Option R := match vs, List.map Obj.toRO objs with
  | [V.s (S.ptr 0 0 none 0)], [Obj.rcells 81 [Seg.arr IntKind.i8 81 x0, Seg.arr IntKind.i8 16 x1, Seg.one [S.i IntKind.i8 x2], Seg.rows [.i .u64, .i .u64] 32 x3, Seg.rows [.i .u64, .i .u64] 2 x4]] => ob (gen_All x0 x1 x2 x3 x4) fun z => K true (V.s (S.sl 1 0 (z.1) true)) ([Obj.sli 40 false (Seg.rows [.i .i64, .i .i64, .i .i64, .b] (z.2.1) (z.2.2))])
  | _, _ => o 15 vs objs K

noncomputable def gen_Allo (o : Orc) : Orc := hook 15 (gen_Alla o) o

theorem gen_Allo_ok (o : Orc) (ho : OSound Tryd.prog o) : OSound Tryd.prog (gen_Allo o) := hook_ok ho fun vs objs K r h => by
  unfold gen_Alla at h
  split at h
  · skip
    have hq : List.map Obj.toRO objs = _ := (by rename_i hq; first | exact hq | assumption)
    obtain ⟨t, h1, h2⟩ := ob_ok h
    refine purOK_by mixed gen_Allc_ok (m := 1) (fn := Tryd.f15) (b := (Tryd.f15).body.getD .skip) (by kernel_rfl) (by kernel_rfl) (by kernel_rfl) hq (by kernel_rfl) (by kernel_rfl) (AllP.of (l' := []) (by kernel_rfl) trivial) ((gen_All_eq _ _ _ _ _).trans h1) fun v objs' hd => ?_
    unfold gen_Alld at hd
    split at hd
    · skip
      cases hd
      exact h2
    · cases hd
  · exact ho _ _ _ _ _ h

noncomputable def law10_listsc : Ctx := mkC 15 ((gen_Allo (board_Newo (board_Starto oNil)))) [] lpNil

theorem law10_listsc_ok : CtxOK Tryd.prog law10_listsc := mkC_ok ((gen_Allo_ok _ (board_Newo_ok _ (board_Starto_ok _ oNil_ok))))

noncomputable def law10_listsd : V → List Obj → Option (Bool) := fun v objs => match v, objs with
  | V.s (S.b y0), [] => some (y0)
  | _, _ => none

theorem law10_lists_eq : fnE law10_listsc Tryd.f21 ([]) ([]) law10_listsd = law10_lists  := by kernel_rfl

noncomputable def law10_listsa {R : Type} (o : Orc) (vs : List V) (objs : List Obj) (K : Bool → V → List Obj → Option R) : Option R := match vs, objs with
  | [], [] => ob (law10_lists ) fun y0 => K false (V.s (S.b y0)) ([])
  | _, _ => o 21 vs objs K

noncomputable def law10_listso (o : Orc) : Orc := hook 21 (law10_listsa o) o

theorem law10_listso_ok (o : Orc) (ho : OSound Tryd.prog o) : OSound Tryd.prog (law10_listso o) := hook_ok ho fun vs objs K r h => by
  unfold law10_listsa at h
  split at h
  · skip
    obtain ⟨t, h1, h2⟩ := ob_ok h
    refine anyOK_of mixed law10_listsc_ok (fn := Tryd.f21) (b := (Tryd.f21).body.getD .skip) (by kernel_rfl) (by kernel_rfl) (by kernel_rfl) ((law10_lists_eq).trans h1) (m := 0) rfl (AllP.of (l' := []) (by kernel_rfl) trivial) fun v objs' hd => ?_
    unfold law10_listsd at hd
    split at hd
    · skip
      cases hd
      exact h2
    · cases hd
  · exact ho _ _ _ _ _ h

noncomputable def ref02_Kindc : Ctx := mkC 23 (oNil) [] lpNil

theorem ref02_Kindc_ok : CtxOK Tryd.prog ref02_Kindc := mkC_ok (oNil_ok)

noncomputable def ref02_Kindd : V → List Obj → Option (Int) := fun v objs => match v, objs with
  | V.s (S.i IntKind.i64 y0), [] => some (y0)
  | _, _ => none

theorem ref02_Kind_eq (x0 : Int) : fnE ref02_Kindc Tryd.f67 ([V.s (S.i IntKind.i64 x0)]) ([]) ref02_Kindd = ref02_Kind x0 := by kernel_rfl

noncomputable def ref02_Kinda {R : Type} (o : Orc) (vs : List V) (objs : List Obj) (K : Bool → V → List Obj → Option R) : Option R := match vs, objs with
  | [V.s (S.i IntKind.i64 x0)], [] => ob (ref02_Kind x0) fun y0 => K false (V.s (S.i IntKind.i64 y0)) ([])
  | _, _ => o 67 vs objs K

noncomputable def ref02_Kindo (o : Orc) : Orc := hook 67 (ref02_Kinda o) o

theorem ref02_Kindo_ok (o : Orc) (ho : OSound Tryd.prog o) : OSound Tryd.prog (ref02_Kindo o) := hook_ok ho fun vs objs K r h => by
  unfold ref02_Kinda at h
  split at h
  · skip
    obtain ⟨t, h1, h2⟩ := ob_ok h
    refine anyOK_of mixed ref02_Kindc_ok (fn := Tryd.f67) (b := (Tryd.f67).body.getD .skip) (by kernel_rfl) (by kernel_rfl) (by kernel_rfl) ((ref02_Kind_eq _).trans h1) (m := 0) rfl (AllP.of (l' := []) (by kernel_rfl) trivial) fun v objs' hd => ?_
    unfold ref02_Kindd at hd
    split at hd
    · skip
      cases hd
      exact h2
    · cases hd
  · exact ho _ _ _ _ _ h

noncomputable def ref05_Onl3d : Ex → List V → List Obj → Option (Int) := fun e vs objs => match e, vs, objs with
  | Ex.exit 0, [V.s (S.i IntKind.i64 y0)], [] => some (y0)
  | _, _, _ => none

noncomputable def ref05_Onp3 {R : Type} (vs : List V) (objs : List Obj) (K : Ex → List V → List Obj → Option R) : Option R := match vs, objs with
  | [V.s (S.i IntKind.i64 x0), V.s (S.i IntKind.i64 x1), V.s (S.ptr 0 0 none 0), V.s (S.i IntKind.i64 x2), V.s (S.i IntKind.i64 x3)], [Obj.cells 28 [Seg.arr IntKind.i8 81 x4, Seg.arr IntKind.i8 16 x5, Seg.one [S.i IntKind.i8 x6]]] => ob (ref05_Onl3 many x0 x1 x2 x3 x4 x5 x6) fun y0 => K (Ex.exit 0) ([V.s (S.i IntKind.i64 y0)]) ([])
  | _, _ => none

noncomputable def ref05_Onlp : {R : Type} → Nat → List V → List Obj → (Ex → List V → List Obj → Option R) → Option R := fun q vs objs K => bif Nat.beq q 3 then ref05_Onp3 vs objs K else none

noncomputable def ref05_Onc : Ctx := mkC 26 (oNil) [(3, [1, 2, 3, 7, 8], [7])] ref05_Onlp

theorem ref05_Onc_ok : CtxOK Tryd.prog ref05_Onc := mkC_ok (oNil_ok)

noncomputable def ref05_Onl3r (f : Nat) (x0 : Int) (x1 : Int) (x2 : Int) (x3 : Int) (x4 : List Int) (x5 : List Int) (x6 : Int) : Option (Int) := lrun ref05_Onc 0 [1, 2, 3, 7, 8] [7] (loopOf Tryd.f72 3) f ([V.s (S.i IntKind.i64 x0), V.s (S.i IntKind.i64 x1), V.s (S.ptr 0 0 none 0), V.s (S.i IntKind.i64 x2), V.s (S.i IntKind.i64 x3)]) ([Obj.cells 28 [Seg.arr IntKind.i8 81 x4, Seg.arr IntKind.i8 16 x5, Seg.one [S.i IntKind.i8 x6]]]) ref05_Onl3d

theorem ref05_Onl3_step (f : Nat) (x0 : Int) (x1 : Int) (x2 : Int) (x3 : Int) (x4 : List Int) (x5 : List Int) (x6 : Int) : ref05_Onl3r (f + 1) x0 x1 x2 x3 x4 x5 x6 = ref05_Onl3s (ref05_Onl3r f) x0 x1 x2 x3 x4 x5 x6 := by kernel_rfl

theorem ref05_Onl3_eq : ∀ f, ref05_Onl3r f = ref05_Onl3 f
  | 0 => rfl
  | f + 1 => by funext x0 x1 x2 x3 x4 x5 x6; rw [ref05_Onl3_step, ref05_Onl3_eq f]; rfl

theorem ref05_Ons3 : LoopSound Tryd.prog ref05_Onc 0 (loopOf Tryd.f72 3) :=
  loopSound_by mixed ref05_Onc_ok (AllP.of (l' := []) (by kernel_rfl) trivial) (q := 3) (kin := [1, 2, 3, 7, 8]) (kout := [7]) (by kernel_rfl) (by kernel_rfl) fun vs objs K r h => by
    replace h : ref05_Onp3 vs objs K = some r := h
    unfold ref05_Onp3 at h
    split at h
    · skip
      obtain ⟨t, h1, h2⟩ := ob_ok h
      rw [← ref05_Onl3_eq] at h1
      refine ⟨_, ref05_Onl3d, t, many, h1, fun e vs' objs' hd => ?_⟩
      unfold ref05_Onl3d at hd
      split at hd
      · skip
        cases hd
        exact h2
      · cases hd
    · cases h

noncomputable def ref05_Ond : V → List Obj → Option (Int) := fun v objs => match v, objs with
  | V.s (S.i IntKind.i64 y0), [] => some (y0)
  | _, _ => none

theorem ref05_On_eq (x0 : List Int) (x1 : List Int) (x2 : Int) (x3 : Int) (x4 : Int) : fnE ref05_Onc Tryd.f72 ([V.agg [Seg.arr IntKind.i8 81 x0, Seg.arr IntKind.i8 16 x1, Seg.one [S.i IntKind.i8 x2]], V.s (S.i IntKind.i64 x3), V.s (S.i IntKind.i64 x4)]) ([]) ref05_Ond = ref05_On x0 x1 x2 x3 x4 := by kernel_rfl

noncomputable def ref05_Ona {R : Type} (o : Orc) (vs : List V) (objs : List Obj) (K : Bool → V → List Obj → Option R) : Option R := match vs, objs with
  | [V.agg [Seg.arr IntKind.i8 81 x0, Seg.arr IntKind.i8 16 x1, Seg.one [S.i IntKind.i8 x2]], V.s (S.i IntKind.i64 x3), V.s (S.i IntKind.i64 x4)], [] => ob (ref05_On x0 x1 x2 x3 x4) fun y0 => K false (V.s (S.i IntKind.i64 y0)) ([])
  | _, _ => o 72 vs objs K

noncomputable def ref05_Ono (o : Orc) : Orc := hook 72 (ref05_Ona o) o

theorem ref05_Ono_ok (o : Orc) (ho : OSound Tryd.prog o) : OSound Tryd.prog (ref05_Ono o) := hook_ok ho fun vs objs K r h => by
  unfold ref05_Ona at h
  split at h
  · skip
    obtain ⟨t, h1, h2⟩ := ob_ok h
    refine anyOK_of mixed ref05_Onc_ok (fn := Tryd.f72) (b := (Tryd.f72).body.getD .skip) (by kernel_rfl) (by kernel_rfl) (by kernel_rfl) ((ref05_On_eq _ _ _ _ _).trans h1) (m := 0) rfl (AllP.of (l' := [loopOf Tryd.f72 3]) (by kernel_rfl) ⟨ref05_Ons3, trivial⟩) fun v objs' hd => ?_
    unfold ref05_Ond at hd
    split at hd
    · skip
      cases hd
      exact h2
    · cases hd
  · exact ho _ _ _ _ _ h

noncomputable def ref05_alll3d : Ex → List V → List Obj → Option (Int) := fun e vs objs => match e, vs, objs with
  | Ex.exit 0, [V.s (S.i IntKind.i64 y0)], [] => some (y0)
  | _, _, _ => none

noncomputable def ref05_allp3 {R : Type} (vs : List V) (objs : List Obj) (K : Ex → List V → List Obj → Option R) : Option R := match vs, objs with
  | [V.s (S.i IntKind.i64 x0), V.s (S.ptr 0 0 none 0), V.s (S.i IntKind.i64 x1), V.s (S.i IntKind.i64 x2)], [Obj.cells 28 [Seg.arr IntKind.i8 81 x3, Seg.arr IntKind.i8 16 x4, Seg.one [S.i IntKind.i8 x5]]] => ob (ref05_alll3 many x0 x1 x2 x3 x4 x5) fun y0 => K (Ex.exit 0) ([V.s (S.i IntKind.i64 y0)]) ([])
  | _, _ => none

noncomputable def ref05_alllp : {R : Type} → Nat → List V → List Obj → (Ex → List V → List Obj → Option R) → Option R := fun q vs objs K => bif Nat.beq q 3 then ref05_allp3 vs objs K else none

noncomputable def ref05_allc : Ctx := mkC 18 ((ref05_Ono oNil)) [(3, [1, 2, 5, 6], [5])] ref05_alllp

theorem ref05_allc_ok : CtxOK Tryd.prog ref05_allc := mkC_ok ((ref05_Ono_ok _ oNil_ok))

noncomputable def ref05_alll3r (f : Nat) (x0 : Int) (x1 : Int) (x2 : Int) (x3 : List Int) (x4 : List Int) (x5 : Int) : Option (Int) := lrun ref05_allc 0 [1, 2, 5, 6] [5] (loopOf Tryd.f68 3) f ([V.s (S.i IntKind.i64 x0), V.s (S.ptr 0 0 none 0), V.s (S.i IntKind.i64 x1), V.s (S.i IntKind.i64 x2)]) ([Obj.cells 28 [Seg.arr IntKind.i8 81 x3, Seg.arr IntKind.i8 16 x4, Seg.one [S.i IntKind.i8 x5]]]) ref05_alll3d

theorem ref05_alll3_step (f : Nat) (x0 : Int) (x1 : Int) (x2 : Int) (x3 : List Int) (x4 : List Int) (x5 : Int) : ref05_alll3r (f + 1) x0 x1 x2 x3 x4 x5 = ref05_alll3s (ref05_alll3r f) x0 x1 x2 x3 x4 x5 := by kernel_rfl

theorem ref05_alll3_eq : ∀ f, ref05_alll3r f = ref05_alll3 f
  | 0 => rfl
  | f + 1 => by funext x0 x1 x2 x3 x4 x5; rw [ref05_alll3_step, ref05_alll3_eq f]; rfl

theorem ref05_alls3 : LoopSound Tryd.prog ref05_allc 0 (loopOf Tryd.f68 3) :=
  loopSound_by mixed ref05_allc_ok (AllP.of (l' := []) (by kernel_rfl) trivial) (q := 3) (kin := [1, 2, 5, 6]) (kout := [5]) (by kernel_rfl) (by kernel_rfl) fun vs objs K r h => by
    replace h : ref05_allp3 vs objs K = some r := h
    unfold ref05_allp3 at h
    split at h
    · skip
      obtain ⟨t, h1, h2⟩ := ob_ok h
      rw [← ref05_alll3_eq] at h1
      refine ⟨_, ref05_alll3d, t, many, h1, fun e vs' objs' hd => ?_⟩
      unfold ref05_alll3d at hd
      split at hd
      · skip
        cases hd
        exact h2
      · cases hd
    · cases h

noncomputable def ref05_alld : V → List Obj → Option (Int) := fun v objs => match v, objs with
  | V.s (S.i IntKind.i64 y0), [] => some (y0)
  | _, _ => none

theorem ref05_all_eq (x0 : List Int) (x1 : List Int) (x2 : Int) (x3 : Int) : fnE ref05_allc Tryd.f68 ([V.agg [Seg.arr IntKind.i8 81 x0, Seg.arr IntKind.i8 16 x1, Seg.one [S.i IntKind.i8 x2]], V.s (S.i IntKind.i64 x3)]) ([]) ref05_alld = ref05_all x0 x1 x2 x3 := by kernel_rfl

noncomputable def ref05_alla {R : Type} (o : Orc) (vs : List V) (objs : List Obj) (K : Bool → V → List Obj → Option R) : Option R := match vs, objs with
  | [V.agg [Seg.arr IntKind.i8 81 x0, Seg.arr IntKind.i8 16 x1, Seg.one [S.i IntKind.i8 x2]], V.s (S.i IntKind.i64 x3)], [] => ob (ref05_all x0 x1 x2 x3) fun y0 => K false (V.s (S.i IntKind.i64 y0)) ([])
  | _, _ => o 68 vs objs K

noncomputable def ref05_allo (o : Orc) : Orc := hook 68 (ref05_alla o) o

theorem ref05_allo_ok (o : Orc) (ho : OSound Tryd.prog o) : OSound Tryd.prog (ref05_allo o) := hook_ok ho fun vs objs K r h => by
  unfold ref05_alla at h
  split at h
  · skip
    obtain ⟨t, h1, h2⟩ := ob_ok h
    refine anyOK_of mixed ref05_allc_ok (fn := Tryd.f68) (b := (Tryd.f68).body.getD .skip) (by kernel_rfl) (by kernel_rfl) (by kernel_rfl) ((ref05_all_eq _ _ _ _).trans h1) (m := 0) rfl (AllP.of (l' := [loopOf Tryd.f68 3]) (by kernel_rfl) ⟨ref05_alls3, trivial⟩) fun v objs' hd => ?_
    unfold ref05_alld at hd
    split at hd
    · skip
      cases hd
      exact h2
    · cases hd
  · exact ho _ _ _ _ _ h

noncomputable def ref02_Rawc : Ctx := mkC 18 (oNil) [] lpNil

theorem ref02_Rawc_ok : CtxOK Tryd.prog ref02_Rawc := mkC_ok (oNil_ok)

noncomputable def ref02_Rawd : V → List Obj → Option (Int) := fun v objs => match v, objs with
  | V.s (S.i IntKind.i64 y0), [] => some (y0)
  | _, _ => none

theorem ref02_Raw_eq (x0 : Int) : fnE ref02_Rawc Tryd.f106 ([V.s (S.i IntKind.i64 x0)]) ([]) ref02_Rawd = ref02_Raw x0 := by kernel_rfl

noncomputable def ref02_Rawa {R : Type} (o : Orc) (vs : List V) (objs : List Obj) (K : Bool → V → List Obj → Option R) : Option R := match vs, objs with
  | [V.s (S.i IntKind.i64 x0)], [] => ob (ref02_Raw x0) fun y0 => K false (V.s (S.i IntKind.i64 y0)) ([])
  | _, _ => o 106 vs objs K

noncomputable def ref02_Rawo (o : Orc) : Orc := hook 106 (ref02_Rawa o) o

theorem ref02_Rawo_ok (o : Orc) (ho : OSound Tryd.prog o) : OSound Tryd.prog (ref02_Rawo o) := hook_ok ho fun vs objs K r h => by
  unfold ref02_Rawa at h
  split at h
  · skip
    obtain ⟨t, h1, h2⟩ := ob_ok h
    refine anyOK_of mixed ref02_Rawc_ok (fn := Tryd.f106) (b := (Tryd.f106).body.getD .skip) (by kernel_rfl) (by kernel_rfl) (by kernel_rfl) ((ref02_Raw_eq _).trans h1) (m := 0) rfl (AllP.of (l' := []) (by kernel_rfl) trivial) fun v objs' hd => ?_
    unfold ref02_Rawd at hd
    split at hd
    · skip
      cases hd
      exact h2
    · cases hd
  · exact ho _ _ _ _ _ h

noncomputable def ref05_Countl3d : Ex → List V → List Obj → Option (Int × Int × List Int × List Int × Int) := fun e vs objs => match e, vs, objs with
  | Ex.exit 0, [V.s (S.i IntKind.i64 y0), V.s (S.ptr 0 0 none 0), V.s (S.i IntKind.i64 y1)], [Obj.cells 28 [Seg.arr IntKind.i8 81 y2, Seg.arr IntKind.i8 16 y3, Seg.one [S.i IntKind.i8 y4]]] => some (y0, y1, y2, y3, y4)
  | _, _, _ => none

noncomputable def ref05_Countp3 {R : Type} (vs : List V) (objs : List Obj) (K : Ex → List V → List Obj → Option R) : Option R := match vs, objs with
  | [V.s (S.i IntKind.i64 x0), V.s (S.ptr 0 0 none 0), V.s (S.i IntKind.i64 x1), V.s (S.i IntKind.i64 x2)], [Obj.cells 28 [Seg.arr IntKind.i8 81 x3, Seg.arr IntKind.i8 16 x4, Seg.one [S.i IntKind.i8 x5]]] => ob (ref05_Countl3 many x0 x1 x2 x3 x4 x5) fun z => K (Ex.exit 0) ([V.s (S.i IntKind.i64 (z.1)), V.s (S.ptr 0 0 none 0), V.s (S.i IntKind.i64 (z.2.1))]) ([Obj.cells 28 [Seg.arr IntKind.i8 81 (z.2.2.1), Seg.arr IntKind.i8 16 (z.2.2.2.1), Seg.one [S.i IntKind.i8 (z.2.2.2.2)]]])
  | _, _ => none

noncomputable def ref05_Countlp : {R : Type} → Nat → List V → List Obj → (Ex → List V → List Obj → Option R) → Option R := fun q vs objs K => bif Nat.beq q 3 then ref05_Countp3 vs objs K else none

noncomputable def ref05_Countc : Ctx := mkC 37 ((ref02_Rawo (ref02_Kindo oNil))) [(3, [1, 2, 5, 6], [1, 2, 5])] ref05_Countlp

theorem ref05_Countc_ok : CtxOK Tryd.prog ref05_Countc := mkC_ok ((ref02_Rawo_ok _ (ref02_Kindo_ok _ oNil_ok)))

noncomputable def ref05_Countl3r (f : Nat) (x0 : Int) (x1 : Int) (x2 : Int) (x3 : List Int) (x4 : List Int) (x5 : Int) : Option (Int × Int × List Int × List Int × Int) := lrun ref05_Countc 0 [1, 2, 5, 6] [1, 2, 5] (loopOf Tryd.f69 3) f ([V.s (S.i IntKind.i64 x0), V.s (S.ptr 0 0 none 0), V.s (S.i IntKind.i64 x1), V.s (S.i IntKind.i64 x2)]) ([Obj.cells 28 [Seg.arr IntKind.i8 81 x3, Seg.arr IntKind.i8 16 x4, Seg.one [S.i IntKind.i8 x5]]]) ref05_Countl3d

theorem ref05_Countl3_step (f : Nat) (x0 : Int) (x1 : Int) (x2 : Int) (x3 : List Int) (x4 : List Int) (x5 : Int) : ref05_Countl3r (f + 1) x0 x1 x2 x3 x4 x5 = ref05_Countl3s (ref05_Countl3r f) x0 x1 x2 x3 x4 x5 := by kernel_rfl

theorem ref05_Countl3_eq : ∀ f, ref05_Countl3r f = ref05_Countl3 f
  | 0 => rfl
  | f + 1 => by funext x0 x1 x2 x3 x4 x5; rw [ref05_Countl3_step, ref05_Countl3_eq f]; rfl

theorem ref05_Counts3 : LoopSound Tryd.prog ref05_Countc 0 (loopOf Tryd.f69 3) :=
  loopSound_by mixed ref05_Countc_ok (AllP.of (l' := []) (by kernel_rfl) trivial) (q := 3) (kin := [1, 2, 5, 6]) (kout := [1, 2, 5]) (by kernel_rfl) (by kernel_rfl) fun vs objs K r h => by
    replace h : ref05_Countp3 vs objs K = some r := h
    unfold ref05_Countp3 at h
    split at h
    · skip
      obtain ⟨t, h1, h2⟩ := ob_ok h
      rw [← ref05_Countl3_eq] at h1
      refine ⟨_, ref05_Countl3d, t, many, h1, fun e vs' objs' hd => ?_⟩
      unfold ref05_Countl3d at hd
      split at hd
      · skip
        cases hd
        exact h2
      · cases hd
    · cases h

noncomputable def ref05_Countd : V → List Obj → Option (Int) := fun v objs => match v, objs with
  | V.s (S.i IntKind.i64 y0), [] => some (y0)
  | _, _ => none

theorem ref05_Count_eq (x0 : List Int) (x1 : List Int) (x2 : Int) (x3 : Int) : fnE ref05_Countc Tryd.f69 ([V.agg [Seg.arr IntKind.i8 81 x0, Seg.arr IntKind.i8 16 x1, Seg.one [S.i IntKind.i8 x2]], V.s (S.i IntKind.i64 x3)]) ([]) ref05_Countd = ref05_Count x0 x1 x2 x3 := by kernel_rfl

noncomputable def ref05_Counta {R : Type} (o : Orc) (vs : List V) (objs : List Obj) (K : Bool → V → List Obj → Option R) : Option R := match vs, objs with
  | [V.agg [Seg.arr IntKind.i8 81 x0, Seg.arr IntKind.i8 16 x1, Seg.one [S.i IntKind.i8 x2]], V.s (S.i IntKind.i64 x3)], [] => ob (ref05_Count x0 x1 x2 x3) fun y0 => K false (V.s (S.i IntKind.i64 y0)) ([])
  | _, _ => o 69 vs objs K

noncomputable def ref05_Counto (o : Orc) : Orc := hook 69 (ref05_Counta o) o

theorem ref05_Counto_ok (o : Orc) (ho : OSound Tryd.prog o) : OSound Tryd.prog (ref05_Counto o) := hook_ok ho fun vs objs K r h => by
  unfold ref05_Counta at h
  split at h
  · skip
    obtain ⟨t, h1, h2⟩ := ob_ok h
    refine anyOK_of mixed ref05_Countc_ok (fn := Tryd.f69) (b := (Tryd.f69).body.getD .skip) (by kernel_rfl) (by kernel_rfl) (by kernel_rfl) ((ref05_Count_eq _ _ _ _).trans h1) (m := 0) rfl (AllP.of (l' := [loopOf Tryd.f69 3]) (by kernel_rfl) ⟨ref05_Counts3, trivial⟩) fun v objs' hd => ?_
    unfold ref05_Countd at hd
    split at hd
    · skip
      cases hd
      exact h2
    · cases hd
  · exact ho _ _ _ _ _ h

noncomputable def ref02_Totalc : Ctx := mkC 15 (oNil) [] lpNil

theorem ref02_Totalc_ok : CtxOK Tryd.prog ref02_Totalc := mkC_ok (oNil_ok)

noncomputable def ref02_Totald : V → List Obj → Option (Int) := fun v objs => match v, objs with
  | V.s (S.i IntKind.i64 y0), [] => some (y0)
  | _, _ => none

theorem ref02_Total_eq (x0 : Int) : fnE ref02_Totalc Tryd.f70 ([V.s (S.i IntKind.i64 x0)]) ([]) ref02_Totald = ref02_Total x0 := by kernel_rfl

noncomputable def ref02_Totala {R : Type} (o : Orc) (vs : List V) (objs : List Obj) (K : Bool → V → List Obj → Option R) : Option R := match vs, objs with
  | [V.s (S.i IntKind.i64 x0)], [] => ob (ref02_Total x0) fun y0 => K false (V.s (S.i IntKind.i64 y0)) ([])
  | _, _ => o 70 vs objs K

noncomputable def ref02_Totalo (o : Orc) : Orc := hook 70 (ref02_Totala o) o

theorem ref02_Totalo_ok (o : Orc) (ho : OSound Tryd.prog o) : OSound Tryd.prog (ref02_Totalo o) := hook_ok ho fun vs objs K r h => by
  unfold ref02_Totala at h
  split at h
  · skip
    obtain ⟨t, h1, h2⟩ := ob_ok h
    refine anyOK_of mixed ref02_Totalc_ok (fn := Tryd.f70) (b := (Tryd.f70).body.getD .skip) (by kernel_rfl) (by kernel_rfl) (by kernel_rfl) ((ref02_Total_eq _).trans h1) (m := 0) rfl (AllP.of (l' := []) (by kernel_rfl) trivial) fun v objs' hd => ?_
    unfold ref02_Totald at hd
    split at hd
    · skip
      cases hd
      exact h2
    · cases hd
  · exact ho _ _ _ _ _ h

noncomputable def ref02_Sidec : Ctx := mkC 8 ((ref02_Kindo oNil)) [] lpNil

theorem ref02_Sidec_ok : CtxOK Tryd.prog ref02_Sidec := mkC_ok ((ref02_Kindo_ok _ oNil_ok))

noncomputable def ref02_Sided : V → List Obj → Option (Int) := fun v objs => match v, objs with
  | V.s (S.i IntKind.i64 y0), [] => some (y0)
  | _, _ => none

theorem ref02_Side_eq (x0 : Int) : fnE ref02_Sidec Tryd.f34 ([V.s (S.i IntKind.i64 x0)]) ([]) ref02_Sided = ref02_Side x0 := by kernel_rfl

noncomputable def ref02_Sidea {R : Type} (o : Orc) (vs : List V) (objs : List Obj) (K : Bool → V → List Obj → Option R) : Option R := match vs, objs with
  | [V.s (S.i IntKind.i64 x0)], [] => ob (ref02_Side x0) fun y0 => K false (V.s (S.i IntKind.i64 y0)) ([])
  | _, _ => o 34 vs objs K

noncomputable def ref02_Sideo (o : Orc) : Orc := hook 34 (ref02_Sidea o) o

theorem ref02_Sideo_ok (o : Orc) (ho : OSound Tryd.prog o) : OSound Tryd.prog (ref02_Sideo o) := hook_ok ho fun vs objs K r h => by
  unfold ref02_Sidea at h
  split at h
  · skip
    obtain ⟨t, h1, h2⟩ := ob_ok h
    refine anyOK_of mixed ref02_Sidec_ok (fn := Tryd.f34) (b := (Tryd.f34).body.getD .skip) (by kernel_rfl) (by kernel_rfl) (by kernel_rfl) ((ref02_Side_eq _).trans h1) (m := 0) rfl (AllP.of (l' := []) (by kernel_rfl) trivial) fun v objs' hd => ?_
    unfold ref02_Sided at hd
    split at hd
    · skip
      cases hd
      exact h2
    · cases hd
  · exact ho _ _ _ _ _ h

noncomputable def ref03_Farc : Ctx := mkC 26 (oNil) [] lpNil

theorem ref03_Farc_ok : CtxOK Tryd.prog ref03_Farc := mkC_ok (oNil_ok)

noncomputable def ref03_Fard : V → List Obj → Option (Int) := fun v objs => match v, objs with
  | V.s (S.i IntKind.i64 y0), [] => some (y0)
  | _, _ => none

theorem ref03_Far_eq (x0 : Int) (x1 : Int) : fnE ref03_Farc Tryd.f80 ([V.s (S.i IntKind.i64 x0), V.s (S.i IntKind.i64 x1)]) ([]) ref03_Fard = ref03_Far x0 x1 := by kernel_rfl

noncomputable def ref03_Fara {R : Type} (o : Orc) (vs : List V) (objs : List Obj) (K : Bool → V → List Obj → Option R) : Option R := match vs, objs with
  | [V.s (S.i IntKind.i64 x0), V.s (S.i IntKind.i64 x1)], [] => ob (ref03_Far x0 x1) fun y0 => K false (V.s (S.i IntKind.i64 y0)) ([])
  | _, _ => o 80 vs objs K

noncomputable def ref03_Faro (o : Orc) : Orc := hook 80 (ref03_Fara o) o

theorem ref03_Faro_ok (o : Orc) (ho : OSound Tryd.prog o) : OSound Tryd.prog (ref03_Faro o) := hook_ok ho fun vs objs K r h => by
  unfold ref03_Fara at h
  split at h
  · skip
    obtain ⟨t, h1, h2⟩ := ob_ok h
    refine anyOK_of mixed ref03_Farc_ok (fn := Tryd.f80) (b := (Tryd.f80).body.getD .skip) (by kernel_rfl) (by kernel_rfl) (by kernel_rfl) ((ref03_Far_eq _ _).trans h1) (m := 0) rfl (AllP.of (l' := []) (by kernel_rfl) trivial) fun v objs' hd => ?_
    unfold ref03_Fard at hd
    split at hd
    · skip
      cases hd
      exact h2
    · cases hd
  · exact ho _ _ _ _ _ h

noncomputable def ref03_Deadc : Ctx := mkC 35 ((ref02_Kindo (ref03_Faro (ref02_Sideo oNil)))) [] lpNil

theorem ref03_Deadc_ok : CtxOK Tryd.prog ref03_Deadc := mkC_ok ((ref02_Kindo_ok _ (ref03_Faro_ok _ (ref02_Sideo_ok _ oNil_ok))))

noncomputable def ref03_Deadd : V → List Obj → Option (Bool) := fun v objs => match v, objs with
  | V.s (S.b y0), [] => some (y0)
  | _, _ => none

theorem ref03_Dead_eq (x0 : Int) (x1 : Int) : fnE ref03_Deadc Tryd.f71 ([V.s (S.i IntKind.i64 x0), V.s (S.i IntKind.i64 x1)]) ([]) ref03_Deadd = ref03_Dead x0 x1 := by kernel_rfl

noncomputable def ref03_Deada {R : Type} (o : Orc) (vs : List V) (objs : List Obj) (K : Bool → V → List Obj → Option R) : Option R := match vs, objs with
  | [V.s (S.i IntKind.i64 x0), V.s (S.i IntKind.i64 x1)], [] => ob (ref03_Dead x0 x1) fun y0 => K false (V.s (S.b y0)) ([])
  | _, _ => o 71 vs objs K

noncomputable def ref03_Deado (o : Orc) : Orc := hook 71 (ref03_Deada o) o

theorem ref03_Deado_ok (o : Orc) (ho : OSound Tryd.prog o) : OSound Tryd.prog (ref03_Deado o) := hook_ok ho fun vs objs K r h => by
  unfold ref03_Deada at h
  split at h
  · skip
    obtain ⟨t, h1, h2⟩ := ob_ok h
    refine anyOK_of mixed ref03_Deadc_ok (fn := Tryd.f71) (b := (Tryd.f71).body.getD .skip) (by kernel_rfl) (by kernel_rfl) (by kernel_rfl) ((ref03_Dead_eq _ _).trans h1) (m := 0) rfl (AllP.of (l' := []) (by kernel_rfl) trivial) fun v objs' hd => ?_
    unfold ref03_Deadd at hd
    split at hd
    · skip
      cases hd
      exact h2
    · cases hd
  · exact ho _ _ _ _ _ h

noncomputable def ref05_Checkl4d : Ex → List V → List Obj → Option ((Int × List Int × List Int × Int) ⊕ (List Int × List Int × Int)) := fun e vs objs => match e, vs, objs with
  | Ex.ret, [V.s (S.ptr 0 0 none 0), V.s (S.i IntKind.i64 y0)], [Obj.cells 28 [Seg.arr IntKind.i8 81 y1, Seg.arr IntKind.i8 16 y2, Seg.one [S.i IntKind.i8 y3]]] => some (Sum.inl (y0, y1, y2, y3))
  | Ex.exit 0, [V.s (S.ptr 0 0 none 0), V.s S.bad], [Obj.cells 28 [Seg.arr IntKind.i8 81 y0, Seg.arr IntKind.i8 16 y1, Seg.one [S.i IntKind.i8 y2]]] => some (Sum.inr (y0, y1, y2))
  | _, _, _ => none

noncomputable def ref05_Checkl12d : Ex → List V → List Obj → Option ((Int × Int × List Int × List Int × Int) ⊕ (Int × List Int × List Int × Int)) := fun e vs objs => match e, vs, objs with
  | Ex.ret, [V.s (S.ptr 0 0 none 0), V.s (S.i IntKind.i64 y0), V.s (S.i IntKind.i64 y1)], [Obj.cells 28 [Seg.arr IntKind.i8 81 y2, Seg.arr IntKind.i8 16 y3, Seg.one [S.i IntKind.i8 y4]]] => some (Sum.inl (y0, y1, y2, y3, y4))
  | Ex.exit 4, [V.s (S.ptr 0 0 none 0), V.s S.bad, V.s (S.i IntKind.i64 y0)], [Obj.cells 28 [Seg.arr IntKind.i8 81 y1, Seg.arr IntKind.i8 16 y2, Seg.one [S.i IntKind.i8 y3]]] => some (Sum.inr (y0, y1, y2, y3))
  | _, _, _ => none

noncomputable def ref05_Checkl9d : Ex → List V → List Obj → Option ((Int × List Int × List Int × Int) ⊕ (List Int × List Int × Int)) := fun e vs objs => match e, vs, objs with
  | Ex.ret, [V.s (S.ptr 0 0 none 0), V.s (S.i IntKind.i64 y0)], [Obj.cells 28 [Seg.arr IntKind.i8 81 y1, Seg.arr IntKind.i8 16 y2, Seg.one [S.i IntKind.i8 y3]]] => some (Sum.inl (y0, y1, y2, y3))
  | Ex.exit 2, [V.s (S.ptr 0 0 none 0), V.s S.bad], [Obj.cells 28 [Seg.arr IntKind.i8 81 y0, Seg.arr IntKind.i8 16 y1, Seg.one [S.i IntKind.i8 y2]]] => some (Sum.inr (y0, y1, y2))
  | _, _, _ => none

noncomputable def ref05_Checkl20d : Ex → List V → List Obj → Option ((Int × List Int × List Int × Int) ⊕ (List Int × List Int × Int)) := fun e vs objs => match e, vs, objs with
  | Ex.ret, [V.s (S.ptr 0 0 none 0), V.s (S.i IntKind.i64 y0)], [Obj.cells 28 [Seg.arr IntKind.i8 81 y1, Seg.arr IntKind.i8 16 y2, Seg.one [S.i IntKind.i8 y3]]] => some (Sum.inl (y0, y1, y2, y3))
  | Ex.exit 6, [V.s (S.ptr 0 0 none 0), V.s S.bad], [Obj.cells 28 [Seg.arr IntKind.i8 81 y0, Seg.arr IntKind.i8 16 y1, Seg.one [S.i IntKind.i8 y2]]] => some (Sum.inr (y0, y1, y2))
  | _, _, _ => none

noncomputable def ref05_Checkl25d : Ex → List V → List Obj → Option ((Int × List Int × List Int × Int) ⊕ (List Int × List Int × Int)) := fun e vs objs => match e, vs, objs with
  | Ex.ret, [V.s (S.ptr 0 0 none 0), V.s (S.i IntKind.i64 y0)], [Obj.cells 28 [Seg.arr IntKind.i8 81 y1, Seg.arr IntKind.i8 16 y2, Seg.one [S.i IntKind.i8 y3]]] => some (Sum.inl (y0, y1, y2, y3))
  | Ex.exit 8, [V.s (S.ptr 0 0 none 0), V.s S.bad], [Obj.cells 28 [Seg.arr IntKind.i8 81 y0, Seg.arr IntKind.i8 16 y1, Seg.one [S.i IntKind.i8 y2]]] => some (Sum.inr (y0, y1, y2))
  | _, _, _ => none

noncomputable def ref05_Checkl30d : Ex → List V → List Obj → Option ((Int) ⊕ (Unit)) := fun e vs objs => match e, vs, objs with
  | Ex.ret, [V.s (S.i IntKind.i64 y0)], [] => some (Sum.inl (y0))
  | Ex.exit 10, [V.s S.bad], [] => some (Sum.inr ())
  | _, _, _ => none

noncomputable def ref05_Checkp4 {R : Type} (vs : List V) (objs : List Obj) (K : Ex → List V → List Obj → Option R) : Option R := match vs, objs with
  | [V.s (S.ptr 0 0 none 0), V.s (S.i IntKind.i64 x0)], [Obj.cells 28 [Seg.arr IntKind.i8 81 x1, Seg.arr IntKind.i8 16 x2, Seg.one [S.i IntKind.i8 x3]]] => ob (ref05_Checkl4 many x0 x1 x2 x3) fun t0 => sw t0 (fun z => K (Ex.ret) ([V.s (S.ptr 0 0 none 0), V.s (S.i IntKind.i64 (z.1))]) ([Obj.cells 28 [Seg.arr IntKind.i8 81 (z.2.1), Seg.arr IntKind.i8 16 (z.2.2.1), Seg.one [S.i IntKind.i8 (z.2.2.2)]]])) (fun z => K (Ex.exit 0) ([V.s (S.ptr 0 0 none 0), V.s S.bad]) ([Obj.cells 28 [Seg.arr IntKind.i8 81 (z.1), Seg.arr IntKind.i8 16 (z.2.1), Seg.one [S.i IntKind.i8 (z.2.2)]]]))
  | _, _ => none

noncomputable def ref05_Checkp12 {R : Type} (vs : List V) (objs : List Obj) (K : Ex → List V → List Obj → Option R) : Option R := match vs, objs with
  | [V.s (S.ptr 0 0 none 0), V.s (S.i IntKind.i64 x0), V.s (S.i IntKind.i64 x1)], [Obj.cells 28 [Seg.arr IntKind.i8 81 x2, Seg.arr IntKind.i8 16 x3, Seg.one [S.i IntKind.i8 x4]]] => ob (ref05_Checkl12 many x0 x1 x2 x3 x4) fun t0 => sw t0 (fun z => K (Ex.ret) ([V.s (S.ptr 0 0 none 0), V.s (S.i IntKind.i64 (z.1)), V.s (S.i IntKind.i64 (z.2.1))]) ([Obj.cells 28 [Seg.arr IntKind.i8 81 (z.2.2.1), Seg.arr IntKind.i8 16 (z.2.2.2.1), Seg.one [S.i IntKind.i8 (z.2.2.2.2)]]])) (fun z => K (Ex.exit 4) ([V.s (S.ptr 0 0 none 0), V.s S.bad, V.s (S.i IntKind.i64 (z.1))]) ([Obj.cells 28 [Seg.arr IntKind.i8 81 (z.2.1), Seg.arr IntKind.i8 16 (z.2.2.1), Seg.one [S.i IntKind.i8 (z.2.2.2)]]]))
  | _, _ => none

noncomputable def ref05_Checkp9 {R : Type} (vs : List V) (objs : List Obj) (K : Ex → List V → List Obj → Option R) : Option R := match vs, objs with
  | [V.s (S.ptr 0 0 none 0), V.s (S.i IntKind.i64 x0)], [Obj.cells 28 [Seg.arr IntKind.i8 81 x1, Seg.arr IntKind.i8 16 x2, Seg.one [S.i IntKind.i8 x3]]] => ob (ref05_Checkl9 many x0 x1 x2 x3) fun t0 => sw t0 (fun z => K (Ex.ret) ([V.s (S.ptr 0 0 none 0), V.s (S.i IntKind.i64 (z.1))]) ([Obj.cells 28 [Seg.arr IntKind.i8 81 (z.2.1), Seg.arr IntKind.i8 16 (z.2.2.1), Seg.one [S.i IntKind.i8 (z.2.2.2)]]])) (fun z => K (Ex.exit 2) ([V.s (S.ptr 0 0 none 0), V.s S.bad]) ([Obj.cells 28 [Seg.arr IntKind.i8 81 (z.1), Seg.arr IntKind.i8 16 (z.2.1), Seg.one [S.i IntKind.i8 (z.2.2)]]]))
  | _, _ => none

noncomputable def ref05_Checkp20 {R : Type} (vs : List V) (objs : List Obj) (K : Ex → List V → List Obj → Option R) : Option R := match vs, objs with
  | [V.s (S.ptr 0 0 none 0), V.s (S.i IntKind.i64 x0)], [Obj.cells 28 [Seg.arr IntKind.i8 81 x1, Seg.arr IntKind.i8 16 x2, Seg.one [S.i IntKind.i8 x3]]] => ob (ref05_Checkl20 many x0 x1 x2 x3) fun t0 => sw t0 (fun z => K (Ex.ret) ([V.s (S.ptr 0 0 none 0), V.s (S.i IntKind.i64 (z.1))]) ([Obj.cells 28 [Seg.arr IntKind.i8 81 (z.2.1), Seg.arr IntKind.i8 16 (z.2.2.1), Seg.one [S.i IntKind.i8 (z.2.2.2)]]])) (fun z => K (Ex.exit 6) ([V.s (S.ptr 0 0 none 0), V.s S.bad]) ([Obj.cells 28 [Seg.arr IntKind.i8 81 (z.1), Seg.arr IntKind.i8 16 (z.2.1), Seg.one [S.i IntKind.i8 (z.2.2)]]]))
  | _, _ => none

noncomputable def ref05_Checkp25 {R : Type} (vs : List V) (objs : List Obj) (K : Ex → List V → List Obj → Option R) : Option R := match vs, objs with
  | [V.s (S.ptr 0 0 none 0), V.s (S.i IntKind.i64 x0)], [Obj.cells 28 [Seg.arr IntKind.i8 81 x1, Seg.arr IntKind.i8 16 x2, Seg.one [S.i IntKind.i8 x3]]] => ob (ref05_Checkl25 many x0 x1 x2 x3) fun t0 => sw t0 (fun z => K (Ex.ret) ([V.s (S.ptr 0 0 none 0), V.s (S.i IntKind.i64 (z.1))]) ([Obj.cells 28 [Seg.arr IntKind.i8 81 (z.2.1), Seg.arr IntKind.i8 16 (z.2.2.1), Seg.one [S.i IntKind.i8 (z.2.2.2)]]])) (fun z => K (Ex.exit 8) ([V.s (S.ptr 0 0 none 0), V.s S.bad]) ([Obj.cells 28 [Seg.arr IntKind.i8 81 (z.1), Seg.arr IntKind.i8 16 (z.2.1), Seg.one [S.i IntKind.i8 (z.2.2)]]]))
  | _, _ => none

noncomputable def ref05_Checkp30 {R : Type} (vs : List V) (objs : List Obj) (K : Ex → List V → List Obj → Option R) : Option R := match vs, objs with
  | [V.s (S.ptr 0 0 none 0), V.s (S.i IntKind.i64 x0)], [Obj.cells 28 [Seg.arr IntKind.i8 81 x1, Seg.arr IntKind.i8 16 x2, Seg.one [S.i IntKind.i8 x3]]] => ob (ref05_Checkl30 many x0 x1 x2 x3) fun t0 => sw t0 (fun y0 => K (Ex.ret) ([V.s (S.i IntKind.i64 y0)]) ([])) (fun _ => K (Ex.exit 10) ([V.s S.bad]) ([]))
  | _, _ => none

noncomputable def ref05_Checklp : {R : Type} → Nat → List V → List Obj → (Ex → List V → List Obj → Option R) → Option R := fun q vs objs K => bif Nat.beq q 4 then ref05_Checkp4 vs objs K else bif Nat.beq q 12 then ref05_Checkp12 vs objs K else bif Nat.beq q 9 then ref05_Checkp9 vs objs K else bif Nat.beq q 20 then ref05_Checkp20 vs objs K else bif Nat.beq q 25 then ref05_Checkp25 vs objs K else bif Nat.beq q 30 then ref05_Checkp30 vs objs K else none

noncomputable def ref05_Checkc : Ctx := mkC 103 ((ref05_Ono (ref03_Deado (ref02_Totalo (ref05_Counto (ref05_allo (ref02_Kindo oNil))))))) [(4, [1, 3], [1, 2]), (9, [1, 4], [1, 2]), (12, [1, 4, 5], [1, 2, 4]), (20, [1, 7], [1, 2]), (25, [1, 8], [1, 2]), (30, [1, 9], [2])] ref05_Checklp

theorem ref05_Checkc_ok : CtxOK Tryd.prog ref05_Checkc := mkC_ok ((ref05_Ono_ok _ (ref03_Deado_ok _ (ref02_Totalo_ok _ (ref05_Counto_ok _ (ref05_allo_ok _ (ref02_Kindo_ok _ oNil_ok)))))))

noncomputable def ref05_Checkl4r (f : Nat) (x0 : Int) (x1 : List Int) (x2 : List Int) (x3 : Int) : Option ((Int × List Int × List Int × Int) ⊕ (List Int × List Int × Int)) := lrun ref05_Checkc 0 [1, 3] [1, 2] (loopOf Tryd.f22 4) f ([V.s (S.ptr 0 0 none 0), V.s (S.i IntKind.i64 x0)]) ([Obj.cells 28 [Seg.arr IntKind.i8 81 x1, Seg.arr IntKind.i8 16 x2, Seg.one [S.i IntKind.i8 x3]]]) ref05_Checkl4d

theorem ref05_Checkl4_step (f : Nat) (x0 : Int) (x1 : List Int) (x2 : List Int) (x3 : Int) : ref05_Checkl4r (f + 1) x0 x1 x2 x3 = ref05_Checkl4s (ref05_Checkl4r f) x0 x1 x2 x3 := by kernel_rfl

theorem ref05_Checkl4_eq : ∀ f, ref05_Checkl4r f = ref05_Checkl4 f
  | 0 => rfl
  | f + 1 => by funext x0 x1 x2 x3; rw [ref05_Checkl4_step, ref05_Checkl4_eq f]; rfl

noncomputable def ref05_Checkl12r (f : Nat) (x0 : Int) (x1 : Int) (x2 : List Int) (x3 : List Int) (x4 : Int) : Option ((Int × Int × List Int × List Int × Int) ⊕ (Int × List Int × List Int × Int)) := lrun ref05_Checkc 0 [1, 4, 5] [1, 2, 4] (loopOf Tryd.f22 12) f ([V.s (S.ptr 0 0 none 0), V.s (S.i IntKind.i64 x0), V.s (S.i IntKind.i64 x1)]) ([Obj.cells 28 [Seg.arr IntKind.i8 81 x2, Seg.arr IntKind.i8 16 x3, Seg.one [S.i IntKind.i8 x4]]]) ref05_Checkl12d

theorem ref05_Checkl12_step (f : Nat) (x0 : Int) (x1 : Int) (x2 : List Int) (x3 : List Int) (x4 : Int) : ref05_Checkl12r (f + 1) x0 x1 x2 x3 x4 = ref05_Checkl12s (ref05_Checkl12r f) x0 x1 x2 x3 x4 := by kernel_rfl

theorem ref05_Checkl12_eq : ∀ f, ref05_Checkl12r f = ref05_Checkl12 f
  | 0 => rfl
  | f + 1 => by funext x0 x1 x2 x3 x4; rw [ref05_Checkl12_step, ref05_Checkl12_eq f]; rfl

noncomputable def ref05_Checkl9r (f : Nat) (x0 : Int) (x1 : List Int) (x2 : List Int) (x3 : Int) : Option ((Int × List Int × List Int × Int) ⊕ (List Int × List Int × Int)) := lrun ref05_Checkc 0 [1, 4] [1, 2] (loopOf Tryd.f22 9) f ([V.s (S.ptr 0 0 none 0), V.s (S.i IntKind.i64 x0)]) ([Obj.cells 28 [Seg.arr IntKind.i8 81 x1, Seg.arr IntKind.i8 16 x2, Seg.one [S.i IntKind.i8 x3]]]) ref05_Checkl9d

theorem ref05_Checkl9_step (f : Nat) (x0 : Int) (x1 : List Int) (x2 : List Int) (x3 : Int) : ref05_Checkl9r (f + 1) x0 x1 x2 x3 = ref05_Checkl9s (ref05_Checkl9r f) x0 x1 x2 x3 := by kernel_rfl

theorem ref05_Checkl9_eq : ∀ f, ref05_Checkl9r f = ref05_Checkl9 f
  | 0 => rfl
  | f + 1 => by funext x0 x1 x2 x3; rw [ref05_Checkl9_step, ref05_Checkl9_eq f]; rfl

noncomputable def ref05_Checkl20r (f : Nat) (x0 : Int) (x1 : List Int) (x2 : List Int) (x3 : Int) : Option ((Int × List Int × List Int × Int) ⊕ (List Int × List Int × Int)) := lrun ref05_Checkc 0 [1, 7] [1, 2] (loopOf Tryd.f22 20) f ([V.s (S.ptr 0 0 none 0), V.s (S.i IntKind.i64 x0)]) ([Obj.cells 28 [Seg.arr IntKind.i8 81 x1, Seg.arr IntKind.i8 16 x2, Seg.one [S.i IntKind.i8 x3]]]) ref05_Checkl20d

theorem ref05_Checkl20_step (f : Nat) (x0 : Int) (x1 : List Int) (x2 : List Int) (x3 : Int) : ref05_Checkl20r (f + 1) x0 x1 x2 x3 = ref05_Checkl20s (ref05_Checkl20r f) x0 x1 x2 x3 := by kernel_rfl

theorem ref05_Checkl20_eq : ∀ f, ref05_Checkl20r f = ref05_Checkl20 f
  | 0 => rfl
  | f + 1 => by funext x0 x1 x2 x3; rw [ref05_Checkl20_step, ref05_Checkl20_eq f]; rfl

noncomputable def ref05_Checkl25r (f : Nat) (x0 : Int) (x1 : List Int) (x2 : List Int) (x3 : Int) : Option ((Int × List Int × List Int × Int) ⊕ (List Int × List Int × Int)) := lrun ref05_Checkc 0 [1, 8] [1, 2] (loopOf Tryd.f22 25) f ([V.s (S.ptr 0 0 none 0), V.s (S.i IntKind.i64 x0)]) ([Obj.cells 28 [Seg.arr IntKind.i8 81 x1, Seg.arr IntKind.i8 16 x2, Seg.one [S.i IntKind.i8 x3]]]) ref05_Checkl25d

theorem ref05_Checkl25_step (f : Nat) (x0 : Int) (x1 : List Int) (x2 : List Int) (x3 : Int) : ref05_Checkl25r (f + 1) x0 x1 x2 x3 = ref05_Checkl25s (ref05_Checkl25r f) x0 x1 x2 x3 := by kernel_rfl

theorem ref05_Checkl25_eq : ∀ f, ref05_Checkl25r f = ref05_Checkl25 f
  | 0 => rfl
  | f + 1 => by funext x0 x1 x2 x3; rw [ref05_Checkl25_step, ref05_Checkl25_eq f]; rfl

noncomputable def ref05_Checkl30r (f : Nat) (x0 : Int) (x1 : List Int) (x2 : List Int) (x3 : Int) : Option ((Int) ⊕ (Unit)) := lrun ref05_Checkc 0 [1, 9] [2] (loopOf Tryd.f22 30) f ([V.s (S.ptr 0 0 none 0), V.s (S.i IntKind.i64 x0)]) ([Obj.cells 28 [Seg.arr IntKind.i8 81 x1, Seg.arr IntKind.i8 16 x2, Seg.one [S.i IntKind.i8 x3]]]) ref05_Checkl30d

theorem ref05_Checkl30_step (f : Nat) (x0 : Int) (x1 : List Int) (x2 : List Int) (x3 : Int) : ref05_Checkl30r (f + 1) x0 x1 x2 x3 = ref05_Checkl30s (ref05_Checkl30r f) x0 x1 x2 x3 := by kernel_rfl

theorem ref05_Checkl30_eq : ∀ f, ref05_Checkl30r f = ref05_Checkl30 f
  | 0 => rfl
  | f + 1 => by funext x0 x1 x2 x3; rw [ref05_Checkl30_step, ref05_Checkl30_eq f]; rfl

theorem ref05_Checks4 : LoopSound Tryd.prog ref05_Checkc 0 (loopOf Tryd.f22 4) :=
  loopSound_by mixed ref05_Checkc_ok (AllP.of (l' := []) (by kernel_rfl) trivial) (q := 4) (kin := [1, 3]) (kout := [1, 2]) (by kernel_rfl) (by kernel_rfl) fun vs objs K r h => by
    replace h : ref05_Checkp4 vs objs K = some r := h
    unfold ref05_Checkp4 at h
    split at h
    · skip
      obtain ⟨t, h1, h2⟩ := ob_ok h
      rw [← ref05_Checkl4_eq] at h1
      refine ⟨_, ref05_Checkl4d, t, many, h1, fun e vs' objs' hd => ?_⟩
      unfold ref05_Checkl4d at hd
      split at hd
      · skip
        cases hd
        exact h2
      · skip
        cases hd
        exact h2
      · cases hd
    · cases h

theorem ref05_Checks12 : LoopSound Tryd.prog ref05_Checkc 0 (loopOf Tryd.f22 12) :=
  loopSound_by mixed ref05_Checkc_ok (AllP.of (l' := []) (by kernel_rfl) trivial) (q := 12) (kin := [1, 4, 5]) (kout := [1, 2, 4]) (by kernel_rfl) (by kernel_rfl) fun vs objs K r h => by
    replace h : ref05_Checkp12 vs objs K = some r := h
    unfold ref05_Checkp12 at h
    split at h
    · skip
      obtain ⟨t, h1, h2⟩ := ob_ok h
      rw [← ref05_Checkl12_eq] at h1
      refine ⟨_, ref05_Checkl12d, t, many, h1, fun e vs' objs' hd => ?_⟩
      unfold ref05_Checkl12d at hd
      split at hd
      · skip
        cases hd
        exact h2
      · skip
        cases hd
        exact h2
      · cases hd
    · cases h

theorem ref05_Checks20 : LoopSound Tryd.prog ref05_Checkc 0 (loopOf Tryd.f22 20) :=
  loopSound_by mixed ref05_Checkc_ok (AllP.of (l' := []) (by kernel_rfl) trivial) (q := 20) (kin := [1, 7]) (kout := [1, 2]) (by kernel_rfl) (by kernel_rfl) fun vs objs K r h => by
    replace h : ref05_Checkp20 vs objs K = some r := h
    unfold ref05_Checkp20 at h
    split at h
    · skip
      obtain ⟨t, h1, h2⟩ := ob_ok h
      rw [← ref05_Checkl20_eq] at h1
      refine ⟨_, ref05_Checkl20d, t, many, h1, fun e vs' objs' hd => ?_⟩
      unfold ref05_Checkl20d at hd
      split at hd
      · skip
        cases hd
        exact h2
      · skip
        cases hd
        exact h2
      · cases hd
    · cases h

theorem ref05_Checks25 : LoopSound Tryd.prog ref05_Checkc 0 (loopOf Tryd.f22 25) :=
  loopSound_by mixed ref05_Checkc_ok (AllP.of (l' := []) (by kernel_rfl) trivial) (q := 25) (kin := [1, 8]) (kout := [1, 2]) (by kernel_rfl) (by kernel_rfl) fun vs objs K r h => by
    replace h : ref05_Checkp25 vs objs K = some r := h
    unfold ref05_Checkp25 at h
    split at h
    · skip
      obtain ⟨t, h1, h2⟩ := ob_ok h
      rw [← ref05_Checkl25_eq] at h1
      refine ⟨_, ref05_Checkl25d, t, many, h1, fun e vs' objs' hd => ?_⟩
      unfold ref05_Checkl25d at hd
      split at hd
      · skip
        cases hd
        exact h2
      · skip
        cases hd
        exact h2
      · cases hd
    · cases h

theorem ref05_Checks30 : LoopSound Tryd.prog ref05_Checkc 0 (loopOf Tryd.f22 30) :=
  loopSound_by mixed ref05_Checkc_ok (AllP.of (l' := []) (by kernel_rfl) trivial) (q := 30) (kin := [1, 9]) (kout := [2]) (by kernel_rfl) (by kernel_rfl) fun vs objs K r h => by
    replace h : ref05_Checkp30 vs objs K = some r := h
    unfold ref05_Checkp30 at h
    split at h
    · skip
      obtain ⟨t, h1, h2⟩ := ob_ok h
      rw [← ref05_Checkl30_eq] at h1
      refine ⟨_, ref05_Checkl30d, t, many, h1, fun e vs' objs' hd => ?_⟩
      unfold ref05_Checkl30d at hd
      split at hd
      · skip
        cases hd
        exact h2
      · skip
        cases hd
        exact h2
      · cases hd
    · cases h

theorem ref05_Checks9 : LoopSound Tryd.prog ref05_Checkc 0 (loopOf Tryd.f22 9) :=
  loopSound_by mixed ref05_Checkc_ok (AllP.of (l' := [loopOf Tryd.f22 12]) (by kernel_rfl) ⟨ref05_Checks12, trivial⟩) (q := 9) (kin := [1, 4]) (kout := [1, 2]) (by kernel_rfl) (by kernel_rfl) fun vs objs K r h => by
    replace h : ref05_Checkp9 vs objs K = some r := h
    unfold ref05_Checkp9 at h
    split at h
    · skip
      obtain ⟨t, h1, h2⟩ := ob_ok h
      rw [← ref05_Checkl9_eq] at h1
      refine ⟨_, ref05_Checkl9d, t, many, h1, fun e vs' objs' hd => ?_⟩
      unfold ref05_Checkl9d at hd
      split at hd
      · skip
        cases hd
        exact h2
      · skip
        cases hd
        exact h2
      · cases hd
    · cases h

noncomputable def ref05_Checkd : V → List Obj → Option (Int) := fun v objs => match v, objs with
  | V.s (S.i IntKind.i64 y0), [] => some (y0)
  | _, _ => none

theorem ref05_Check_eq (x0 : List Int) (x1 : List Int) (x2 : Int) : fnE ref05_Checkc Tryd.f22 ([V.agg [Seg.arr IntKind.i8 81 x0, Seg.arr IntKind.i8 16 x1, Seg.one [S.i IntKind.i8 x2]]]) ([]) ref05_Checkd = ref05_Check x0 x1 x2 := by kernel_rfl

noncomputable def ref05_Checka {R : Type} (o : Orc) (vs : List V) (objs : List Obj) (K : Bool → V → List Obj → Option R) : Option R := match vs, objs with
  | [V.agg [Seg.arr IntKind.i8 81 x0, Seg.arr IntKind.i8 16 x1, Seg.one [S.i IntKind.i8 x2]]], [] => ob (ref05_Check x0 x1 x2) fun y0 => K false (V.s (S.i IntKind.i64 y0)) ([])
  | _, _ => o 22 vs objs K

noncomputable def ref05_Checko (o : Orc) : Orc := hook 22 (ref05_Checka o) o

theorem ref05_Checko_ok (o : Orc) (ho : OSound Tryd.prog o) : OSound Tryd.prog (ref05_Checko o) := hook_ok ho fun vs objs K r h => by
  unfold ref05_Checka at h
  split at h
  · skip
    obtain ⟨t, h1, h2⟩ := ob_ok h
    refine anyOK_of mixed ref05_Checkc_ok (fn := Tryd.f22) (b := (Tryd.f22).body.getD .skip) (by kernel_rfl) (by kernel_rfl) (by kernel_rfl) ((ref05_Check_eq _ _ _).trans h1) (m := 0) rfl (AllP.of (l' := [loopOf Tryd.f22 4, loopOf Tryd.f22 9, loopOf Tryd.f22 20, loopOf Tryd.f22 25, loopOf Tryd.f22 30]) (by kernel_rfl) ⟨ref05_Checks4, ref05_Checks9, ref05_Checks20, ref05_Checks25, ref05_Checks30, trivial⟩) fun v objs' hd => ?_
    unfold ref05_Checkd at hd
    split at hd
    · skip
      cases hd
      exact h2
    · cases hd
  · exact ho _ _ _ _ _ h

noncomputable def law10_GenTurnsl7d : Ex → List V → List Obj → Option (List Int × List Int × Int × List Int × List Int × Int) := fun e vs objs => match e, vs, objs with
  | Ex.exit 0, [V.s (S.ptr 0 0 none 0), V.s (S.ptr 1 0 none 0)], [Obj.cells 28 [Seg.arr IntKind.i8 81 y0, Seg.arr IntKind.i8 16 y1, Seg.one [S.i IntKind.i8 y2]], Obj.cells 28 [Seg.arr IntKind.i8 81 y3, Seg.arr IntKind.i8 16 y4, Seg.one [S.i IntKind.i8 y5]]] => some (y0, y1, y2, y3, y4, y5)
  | _, _, _ => none

noncomputable def law10_GenTurnsl16d : Ex → List V → List Obj → Option (List Int × List Int × Int × List (List Int × List Int)) := fun e vs objs => match e, vs, objs with
  | Ex.exit 2, [V.s (S.ptr 0 0 none 0), V.s (S.mp 1)], [Obj.cells 28 [Seg.arr IntKind.i8 81 y0, Seg.arr IntKind.i8 16 y1, Seg.one [S.i IntKind.i8 y2]], Obj.map true false [.i .i64, .i .i64, .i .i64, .b] [.b] y3] => some (y0, y1, y2, y3)
  | _, _, _ => none

noncomputable def law10_GenTurnsl22d : Ex → List V → List Obj → Option ((Bool × Nat × List (List Int × List Int) × Nat × List (List Int)) ⊕ (Nat × List (List Int × List Int) × Nat × List (List Int))) := fun e vs objs => match e, vs, objs with
  | Ex.ret, [V.s (S.b y0), V.s (S.mp 0), V.s (S.sl 1 0 y1 true)], [Obj.map true false [.i .i64, .i .i64, .i .i64, .b] [.b] y2, Obj.sli 40 false (Seg.rows [.i .i64, .i .i64, .i .i64, .b] y3 y4)] => some (Sum.inl (y0, y1, y2, y3, y4))
  | Ex.exit 4, [V.s S.bad, V.s (S.mp 0), V.s (S.sl 1 0 y0 true)], [Obj.map true false [.i .i64, .i .i64, .i .i64, .b] [.b] y1, Obj.sli 40 false (Seg.rows [.i .i64, .i .i64, .i .i64, .b] y2 y3)] => some (Sum.inr (y0, y1, y2, y3))
  | _, _, _ => none

noncomputable def law10_GenTurnsp7 {R : Type} (vs : List V) (objs : List Obj) (K : Ex → List V → List Obj → Option R) : Option R := match vs, objs with
  | [V.s (S.ptr 0 0 none 0), V.s (S.ptr 1 0 none 0), V.s (S.i IntKind.i64 x0)], [Obj.cells 28 [Seg.arr IntKind.i8 81 x1, Seg.arr IntKind.i8 16 x2, Seg.one [S.i IntKind.i8 x3]], Obj.cells 28 [Seg.arr IntKind.i8 81 x4, Seg.arr IntKind.i8 16 x5, Seg.one [S.i IntKind.i8 x6]]] => ob (law10_GenTurnsl7 many x0 x1 x2 x3 x4 x5 x6) fun z => K (Ex.exit 0) ([V.s (S.ptr 0 0 none 0), V.s (S.ptr 1 0 none 0)]) ([Obj.cells 28 [Seg.arr IntKind.i8 81 (z.1), Seg.arr IntKind.i8 16 (z.2.1), Seg.one [S.i IntKind.i8 (z.2.2.1)]], Obj.cells 28 [Seg.arr IntKind.i8 81 (z.2.2.2.1), Seg.arr IntKind.i8 16 (z.2.2.2.2.1), Seg.one [S.i IntKind.i8 (z.2.2.2.2.2)]]])
  | _, _ => none

noncomputable def law10_GenTurnsp16 {R : Type} (vs : List V) (objs : List Obj) (K : Ex → List V → List Obj → Option R) : Option R := match vs, objs with
  | [V.s (S.ptr 0 0 none 0), V.s (S.mp 1), V.s (S.sl 2 0 x0 true), V.s (S.i IntKind.i64 x1), V.s (S.i IntKind.i64 x2)], [Obj.cells 28 [Seg.arr IntKind.i8 81 x3, Seg.arr IntKind.i8 16 x4, Seg.one [S.i IntKind.i8 x5]], Obj.map true false [.i .i64, .i .i64, .i .i64, .b] [.b] x6, Obj.sli 40 false (Seg.rows [.i .i64, .i .i64, .i .i64, .b] x7 x8)] => ob (law10_GenTurnsl16 many x0 x1 x2 x3 x4 x5 x6 x7 x8) fun z => K (Ex.exit 2) ([V.s (S.ptr 0 0 none 0), V.s (S.mp 1)]) ([Obj.cells 28 [Seg.arr IntKind.i8 81 (z.1), Seg.arr IntKind.i8 16 (z.2.1), Seg.one [S.i IntKind.i8 (z.2.2.1)]], Obj.map true false [.i .i64, .i .i64, .i .i64, .b] [.b] (z.2.2.2)])
  | _, _ => none

noncomputable def law10_GenTurnsp22 {R : Type} (vs : List V) (objs : List Obj) (K : Ex → List V → List Obj → Option R) : Option R := match vs, objs with
  | [V.s (S.mp 0), V.s (S.sl 1 0 x0 true), V.s (S.sl 1 0 x1 true), V.s (S.i IntKind.i64 x2), V.s (S.i IntKind.i64 x3)], [Obj.map true false [.i .i64, .i .i64, .i .i64, .b] [.b] x4, Obj.sli 40 false (Seg.rows [.i .i64, .i .i64, .i .i64, .b] x5 x6)] => ob (law10_GenTurnsl22 many x0 x1 x2 x3 x4 x5 x6) fun t0 => sw t0 (fun z => K (Ex.ret) ([V.s (S.b (z.1)), V.s (S.mp 0), V.s (S.sl 1 0 (z.2.1) true)]) ([Obj.map true false [.i .i64, .i .i64, .i .i64, .b] [.b] (z.2.2.1), Obj.sli 40 false (Seg.rows [.i .i64, .i .i64, .i .i64, .b] (z.2.2.2.1) (z.2.2.2.2))])) (fun z => K (Ex.exit 4) ([V.s S.bad, V.s (S.mp 0), V.s (S.sl 1 0 (z.1) true)]) ([Obj.map true false [.i .i64, .i .i64, .i .i64, .b] [.b] (z.2.1), Obj.sli 40 false (Seg.rows [.i .i64, .i .i64, .i .i64, .b] (z.2.2.1) (z.2.2.2))]))
  | _, _ => none

noncomputable def law10_GenTurnslp : {R : Type} → Nat → List V → List Obj → (Ex → List V → List Obj → Option R) → Option R := fun q vs objs K => bif Nat.beq q 7 then law10_GenTurnsp7 vs objs K else bif Nat.beq q 16 then law10_GenTurnsp16 vs objs K else bif Nat.beq q 22 then law10_GenTurnsp22 vs objs K else none

noncomputable def law10_GenTurnsc : Ctx := mkC 104 ((gen_Allo (board_Newo (ref02_Sideo (ref05_Checko (law10_listso oNil)))))) [(7, [1, 3, 4], [1, 3]), (16, [1, 6, 61, 62, 63], [1, 6]), (22, [6, 9, 73, 74, 75], [2, 6, 9])] law10_GenTurnslp

theorem law10_GenTurnsc_ok : CtxOK Tryd.prog law10_GenTurnsc := mkC_ok ((gen_Allo_ok _ (board_Newo_ok _ (ref02_Sideo_ok _ (ref05_Checko_ok _ (law10_listso_ok _ oNil_ok))))))

noncomputable def law10_GenTurnsl7r (f : Nat) (x0 : Int) (x1 : List Int) (x2 : List Int) (x3 : Int) (x4 : List Int) (x5 : List Int) (x6 : Int) : Option (List Int × List Int × Int × List Int × List Int × Int) := lrun law10_GenTurnsc 0 [1, 3, 4] [1, 3] (loopOf Tryd.f7 7) f ([V.s (S.ptr 0 0 none 0), V.s (S.ptr 1 0 none 0), V.s (S.i IntKind.i64 x0)]) ([Obj.cells 28 [Seg.arr IntKind.i8 81 x1, Seg.arr IntKind.i8 16 x2, Seg.one [S.i IntKind.i8 x3]], Obj.cells 28 [Seg.arr IntKind.i8 81 x4, Seg.arr IntKind.i8 16 x5, Seg.one [S.i IntKind.i8 x6]]]) law10_GenTurnsl7d

theorem law10_GenTurnsl7_step (f : Nat) (x0 : Int) (x1 : List Int) (x2 : List Int) (x3 : Int) (x4 : List Int) (x5 : List Int) (x6 : Int) : law10_GenTurnsl7r (f + 1) x0 x1 x2 x3 x4 x5 x6 = law10_GenTurnsl7s (law10_GenTurnsl7r f) x0 x1 x2 x3 x4 x5 x6 := by kernel_rfl

theorem law10_GenTurnsl7_eq : ∀ f, law10_GenTurnsl7r f = law10_GenTurnsl7 f
  | 0 => rfl
  | f + 1 => by funext x0 x1 x2 x3 x4 x5 x6; rw [law10_GenTurnsl7_step, law10_GenTurnsl7_eq f]; rfl

noncomputable def law10_GenTurnsl16r (f : Nat) (x0 : Nat) (x1 : Int) (x2 : Int) (x3 : List Int) (x4 : List Int) (x5 : Int) (x6 : List (List Int × List Int)) (x7 : Nat) (x8 : List (List Int)) : Option (List Int × List Int × Int × List (List Int × List Int)) := lrun law10_GenTurnsc 0 [1, 6, 61, 62, 63] [1, 6] (loopOf Tryd.f7 16) f ([V.s (S.ptr 0 0 none 0), V.s (S.mp 1), V.s (S.sl 2 0 x0 true), V.s (S.i IntKind.i64 x1), V.s (S.i IntKind.i64 x2)]) ([Obj.cells 28 [Seg.arr IntKind.i8 81 x3, Seg.arr IntKind.i8 16 x4, Seg.one [S.i IntKind.i8 x5]], Obj.map true false [.i .i64, .i .i64, .i .i64, .b] [.b] x6, Obj.sli 40 false (Seg.rows [.i .i64, .i .i64, .i .i64, .b] x7 x8)]) law10_GenTurnsl16d

theorem law10_GenTurnsl16_step (f : Nat) (x0 : Nat) (x1 : Int) (x2 : Int) (x3 : List Int) (x4 : List Int) (x5 : Int) (x6 : List (List Int × List Int)) (x7 : Nat) (x8 : List (List Int)) : law10_GenTurnsl16r (f + 1) x0 x1 x2 x3 x4 x5 x6 x7 x8 = law10_GenTurnsl16s (law10_GenTurnsl16r f) x0 x1 x2 x3 x4 x5 x6 x7 x8 := by kernel_rfl

theorem law10_GenTurnsl16_eq : ∀ f, law10_GenTurnsl16r f = law10_GenTurnsl16 f
  | 0 => rfl
  | f + 1 => by funext x0 x1 x2 x3 x4 x5 x6 x7 x8; rw [law10_GenTurnsl16_step, law10_GenTurnsl16_eq f]; rfl

noncomputable def law10_GenTurnsl22r (f : Nat) (x0 : Nat) (x1 : Nat) (x2 : Int) (x3 : Int) (x4 : List (List Int × List Int)) (x5 : Nat) (x6 : List (List Int)) : Option ((Bool × Nat × List (List Int × List Int) × Nat × List (List Int)) ⊕ (Nat × List (List Int × List Int) × Nat × List (List Int))) := lrun law10_GenTurnsc 0 [6, 9, 73, 74, 75] [2, 6, 9] (loopOf Tryd.f7 22) f ([V.s (S.mp 0), V.s (S.sl 1 0 x0 true), V.s (S.sl 1 0 x1 true), V.s (S.i IntKind.i64 x2), V.s (S.i IntKind.i64 x3)]) ([Obj.map true false [.i .i64, .i .i64, .i .i64, .b] [.b] x4, Obj.sli 40 false (Seg.rows [.i .i64, .i .i64, .i .i64, .b] x5 x6)]) law10_GenTurnsl22d

theorem law10_GenTurnsl22_step (f : Nat) (x0 : Nat) (x1 : Nat) (x2 : Int) (x3 : Int) (x4 : List (List Int × List Int)) (x5 : Nat) (x6 : List (List Int)) : law10_GenTurnsl22r (f + 1) x0 x1 x2 x3 x4 x5 x6 = law10_GenTurnsl22s (law10_GenTurnsl22r f) x0 x1 x2 x3 x4 x5 x6 := by kernel_rfl

theorem law10_GenTurnsl22_eq : ∀ f, law10_GenTurnsl22r f = law10_GenTurnsl22 f
  | 0 => rfl
  | f + 1 => by funext x0 x1 x2 x3 x4 x5 x6; rw [law10_GenTurnsl22_step, law10_GenTurnsl22_eq f]; rfl

theorem law10_GenTurnss7 : LoopSound Tryd.prog law10_GenTurnsc 0 (loopOf Tryd.f7 7) :=
  loopSound_by mixed law10_GenTurnsc_ok (AllP.of (l' := []) (by kernel_rfl) trivial) (q := 7) (kin := [1, 3, 4]) (kout := [1, 3]) (by kernel_rfl) (by kernel_rfl) fun vs objs K r h => by
    replace h : law10_GenTurnsp7 vs objs K = some r := h
    unfold law10_GenTurnsp7 at h
    split at h
    · skip
      obtain ⟨t, h1, h2⟩ := ob_ok h
      rw [← law10_GenTurnsl7_eq] at h1
      refine ⟨_, law10_GenTurnsl7d, t, many, h1, fun e vs' objs' hd => ?_⟩
      unfold law10_GenTurnsl7d at hd
      split at hd
      · skip
        cases hd
        exact h2
      · cases hd
    · cases h

theorem law10_GenTurnss16 : LoopSound Tryd.prog law10_GenTurnsc 0 (loopOf Tryd.f7 16) :=
  loopSound_by mixed law10_GenTurnsc_ok (AllP.of (l' := []) (by kernel_rfl) trivial) (q := 16) (kin := [1, 6, 61, 62, 63]) (kout := [1, 6]) (by kernel_rfl) (by kernel_rfl) fun vs objs K r h => by
    replace h : law10_GenTurnsp16 vs objs K = some r := h
    unfold law10_GenTurnsp16 at h
    split at h
    · skip
      obtain ⟨t, h1, h2⟩ := ob_ok h
      rw [← law10_GenTurnsl16_eq] at h1
      refine ⟨_, law10_GenTurnsl16d, t, many, h1, fun e vs' objs' hd => ?_⟩
      unfold law10_GenTurnsl16d at hd
      split at hd
      · skip
        cases hd
        exact h2
      · cases hd
    · cases h

theorem law10_GenTurnss22 : LoopSound Tryd.prog law10_GenTurnsc 0 (loopOf Tryd.f7 22) :=
  loopSound_by mixed law10_GenTurnsc_ok (AllP.of (l' := []) (by kernel_rfl) trivial) (q := 22) (kin := [6, 9, 73, 74, 75]) (kout := [2, 6, 9]) (by kernel_rfl) (by kernel_rfl) fun vs objs K r h => by
    replace h : law10_GenTurnsp22 vs objs K = some r := h
    unfold law10_GenTurnsp22 at h
    split at h
    · skip
      obtain ⟨t, h1, h2⟩ := ob_ok h
      rw [← law10_GenTurnsl22_eq] at h1
      refine ⟨_, law10_GenTurnsl22d, t, many, h1, fun e vs' objs' hd => ?_⟩
      unfold law10_GenTurnsl22d at hd
      split at hd
      · skip
        cases hd
        exact h2
      · skip
        cases hd
        exact h2
      · cases hd
    · cases h

noncomputable def law10_GenTurnsd : V → List Obj → Option (Bool) := fun v objs => match v, objs with
  | V.s (S.b y0), [] => some (y0)
  | _, _ => none

theorem law10_GenTurns_eq (x0 : List Int) (x1 : List Int) (x2 : Int) : fnE law10_GenTurnsc Tryd.f7 ([V.agg [Seg.arr IntKind.i8 81 x0, Seg.arr IntKind.i8 16 x1, Seg.one [S.i IntKind.i8 x2]]]) ([]) law10_GenTurnsd = law10_GenTurns x0 x1 x2 := by kernel_rfl

noncomputable def law10_GenTurnsa {R : Type} (o : Orc) (vs : List V) (objs : List Obj) (K : Bool → V → List Obj → Option R) : Option R := match vs, objs with
  | [V.agg [Seg.arr IntKind.i8 81 x0, Seg.arr IntKind.i8 16 x1, Seg.one [S.i IntKind.i8 x2]]], [] => ob (law10_GenTurns x0 x1 x2) fun y0 => K false (V.s (S.b y0)) ([])
  | _, _ => o 7 vs objs K

noncomputable def law10_GenTurnso (o : Orc) : Orc := hook 7 (law10_GenTurnsa o) o

theorem law10_GenTurns_ok {vs : List V} {objs : List Obj} (x0 : List Int) (x1 : List Int) (x2 : Int) {R : Type} {K : Bool → V → List Obj → Option R} {r : R} (hv : vs = [V.agg [Seg.arr IntKind.i8 81 x0, Seg.arr IntKind.i8 16 x1, Seg.one [S.i IntKind.i8 x2]]]) (ho : objs = []) (h : ob (law10_GenTurns x0 x1 x2) (fun y0 => K false (V.s (S.b y0)) ([])) = some r) :
    ∃ p v objs', K p v objs' = some r ∧ AnyOK Tryd.prog 7 vs objs p v objs' := by
  subst hv
  subst ho
  obtain ⟨t, h1, h2⟩ := ob_ok h
  refine anyOK_of mixed law10_GenTurnsc_ok (fn := Tryd.f7) (b := (Tryd.f7).body.getD .skip) (by kernel_rfl) (by kernel_rfl) (by kernel_rfl) ((law10_GenTurns_eq _ _ _).trans h1) (m := 0) rfl (AllP.of (l' := [loopOf Tryd.f7 7, loopOf Tryd.f7 16, loopOf Tryd.f7 22]) (by kernel_rfl) ⟨law10_GenTurnss7, law10_GenTurnss16, law10_GenTurnss22, trivial⟩) fun v objs' hd => ?_
  unfold law10_GenTurnsd at hd
  split at hd
  · skip
    cases hd
    exact h2
  · cases hd

theorem law10_GenTurnso_ok (o : Orc) (ho : OSound Tryd.prog o) : OSound Tryd.prog (law10_GenTurnso o) := hook_ok ho fun vs objs K r h => by
  unfold law10_GenTurnsa at h
  split at h
  · skip
    obtain ⟨t, h1, h2⟩ := ob_ok h
    refine anyOK_of mixed law10_GenTurnsc_ok (fn := Tryd.f7) (b := (Tryd.f7).body.getD .skip) (by kernel_rfl) (by kernel_rfl) (by kernel_rfl) ((law10_GenTurns_eq _ _ _).trans h1) (m := 0) rfl (AllP.of (l' := [loopOf Tryd.f7 7, loopOf Tryd.f7 16, loopOf Tryd.f7 22]) (by kernel_rfl) ⟨law10_GenTurnss7, law10_GenTurnss16, law10_GenTurnss22, trivial⟩) fun v objs' hd => ?_
    unfold law10_GenTurnsd at hd
    split at hd
    · skip
      cases hd
      exact h2
    · cases hd
  · exact ho _ _ _ _ _ h


end Go.Kk.KkGM
