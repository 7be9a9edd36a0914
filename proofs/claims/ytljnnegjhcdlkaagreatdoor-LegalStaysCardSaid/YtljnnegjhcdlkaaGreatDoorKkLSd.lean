/- Printed by a tool of this project (KkGen): the program's functions come to the plain ones. -/
import Derived.Test.YtljnnegjhcdlkaaGreatDoorKkLSc
namespace Go.Kk.KkLS
open Go.Proofs Go.Kk.Pl
set_option maxRecDepth 100000
set_option maxHeartbeats 4000000
noncomputable def move_Checkc : Ctx := mkC 48 (oNil) [] lpNil
theorem move_Checkc_ok : CtxOK Tryz.prog move_Checkc := mkC_ok (oNil_ok)
noncomputable def move_Checkd : V → List Obj → Option (Int) := fun v objs => match v, objs with
  | V.s (S.i IntKind.i64 y0), [] => some (y0)
  | _, _ => none
theorem move_Check_eq (x0 x1 x2 : Int) (x3 : Bool) : fnE move_Checkc Tryz.f107 ([V.agg [Seg.one [S.i IntKind.i64 x0, S.i IntKind.i64 x1, S.i IntKind.i64 x2, S.b x3]]]) ([]) move_Checkd = move_Check x0 x1 x2 x3 := by kernel_rfl
noncomputable def move_Checka {R : Type} (o : Orc) (vs : List V) (objs : List Obj) (K : Bool → V → List Obj → Option R) : Option R := match vs, objs with
  | [V.agg [Seg.one [S.i IntKind.i64 x0, S.i IntKind.i64 x1, S.i IntKind.i64 x2, S.b x3]]], [] => ob (move_Check x0 x1 x2 x3) fun y0 => K false (V.s (S.i IntKind.i64 y0)) ([])
  | _, _ => o 107 vs objs K
noncomputable def move_Checko (o : Orc) : Orc := hook 107 (move_Checka o) o
theorem move_Checko_ok (o : Orc) (ho : OSound Tryz.prog o) : OSound Tryz.prog (move_Checko o) := hook_ok ho fun vs objs K r h => by
  unfold move_Checka at h
  split at h
  · skip
    obtain ⟨t, h1, h2⟩ := ob_ok h
    refine anyOK_of mixed move_Checkc_ok (fn := Tryz.f107) (b := (Tryz.f107).body.getD .skip) (by kernel_rfl) (by kernel_rfl) (by kernel_rfl) ((move_Check_eq _ _ _ _).trans h1) (m := 0) rfl (AllP.of (l' := []) (by kernel_rfl) trivial) fun v objs' hd => ?_
    unfold move_Checkd at hd
    split at hd
    · skip
      cases hd
      exact h2
    · cases hd
  · exact ho _ _ _ _ _ h
noncomputable def deed_Game_Canc : Ctx := mkC 104 ((piece_Upo (piece_Kindo (piece_Sideo (board_Ato (board_Hando (move_Checko oNil))))))) [] lpNil
theorem deed_Game_Canc_ok : CtxOK Tryz.prog deed_Game_Canc := mkC_ok ((piece_Upo_ok _ (piece_Kindo_ok _ (piece_Sideo_ok _ (board_Ato_ok _ (board_Hando_ok _ (move_Checko_ok _ oNil_ok)))))))
noncomputable def deed_Game_Cand : V → List Obj → Option (Bool) := fun v objs => match v, objs with
  | V.s (S.b y0), [] => some (y0)
  | _, _ => none
theorem deed_Game_Can_eq (x0 x1 x2 : Int) (x3 : Bool) (x4 : Int) (x5 : Nat) (x6 x7 : List Int) (x8 : Int) (x9 x10 : List (List Int)) (x11 : Nat) (x12 : List (List Int)) : fnE deed_Game_Canc Tryz.f67 ([V.s (S.ptr 0 0 none 0), V.agg [Seg.one [S.i IntKind.i64 x0, S.i IntKind.i64 x1, S.i IntKind.i64 x2, S.b x3]]]) ([Obj.rcells 50 [Seg.one [S.ptr 1 0 none 0, S.i IntKind.u64 x4, S.sl 2 0 x5 true]], Obj.rcells 56 [Seg.arr IntKind.i8 81 x6, Seg.arr IntKind.i8 16 x7, Seg.one [S.i IntKind.i8 x8], Seg.rows [.i .u64, .i .u64] 32 x9, Seg.rows [.i .u64, .i .u64] 2 x10], Obj.sli 92 true (Seg.rows [.i .i64, .i .i64, .i .i64, .b, .i .i8, .i .i8] x11 x12)]) (pureD 3 deed_Game_Cand) = deed_Game_Can x0 x1 x2 x3 x4 x5 x6 x7 x8 x9 x10 x11 x12 := by kernel_rfl
noncomputable def deed_Game_Cana {R : Type} (o : Orc) (vs : List V) (objs : List Obj) (K : Bool → V → List Obj → Option R) : Option R := match vs, List.map Obj.toRO objs with
  | [V.s (S.ptr 0 0 none 0), V.agg [Seg.one [S.i IntKind.i64 x0, S.i IntKind.i64 x1, S.i IntKind.i64 x2, S.b x3]]], [Obj.rcells 50 [Seg.one [S.ptr 1 0 none 0, S.i IntKind.u64 x4, S.sl 2 0 x5 true]], Obj.rcells 56 [Seg.arr IntKind.i8 81 x6, Seg.arr IntKind.i8 16 x7, Seg.one [S.i IntKind.i8 x8], Seg.rows [.i .u64, .i .u64] 32 x9, Seg.rows [.i .u64, .i .u64] 2 x10], Obj.sli 92 true (Seg.rows [.i .i64, .i .i64, .i .i64, .b, .i .i8, .i .i8] x11 x12)] => ob (deed_Game_Can x0 x1 x2 x3 x4 x5 x6 x7 x8 x9 x10 x11 x12) fun y0 => K true (V.s (S.b y0)) ([])
  | _, _ => o 67 vs objs K
noncomputable def deed_Game_Cano (o : Orc) : Orc := hook 67 (deed_Game_Cana o) o
theorem deed_Game_Cano_ok (o : Orc) (ho : OSound Tryz.prog o) : OSound Tryz.prog (deed_Game_Cano o) := hook_ok ho fun vs objs K r h => by
  unfold deed_Game_Cana at h
  split at h
  · skip
    have hq : List.map Obj.toRO objs = _ := (by rename_i hq; first | exact hq | assumption)
    obtain ⟨t, h1, h2⟩ := ob_ok h
    refine purOK_by mixed deed_Game_Canc_ok (m := 3) (fn := Tryz.f67) (b := (Tryz.f67).body.getD .skip) (by kernel_rfl) (by kernel_rfl) (by kernel_rfl) hq (by kernel_rfl) (by kernel_rfl) (AllP.of (l' := []) (by kernel_rfl) trivial) ((deed_Game_Can_eq _ _ _ _ _ _ _ _ _ _ _ _ _).trans h1) fun v objs' hd => ?_
    unfold deed_Game_Cand at hd
    split at hd
    · skip
      cases hd
      exact h2
    · cases hd
  · exact ho _ _ _ _ _ h
noncomputable def deed_Game_handc : Ctx := mkC 54 ((key_Hando (board_Hando oNil))) [] lpNil
theorem deed_Game_handc_ok : CtxOK Tryz.prog deed_Game_handc := mkC_ok ((key_Hando_ok _ (board_Hando_ok _ oNil_ok)))
noncomputable def deed_Game_handd : V → List Obj → Option (Int × Nat × List Int × List Int × Int × List (List Int) × List (List Int) × Nat × List (List Int)) := fun v objs => match v, objs with
  | V.tup [], [Obj.cells 50 [Seg.one [S.ptr 1 0 none 0, S.i IntKind.u64 y0, S.sl 2 0 y1 true]], Obj.cells 56 [Seg.arr IntKind.i8 81 y2, Seg.arr IntKind.i8 16 y3, Seg.one [S.i IntKind.i8 y4], Seg.rows [.i .u64, .i .u64] 32 y5, Seg.rows [.i .u64, .i .u64] 2 y6], Obj.sli 92 false (Seg.rows [.i .i64, .i .i64, .i .i64, .b, .i .i8, .i .i8] y7 y8)] => some (y0, y1, y2, y3, y4, y5, y6, y7, y8)
  | _, _ => none
theorem deed_Game_hand_eq (x0 x1 : Int) (x2 x3 : Int) (x4 : Nat) (x5 x6 : List Int) (x7 : Int) (x8 x9 : List (List Int)) (x10 : Nat) (x11 : List (List Int)) : fnE deed_Game_handc Tryz.f70 ([V.s (S.ptr 0 0 none 0), V.s (S.i IntKind.i64 x0), V.s (S.i IntKind.i64 x1), V.s (S.i IntKind.i64 x2)]) ([Obj.cells 50 [Seg.one [S.ptr 1 0 none 0, S.i IntKind.u64 x3, S.sl 2 0 x4 true]], Obj.cells 56 [Seg.arr IntKind.i8 81 x5, Seg.arr IntKind.i8 16 x6, Seg.one [S.i IntKind.i8 x7], Seg.rows [.i .u64, .i .u64] 32 x8, Seg.rows [.i .u64, .i .u64] 2 x9], Obj.sli 92 false (Seg.rows [.i .i64, .i .i64, .i .i64, .b, .i .i8, .i .i8] x10 x11)]) deed_Game_handd = deed_Game_hand x0 x1 x2 x3 x4 x5 x6 x7 x8 x9 x10 x11 := by kernel_rfl
noncomputable def deed_Game_handa {R : Type} (o : Orc) (vs : List V) (objs : List Obj) (K : Bool → V → List Obj → Option R) : Option R := match vs, objs with
  | [V.s (S.ptr 0 0 none 0), V.s (S.i IntKind.i64 x0), V.s (S.i IntKind.i64 x1), V.s (S.i IntKind.i64 x2)], [Obj.cells 50 [Seg.one [S.ptr 1 0 none 0, S.i IntKind.u64 x3, S.sl 2 0 x4 true]], Obj.cells 56 [Seg.arr IntKind.i8 81 x5, Seg.arr IntKind.i8 16 x6, Seg.one [S.i IntKind.i8 x7], Seg.rows [.i .u64, .i .u64] 32 x8, Seg.rows [.i .u64, .i .u64] 2 x9], Obj.sli 92 false (Seg.rows [.i .i64, .i .i64, .i .i64, .b, .i .i8, .i .i8] x10 x11)] => ob (deed_Game_hand x0 x1 x2 x3 x4 x5 x6 x7 x8 x9 x10 x11) fun z => K false (V.tup []) ([Obj.cells 50 [Seg.one [S.ptr 1 0 none 0, S.i IntKind.u64 (z.1), S.sl 2 0 (z.2.1) true]], Obj.cells 56 [Seg.arr IntKind.i8 81 (z.2.2.1), Seg.arr IntKind.i8 16 (z.2.2.2.1), Seg.one [S.i IntKind.i8 (z.2.2.2.2.1)], Seg.rows [.i .u64, .i .u64] 32 (z.2.2.2.2.2.1), Seg.rows [.i .u64, .i .u64] 2 (z.2.2.2.2.2.2.1)], Obj.sli 92 false (Seg.rows [.i .i64, .i .i64, .i .i64, .b, .i .i8, .i .i8] (z.2.2.2.2.2.2.2.1) (z.2.2.2.2.2.2.2.2))])
  | _, _ => o 70 vs objs K
noncomputable def deed_Game_hando (o : Orc) : Orc := hook 70 (deed_Game_handa o) o
theorem deed_Game_hando_ok (o : Orc) (ho : OSound Tryz.prog o) : OSound Tryz.prog (deed_Game_hando o) := hook_ok ho fun vs objs K r h => by
  unfold deed_Game_handa at h
  split at h
  · skip
    obtain ⟨t, h1, h2⟩ := ob_ok h
    refine anyOK_of mixed deed_Game_handc_ok (fn := Tryz.f70) (b := (Tryz.f70).body.getD .skip) (by kernel_rfl) (by kernel_rfl) (by kernel_rfl) ((deed_Game_hand_eq _ _ _ _ _ _ _ _ _ _ _ _).trans h1) (m := 3) rfl (AllP.of (l' := []) (by kernel_rfl) trivial) fun v objs' hd => ?_
    unfold deed_Game_handd at hd
    split at hd
    · skip
      cases hd
      exact h2
    · cases hd
  · exact ho _ _ _ _ _ h
noncomputable def deed_Game_putc : Ctx := mkC 32 ((board_Puto (key_Pieceo (board_Ato oNil)))) [] lpNil
theorem deed_Game_putc_ok : CtxOK Tryz.prog deed_Game_putc := mkC_ok ((board_Puto_ok _ (key_Pieceo_ok _ (board_Ato_ok _ oNil_ok))))
noncomputable def deed_Game_putd : V → List Obj → Option (Int × Nat × List Int × List Int × Int × List (List Int) × List (List Int) × Nat × List (List Int)) := fun v objs => match v, objs with
  | V.tup [], [Obj.cells 50 [Seg.one [S.ptr 1 0 none 0, S.i IntKind.u64 y0, S.sl 2 0 y1 true]], Obj.cells 56 [Seg.arr IntKind.i8 81 y2, Seg.arr IntKind.i8 16 y3, Seg.one [S.i IntKind.i8 y4], Seg.rows [.i .u64, .i .u64] 32 y5, Seg.rows [.i .u64, .i .u64] 2 y6], Obj.sli 92 false (Seg.rows [.i .i64, .i .i64, .i .i64, .b, .i .i8, .i .i8] y7 y8)] => some (y0, y1, y2, y3, y4, y5, y6, y7, y8)
  | _, _ => none
theorem deed_Game_put_eq (x0 x1 x2 : Int) (x3 : Nat) (x4 x5 : List Int) (x6 : Int) (x7 x8 : List (List Int)) (x9 : Nat) (x10 : List (List Int)) : fnE deed_Game_putc Tryz.f71 ([V.s (S.ptr 0 0 none 0), V.s (S.i IntKind.i64 x0), V.s (S.i IntKind.i8 x1)]) ([Obj.cells 50 [Seg.one [S.ptr 1 0 none 0, S.i IntKind.u64 x2, S.sl 2 0 x3 true]], Obj.cells 56 [Seg.arr IntKind.i8 81 x4, Seg.arr IntKind.i8 16 x5, Seg.one [S.i IntKind.i8 x6], Seg.rows [.i .u64, .i .u64] 32 x7, Seg.rows [.i .u64, .i .u64] 2 x8], Obj.sli 92 false (Seg.rows [.i .i64, .i .i64, .i .i64, .b, .i .i8, .i .i8] x9 x10)]) deed_Game_putd = deed_Game_put x0 x1 x2 x3 x4 x5 x6 x7 x8 x9 x10 := by kernel_rfl
noncomputable def deed_Game_puta {R : Type} (o : Orc) (vs : List V) (objs : List Obj) (K : Bool → V → List Obj → Option R) : Option R := match vs, objs with
  | [V.s (S.ptr 0 0 none 0), V.s (S.i IntKind.i64 x0), V.s (S.i IntKind.i8 x1)], [Obj.cells 50 [Seg.one [S.ptr 1 0 none 0, S.i IntKind.u64 x2, S.sl 2 0 x3 true]], Obj.cells 56 [Seg.arr IntKind.i8 81 x4, Seg.arr IntKind.i8 16 x5, Seg.one [S.i IntKind.i8 x6], Seg.rows [.i .u64, .i .u64] 32 x7, Seg.rows [.i .u64, .i .u64] 2 x8], Obj.sli 92 false (Seg.rows [.i .i64, .i .i64, .i .i64, .b, .i .i8, .i .i8] x9 x10)] => ob (deed_Game_put x0 x1 x2 x3 x4 x5 x6 x7 x8 x9 x10) fun z => K false (V.tup []) ([Obj.cells 50 [Seg.one [S.ptr 1 0 none 0, S.i IntKind.u64 (z.1), S.sl 2 0 (z.2.1) true]], Obj.cells 56 [Seg.arr IntKind.i8 81 (z.2.2.1), Seg.arr IntKind.i8 16 (z.2.2.2.1), Seg.one [S.i IntKind.i8 (z.2.2.2.2.1)], Seg.rows [.i .u64, .i .u64] 32 (z.2.2.2.2.2.1), Seg.rows [.i .u64, .i .u64] 2 (z.2.2.2.2.2.2.1)], Obj.sli 92 false (Seg.rows [.i .i64, .i .i64, .i .i64, .b, .i .i8, .i .i8] (z.2.2.2.2.2.2.2.1) (z.2.2.2.2.2.2.2.2))])
  | _, _ => o 71 vs objs K
noncomputable def deed_Game_puto (o : Orc) : Orc := hook 71 (deed_Game_puta o) o
theorem deed_Game_puto_ok (o : Orc) (ho : OSound Tryz.prog o) : OSound Tryz.prog (deed_Game_puto o) := hook_ok ho fun vs objs K r h => by
  unfold deed_Game_puta at h
  split at h
  · skip
    obtain ⟨t, h1, h2⟩ := ob_ok h
    refine anyOK_of mixed deed_Game_putc_ok (fn := Tryz.f71) (b := (Tryz.f71).body.getD .skip) (by kernel_rfl) (by kernel_rfl) (by kernel_rfl) ((deed_Game_put_eq _ _ _ _ _ _ _ _ _ _ _).trans h1) (m := 3) rfl (AllP.of (l' := []) (by kernel_rfl) trivial) fun v objs' hd => ?_
    unfold deed_Game_putd at hd
    split at hd
    · skip
      cases hd
      exact h2
    · cases hd
  · exact ho _ _ _ _ _ h
noncomputable def deed_Game_turnc : Ctx := mkC 26 ((key_Sideo oNil)) [] lpNil
theorem deed_Game_turnc_ok : CtxOK Tryz.prog deed_Game_turnc := mkC_ok ((key_Sideo_ok _ oNil_ok))
noncomputable def deed_Game_turnd : V → List Obj → Option (Int × Nat × List Int × List Int × Int × List (List Int) × List (List Int) × Nat × List (List Int)) := fun v objs => match v, objs with
  | V.tup [], [Obj.cells 50 [Seg.one [S.ptr 1 0 none 0, S.i IntKind.u64 y0, S.sl 2 0 y1 true]], Obj.cells 56 [Seg.arr IntKind.i8 81 y2, Seg.arr IntKind.i8 16 y3, Seg.one [S.i IntKind.i8 y4], Seg.rows [.i .u64, .i .u64] 32 y5, Seg.rows [.i .u64, .i .u64] 2 y6], Obj.sli 92 false (Seg.rows [.i .i64, .i .i64, .i .i64, .b, .i .i8, .i .i8] y7 y8)] => some (y0, y1, y2, y3, y4, y5, y6, y7, y8)
  | _, _ => none
theorem deed_Game_turn_eq (x0 : Int) (x1 : Nat) (x2 x3 : List Int) (x4 : Int) (x5 x6 : List (List Int)) (x7 : Nat) (x8 : List (List Int)) : fnE deed_Game_turnc Tryz.f74 ([V.s (S.ptr 0 0 none 0)]) ([Obj.cells 50 [Seg.one [S.ptr 1 0 none 0, S.i IntKind.u64 x0, S.sl 2 0 x1 true]], Obj.cells 56 [Seg.arr IntKind.i8 81 x2, Seg.arr IntKind.i8 16 x3, Seg.one [S.i IntKind.i8 x4], Seg.rows [.i .u64, .i .u64] 32 x5, Seg.rows [.i .u64, .i .u64] 2 x6], Obj.sli 92 false (Seg.rows [.i .i64, .i .i64, .i .i64, .b, .i .i8, .i .i8] x7 x8)]) deed_Game_turnd = deed_Game_turn x0 x1 x2 x3 x4 x5 x6 x7 x8 := by kernel_rfl
noncomputable def deed_Game_turna {R : Type} (o : Orc) (vs : List V) (objs : List Obj) (K : Bool → V → List Obj → Option R) : Option R := match vs, objs with
  | [V.s (S.ptr 0 0 none 0)], [Obj.cells 50 [Seg.one [S.ptr 1 0 none 0, S.i IntKind.u64 x0, S.sl 2 0 x1 true]], Obj.cells 56 [Seg.arr IntKind.i8 81 x2, Seg.arr IntKind.i8 16 x3, Seg.one [S.i IntKind.i8 x4], Seg.rows [.i .u64, .i .u64] 32 x5, Seg.rows [.i .u64, .i .u64] 2 x6], Obj.sli 92 false (Seg.rows [.i .i64, .i .i64, .i .i64, .b, .i .i8, .i .i8] x7 x8)] => ob (deed_Game_turn x0 x1 x2 x3 x4 x5 x6 x7 x8) fun z => K false (V.tup []) ([Obj.cells 50 [Seg.one [S.ptr 1 0 none 0, S.i IntKind.u64 (z.1), S.sl 2 0 (z.2.1) true]], Obj.cells 56 [Seg.arr IntKind.i8 81 (z.2.2.1), Seg.arr IntKind.i8 16 (z.2.2.2.1), Seg.one [S.i IntKind.i8 (z.2.2.2.2.1)], Seg.rows [.i .u64, .i .u64] 32 (z.2.2.2.2.2.1), Seg.rows [.i .u64, .i .u64] 2 (z.2.2.2.2.2.2.1)], Obj.sli 92 false (Seg.rows [.i .i64, .i .i64, .i .i64, .b, .i .i8, .i .i8] (z.2.2.2.2.2.2.2.1) (z.2.2.2.2.2.2.2.2))])
  | _, _ => o 74 vs objs K
noncomputable def deed_Game_turno (o : Orc) : Orc := hook 74 (deed_Game_turna o) o
theorem deed_Game_turno_ok (o : Orc) (ho : OSound Tryz.prog o) : OSound Tryz.prog (deed_Game_turno o) := hook_ok ho fun vs objs K r h => by
  unfold deed_Game_turna at h
  split at h
  · skip
    obtain ⟨t, h1, h2⟩ := ob_ok h
    refine anyOK_of mixed deed_Game_turnc_ok (fn := Tryz.f74) (b := (Tryz.f74).body.getD .skip) (by kernel_rfl) (by kernel_rfl) (by kernel_rfl) ((deed_Game_turn_eq _ _ _ _ _ _ _ _ _).trans h1) (m := 3) rfl (AllP.of (l' := []) (by kernel_rfl) trivial) fun v objs' hd => ?_
    unfold deed_Game_turnd at hd
    split at hd
    · skip
      cases hd
      exact h2
    · cases hd
  · exact ho _ _ _ _ _ h
noncomputable def piece_Rawc : Ctx := mkC 13 ((piece_Ofo oNil)) [] lpNil
theorem piece_Rawc_ok : CtxOK Tryz.prog piece_Rawc := mkC_ok ((piece_Ofo_ok _ oNil_ok))
noncomputable def piece_Rawd : V → List Obj → Option (Int) := fun v objs => match v, objs with
  | V.s (S.i IntKind.i64 y0), [] => some (y0)
  | _, _ => none
theorem piece_Raw_eq (x0 : Int) : fnE piece_Rawc Tryz.f73 ([V.s (S.i IntKind.i64 x0)]) ([]) piece_Rawd = piece_Raw x0 := by kernel_rfl
noncomputable def piece_Rawa {R : Type} (o : Orc) (vs : List V) (objs : List Obj) (K : Bool → V → List Obj → Option R) : Option R := match vs, objs with
  | [V.s (S.i IntKind.i64 x0)], [] => ob (piece_Raw x0) fun y0 => K false (V.s (S.i IntKind.i64 y0)) ([])
  | _, _ => o 73 vs objs K
noncomputable def piece_Rawo (o : Orc) : Orc := hook 73 (piece_Rawa o) o
theorem piece_Rawo_ok (o : Orc) (ho : OSound Tryz.prog o) : OSound Tryz.prog (piece_Rawo o) := hook_ok ho fun vs objs K r h => by
  unfold piece_Rawa at h
  split at h
  · skip
    obtain ⟨t, h1, h2⟩ := ob_ok h
    refine anyOK_of mixed piece_Rawc_ok (fn := Tryz.f73) (b := (Tryz.f73).body.getD .skip) (by kernel_rfl) (by kernel_rfl) (by kernel_rfl) ((piece_Raw_eq _).trans h1) (m := 0) rfl (AllP.of (l' := []) (by kernel_rfl) trivial) fun v objs' hd => ?_
    unfold piece_Rawd at hd
    split at hd
    · skip
      cases hd
      exact h2
    · cases hd
  · exact ho _ _ _ _ _ h
noncomputable def deed_Game_Makec : Ctx := mkC 97 ((piece_Rawo (piece_Upo (piece_Kindo (deed_Game_turno (deed_Game_puto (deed_Game_hando (piece_Ofo (board_Ato (deed_Game_Cano oNil)))))))))) [] lpNil
theorem deed_Game_Makec_ok : CtxOK Tryz.prog deed_Game_Makec := mkC_ok ((piece_Rawo_ok _ (piece_Upo_ok _ (piece_Kindo_ok _ (deed_Game_turno_ok _ (deed_Game_puto_ok _ (deed_Game_hando_ok _ (piece_Ofo_ok _ (board_Ato_ok _ (deed_Game_Cano_ok _ oNil_ok))))))))))
noncomputable def deed_Game_Maked : V → List Obj → Option ((Bool × Int × Nat × List Int × List Int × Int × List (List Int) × List (List Int) × Nat × List (List Int)) ⊕ (Bool × Int × Nat × List Int × List Int × Int × List (List Int) × List (List Int) × Nat × List (List Int))) := fun v objs => match v, objs with
  | V.s (S.b y0), [Obj.cells 50 [Seg.one [S.ptr 1 0 none 0, S.i IntKind.u64 y1, S.sl 2 0 y2 true]], Obj.cells 56 [Seg.arr IntKind.i8 81 y3, Seg.arr IntKind.i8 16 y4, Seg.one [S.i IntKind.i8 y5], Seg.rows [.i .u64, .i .u64] 32 y6, Seg.rows [.i .u64, .i .u64] 2 y7], Obj.sli 92 false (Seg.rows [.i .i64, .i .i64, .i .i64, .b, .i .i8, .i .i8] y8 y9)] => some (Sum.inl (y0, y1, y2, y3, y4, y5, y6, y7, y8, y9))
  | V.s (S.b y0), [Obj.cells 50 [Seg.one [S.ptr 1 0 none 0, S.i IntKind.u64 y1, S.sl 3 0 y2 true]], Obj.cells 56 [Seg.arr IntKind.i8 81 y3, Seg.arr IntKind.i8 16 y4, Seg.one [S.i IntKind.i8 y5], Seg.rows [.i .u64, .i .u64] 32 y6, Seg.rows [.i .u64, .i .u64] 2 y7], Obj.dead, Obj.sli 92 false (Seg.rows [.i .i64, .i .i64, .i .i64, .b, .i .i8, .i .i8] y8 y9)] => some (Sum.inr (y0, y1, y2, y3, y4, y5, y6, y7, y8, y9))
  | _, _ => none
theorem deed_Game_Make_eq (x0 x1 x2 : Int) (x3 : Bool) (x4 : Int) (x5 : Nat) (x6 x7 : List Int) (x8 : Int) (x9 x10 : List (List Int)) (x11 : Nat) (x12 : List (List Int)) : fnE deed_Game_Makec Tryz.f34 ([V.s (S.ptr 0 0 none 0), V.agg [Seg.one [S.i IntKind.i64 x0, S.i IntKind.i64 x1, S.i IntKind.i64 x2, S.b x3]]]) ([Obj.cells 50 [Seg.one [S.ptr 1 0 none 0, S.i IntKind.u64 x4, S.sl 2 0 x5 true]], Obj.cells 56 [Seg.arr IntKind.i8 81 x6, Seg.arr IntKind.i8 16 x7, Seg.one [S.i IntKind.i8 x8], Seg.rows [.i .u64, .i .u64] 32 x9, Seg.rows [.i .u64, .i .u64] 2 x10], Obj.sli 92 false (Seg.rows [.i .i64, .i .i64, .i .i64, .b, .i .i8, .i .i8] x11 x12)]) deed_Game_Maked = deed_Game_Make x0 x1 x2 x3 x4 x5 x6 x7 x8 x9 x10 x11 x12 := by kernel_rfl
noncomputable def deed_Game_Makea {R : Type} (o : Orc) (vs : List V) (objs : List Obj) (K : Bool → V → List Obj → Option R) : Option R := match vs, objs with
  | [V.s (S.ptr 0 0 none 0), V.agg [Seg.one [S.i IntKind.i64 x0, S.i IntKind.i64 x1, S.i IntKind.i64 x2, S.b x3]]], [Obj.cells 50 [Seg.one [S.ptr 1 0 none 0, S.i IntKind.u64 x4, S.sl 2 0 x5 true]], Obj.cells 56 [Seg.arr IntKind.i8 81 x6, Seg.arr IntKind.i8 16 x7, Seg.one [S.i IntKind.i8 x8], Seg.rows [.i .u64, .i .u64] 32 x9, Seg.rows [.i .u64, .i .u64] 2 x10], Obj.sli 92 false (Seg.rows [.i .i64, .i .i64, .i .i64, .b, .i .i8, .i .i8] x11 x12)] => ob (deed_Game_Make x0 x1 x2 x3 x4 x5 x6 x7 x8 x9 x10 x11 x12) fun t0 => sw t0 (fun z => K false (V.s (S.b (z.1))) ([Obj.cells 50 [Seg.one [S.ptr 1 0 none 0, S.i IntKind.u64 (z.2.1), S.sl 2 0 (z.2.2.1) true]], Obj.cells 56 [Seg.arr IntKind.i8 81 (z.2.2.2.1), Seg.arr IntKind.i8 16 (z.2.2.2.2.1), Seg.one [S.i IntKind.i8 (z.2.2.2.2.2.1)], Seg.rows [.i .u64, .i .u64] 32 (z.2.2.2.2.2.2.1), Seg.rows [.i .u64, .i .u64] 2 (z.2.2.2.2.2.2.2.1)], Obj.sli 92 false (Seg.rows [.i .i64, .i .i64, .i .i64, .b, .i .i8, .i .i8] (z.2.2.2.2.2.2.2.2.1) (z.2.2.2.2.2.2.2.2.2))])) (fun z => K false (V.s (S.b (z.1))) ([Obj.cells 50 [Seg.one [S.ptr 1 0 none 0, S.i IntKind.u64 (z.2.1), S.sl 3 0 (z.2.2.1) true]], Obj.cells 56 [Seg.arr IntKind.i8 81 (z.2.2.2.1), Seg.arr IntKind.i8 16 (z.2.2.2.2.1), Seg.one [S.i IntKind.i8 (z.2.2.2.2.2.1)], Seg.rows [.i .u64, .i .u64] 32 (z.2.2.2.2.2.2.1), Seg.rows [.i .u64, .i .u64] 2 (z.2.2.2.2.2.2.2.1)], Obj.dead, Obj.sli 92 false (Seg.rows [.i .i64, .i .i64, .i .i64, .b, .i .i8, .i .i8] (z.2.2.2.2.2.2.2.2.1) (z.2.2.2.2.2.2.2.2.2))]))
  | _, _ => o 34 vs objs K
noncomputable def deed_Game_Makeo (o : Orc) : Orc := hook 34 (deed_Game_Makea o) o
theorem deed_Game_Makeo_ok (o : Orc) (ho : OSound Tryz.prog o) : OSound Tryz.prog (deed_Game_Makeo o) := hook_ok ho fun vs objs K r h => by
  unfold deed_Game_Makea at h
  split at h
  · skip
    obtain ⟨t, h1, h2⟩ := ob_ok h
    refine anyOK_of mixed deed_Game_Makec_ok (fn := Tryz.f34) (b := (Tryz.f34).body.getD .skip) (by kernel_rfl) (by kernel_rfl) (by kernel_rfl) ((deed_Game_Make_eq _ _ _ _ _ _ _ _ _ _ _ _ _).trans h1) (m := 3) rfl (AllP.of (l' := []) (by kernel_rfl) trivial) fun v objs' hd => ?_
    unfold deed_Game_Maked at hd
    split at hd
    · skip
      cases hd
      exact h2
    · skip
      cases hd
      exact h2
    · cases hd
  · exact ho _ _ _ _ _ h
noncomputable def deed_Afterc : Ctx := mkC 21 ((deed_Game_Makeo (deed_Newo oNil))) [] lpNil
theorem deed_Afterc_ok : CtxOK Tryz.prog deed_Afterc := mkC_ok ((deed_Game_Makeo_ok _ (deed_Newo_ok _ oNil_ok)))
noncomputable def deed_Afterd : V → List Obj → Option (List Int × List Int × Int × Bool) := fun v objs => match v, objs with
  | V.tup [W.agg [Seg.arr IntKind.i8 81 y0, Seg.arr IntKind.i8 16 y1, Seg.one [S.i IntKind.i8 y2]], W.s (S.b y3)], [] => some (y0, y1, y2, y3)
  | _, _ => none
theorem deed_After_eq (x0 x1 : List Int) (x2 x3 : Int) (x4 x5 : Int) (x6 : Bool) : fnE deed_Afterc Tryz.f23 ([V.agg [Seg.arr IntKind.i8 81 x0, Seg.arr IntKind.i8 16 x1, Seg.one [S.i IntKind.i8 x2]], V.agg [Seg.one [S.i IntKind.i64 x3, S.i IntKind.i64 x4, S.i IntKind.i64 x5, S.b x6]]]) ([]) deed_Afterd = deed_After x0 x1 x2 x3 x4 x5 x6 := by kernel_rfl
noncomputable def deed_Aftera {R : Type} (o : Orc) (vs : List V) (objs : List Obj) (K : Bool → V → List Obj → Option R) : Option R := match vs, objs with
  | [V.agg [Seg.arr IntKind.i8 81 x0, Seg.arr IntKind.i8 16 x1, Seg.one [S.i IntKind.i8 x2]], V.agg [Seg.one [S.i IntKind.i64 x3, S.i IntKind.i64 x4, S.i IntKind.i64 x5, S.b x6]]], [] => ob (deed_After x0 x1 x2 x3 x4 x5 x6) fun z => K false (V.tup [W.agg [Seg.arr IntKind.i8 81 (z.1), Seg.arr IntKind.i8 16 (z.2.1), Seg.one [S.i IntKind.i8 (z.2.2.1)]], W.s (S.b (z.2.2.2))]) ([])
  | _, _ => o 23 vs objs K
noncomputable def deed_Aftero (o : Orc) : Orc := hook 23 (deed_Aftera o) o
theorem deed_Aftero_ok (o : Orc) (ho : OSound Tryz.prog o) : OSound Tryz.prog (deed_Aftero o) := hook_ok ho fun vs objs K r h => by
  unfold deed_Aftera at h
  split at h
  · skip
    obtain ⟨t, h1, h2⟩ := ob_ok h
    refine anyOK_of mixed deed_Afterc_ok (fn := Tryz.f23) (b := (Tryz.f23).body.getD .skip) (by kernel_rfl) (by kernel_rfl) (by kernel_rfl) ((deed_After_eq _ _ _ _ _ _ _).trans h1) (m := 0) rfl (AllP.of (l' := []) (by kernel_rfl) trivial) fun v objs' hd => ?_
    unfold deed_Afterd at hd
    split at hd
    · skip
      cases hd
      exact h2
    · cases hd
  · exact ho _ _ _ _ _ h
noncomputable def piece_Totalc : Ctx := mkC 15 (oNil) [] lpNil
theorem piece_Totalc_ok : CtxOK Tryz.prog piece_Totalc := mkC_ok (oNil_ok)
noncomputable def piece_Totald : V → List Obj → Option (Int) := fun v objs => match v, objs with
  | V.s (S.i IntKind.i64 y0), [] => some (y0)
  | _, _ => none
theorem piece_Total_eq (x0 : Int) : fnE piece_Totalc Tryz.f99 ([V.s (S.i IntKind.i64 x0)]) ([]) piece_Totald = piece_Total x0 := by kernel_rfl
noncomputable def piece_Totala {R : Type} (o : Orc) (vs : List V) (objs : List Obj) (K : Bool → V → List Obj → Option R) : Option R := match vs, objs with
  | [V.s (S.i IntKind.i64 x0)], [] => ob (piece_Total x0) fun y0 => K false (V.s (S.i IntKind.i64 y0)) ([])
  | _, _ => o 99 vs objs K
noncomputable def piece_Totalo (o : Orc) : Orc := hook 99 (piece_Totala o) o
theorem piece_Totalo_ok (o : Orc) (ho : OSound Tryz.prog o) : OSound Tryz.prog (piece_Totalo o) := hook_ok ho fun vs objs K r h => by
  unfold piece_Totala at h
  split at h
  · skip
    obtain ⟨t, h1, h2⟩ := ob_ok h
    refine anyOK_of mixed piece_Totalc_ok (fn := Tryz.f99) (b := (Tryz.f99).body.getD .skip) (by kernel_rfl) (by kernel_rfl) (by kernel_rfl) ((piece_Total_eq _).trans h1) (m := 0) rfl (AllP.of (l' := []) (by kernel_rfl) trivial) fun v objs' hd => ?_
    unfold piece_Totald at hd
    split at hd
    · skip
      cases hd
      exact h2
    · cases hd
  · exact ho _ _ _ _ _ h
noncomputable def board_filesl2d : Ex → List V → List Obj → Option ((Int × List Int × List Int × Int) ⊕ (List Int × List Int × Int)) := fun e vs objs => match e, vs, objs with
  | Ex.ret, [V.s (S.ptr 0 0 none 0), V.s (S.i IntKind.i64 y0)], [Obj.cells 28 [Seg.arr IntKind.i8 81 y1, Seg.arr IntKind.i8 16 y2, Seg.one [S.i IntKind.i8 y3]]] => some (Sum.inl (y0, y1, y2, y3))
  | Ex.exit 0, [V.s (S.ptr 0 0 none 0), V.s S.bad], [Obj.cells 28 [Seg.arr IntKind.i8 81 y0, Seg.arr IntKind.i8 16 y1, Seg.one [S.i IntKind.i8 y2]]] => some (Sum.inr (y0, y1, y2))
  | _, _, _ => none
noncomputable def board_filesl12d : Ex → List V → List Obj → Option ((Int × Int × List Int × List Int × Int × List (List Int) × List (List Int)) ⊕ (Int × List Int × List Int × Int × List (List Int) × List (List Int))) := fun e vs objs => match e, vs, objs with
  | Ex.ret, [V.s (S.i IntKind.i64 y0), V.s (S.ptr 0 0 none 0), V.s (S.i IntKind.i64 y1)], [Obj.cells 56 [Seg.arr IntKind.i8 81 y2, Seg.arr IntKind.i8 16 y3, Seg.one [S.i IntKind.i8 y4], Seg.rows [.i .u64, .i .u64] 32 y5, Seg.rows [.i .u64, .i .u64] 2 y6]] => some (Sum.inl (y0, y1, y2, y3, y4, y5, y6))
  | Ex.exit 4, [V.s S.bad, V.s (S.ptr 0 0 none 0), V.s (S.i IntKind.i64 y0)], [Obj.cells 56 [Seg.arr IntKind.i8 81 y1, Seg.arr IntKind.i8 16 y2, Seg.one [S.i IntKind.i8 y3], Seg.rows [.i .u64, .i .u64] 32 y4, Seg.rows [.i .u64, .i .u64] 2 y5]] => some (Sum.inr (y0, y1, y2, y3, y4, y5))
  | _, _, _ => none
noncomputable def board_filesl9d : Ex → List V → List Obj → Option ((Int) ⊕ (Unit)) := fun e vs objs => match e, vs, objs with
  | Ex.ret, [V.s (S.i IntKind.i64 y0)], [] => some (Sum.inl (y0))
  | Ex.exit 2, [V.s S.bad], [] => some (Sum.inr ())
  | _, _, _ => none
noncomputable def board_filesp2 {R : Type} (vs : List V) (objs : List Obj) (K : Ex → List V → List Obj → Option R) : Option R := match vs, objs with
  | [V.s (S.ptr 0 0 none 0), V.agg [Seg.arr IntKind.i8 81 x0], V.s (S.i IntKind.i64 x1)], [Obj.cells 28 [Seg.arr IntKind.i8 81 x2, Seg.arr IntKind.i8 16 x3, Seg.one [S.i IntKind.i8 x4]]] => ob (board_filesl2 many x0 x1 x2 x3 x4) fun t0 => sw t0 (fun z => K (Ex.ret) ([V.s (S.ptr 0 0 none 0), V.s (S.i IntKind.i64 (z.1))]) ([Obj.cells 28 [Seg.arr IntKind.i8 81 (z.2.1), Seg.arr IntKind.i8 16 (z.2.2.1), Seg.one [S.i IntKind.i8 (z.2.2.2)]]])) (fun z => K (Ex.exit 0) ([V.s (S.ptr 0 0 none 0), V.s S.bad]) ([Obj.cells 28 [Seg.arr IntKind.i8 81 (z.1), Seg.arr IntKind.i8 16 (z.2.1), Seg.one [S.i IntKind.i8 (z.2.2)]]]))
  | _, _ => none
noncomputable def board_filesp12 {R : Type} (vs : List V) (objs : List Obj) (K : Ex → List V → List Obj → Option R) : Option R := match vs, objs with
  | [V.s (S.ptr 0 0 none 0), V.s (S.i IntKind.i64 x0), V.s (S.i IntKind.i64 x1), V.s (S.i IntKind.i64 x2)], [Obj.cells 56 [Seg.arr IntKind.i8 81 x3, Seg.arr IntKind.i8 16 x4, Seg.one [S.i IntKind.i8 x5], Seg.rows [.i .u64, .i .u64] 32 x6, Seg.rows [.i .u64, .i .u64] 2 x7]] => ob (board_filesl12 many x0 x1 x2 x3 x4 x5 x6 x7) fun t0 => sw t0 (fun z => K (Ex.ret) ([V.s (S.i IntKind.i64 (z.1)), V.s (S.ptr 0 0 none 0), V.s (S.i IntKind.i64 (z.2.1))]) ([Obj.cells 56 [Seg.arr IntKind.i8 81 (z.2.2.1), Seg.arr IntKind.i8 16 (z.2.2.2.1), Seg.one [S.i IntKind.i8 (z.2.2.2.2.1)], Seg.rows [.i .u64, .i .u64] 32 (z.2.2.2.2.2.1), Seg.rows [.i .u64, .i .u64] 2 (z.2.2.2.2.2.2)]])) (fun z => K (Ex.exit 4) ([V.s S.bad, V.s (S.ptr 0 0 none 0), V.s (S.i IntKind.i64 (z.1))]) ([Obj.cells 56 [Seg.arr IntKind.i8 81 (z.2.1), Seg.arr IntKind.i8 16 (z.2.2.1), Seg.one [S.i IntKind.i8 (z.2.2.2.1)], Seg.rows [.i .u64, .i .u64] 32 (z.2.2.2.2.1), Seg.rows [.i .u64, .i .u64] 2 (z.2.2.2.2.2)]]))
  | _, _ => none
noncomputable def board_filesp9 {R : Type} (vs : List V) (objs : List Obj) (K : Ex → List V → List Obj → Option R) : Option R := match vs, objs with
  | [V.s (S.ptr 0 0 none 0), V.s (S.i IntKind.i64 x0)], [Obj.cells 56 [Seg.arr IntKind.i8 81 x1, Seg.arr IntKind.i8 16 x2, Seg.one [S.i IntKind.i8 x3], Seg.rows [.i .u64, .i .u64] 32 x4, Seg.rows [.i .u64, .i .u64] 2 x5]] => ob (board_filesl9 many x0 x1 x2 x3 x4 x5) fun t0 => sw t0 (fun y0 => K (Ex.ret) ([V.s (S.i IntKind.i64 y0)]) ([])) (fun _ => K (Ex.exit 2) ([V.s S.bad]) ([]))
  | _, _ => none
noncomputable def board_fileslp : {R : Type} → Nat → List V → List Obj → (Ex → List V → List Obj → Option R) → Option R := fun q vs objs K => bif Nat.beq q 2 then board_filesp2 vs objs K else bif Nat.beq q 12 then board_filesp12 vs objs K else bif Nat.beq q 9 then board_filesp9 vs objs K else none
noncomputable def board_filesc : Ctx := mkC 36 ((set_Counto (set_Ando (set_InFileo (board_Ofo (board_Newo (step_Deado oNil))))))) [(2, [1, 9, 10], [1, 2]), (9, [5, 20], [2]), (12, [5, 6, 20, 23], [2, 5, 20])] board_fileslp
theorem board_filesc_ok : CtxOK Tryz.prog board_filesc := mkC_ok ((set_Counto_ok _ (set_Ando_ok _ (set_InFileo_ok _ (board_Ofo_ok _ (board_Newo_ok _ (step_Deado_ok _ oNil_ok)))))))
noncomputable def board_filesl2r (f : Nat) (x0 : List Int) (x1 : Int) (x2 x3 : List Int) (x4 : Int) : Option ((Int × List Int × List Int × Int) ⊕ (List Int × List Int × Int)) := lrun board_filesc 0 [1, 9, 10] [1, 2] (loopOf Tryz.f100 2) f ([V.s (S.ptr 0 0 none 0), V.agg [Seg.arr IntKind.i8 81 x0], V.s (S.i IntKind.i64 x1)]) ([Obj.cells 28 [Seg.arr IntKind.i8 81 x2, Seg.arr IntKind.i8 16 x3, Seg.one [S.i IntKind.i8 x4]]]) board_filesl2d
theorem board_filesl2_step (f : Nat) (x0 : List Int) (x1 : Int) (x2 x3 : List Int) (x4 : Int) : board_filesl2r (f + 1) x0 x1 x2 x3 x4 = board_filesl2s (board_filesl2r f) x0 x1 x2 x3 x4 := by kernel_rfl
theorem board_filesl2_eq : ∀ f, board_filesl2r f = board_filesl2 f
  | 0 => rfl
  | f + 1 => by funext x0 x1 x2 x3 x4; rw [board_filesl2_step, board_filesl2_eq f]; rfl
noncomputable def board_filesl12r (f : Nat) (x0 x1 x2 : Int) (x3 x4 : List Int) (x5 : Int) (x6 x7 : List (List Int)) : Option ((Int × Int × List Int × List Int × Int × List (List Int) × List (List Int)) ⊕ (Int × List Int × List Int × Int × List (List Int) × List (List Int))) := lrun board_filesc 0 [5, 6, 20, 23] [2, 5, 20] (loopOf Tryz.f100 12) f ([V.s (S.ptr 0 0 none 0), V.s (S.i IntKind.i64 x0), V.s (S.i IntKind.i64 x1), V.s (S.i IntKind.i64 x2)]) ([Obj.cells 56 [Seg.arr IntKind.i8 81 x3, Seg.arr IntKind.i8 16 x4, Seg.one [S.i IntKind.i8 x5], Seg.rows [.i .u64, .i .u64] 32 x6, Seg.rows [.i .u64, .i .u64] 2 x7]]) board_filesl12d
theorem board_filesl12_step (f : Nat) (x0 x1 x2 : Int) (x3 x4 : List Int) (x5 : Int) (x6 x7 : List (List Int)) : board_filesl12r (f + 1) x0 x1 x2 x3 x4 x5 x6 x7 = board_filesl12s (board_filesl12r f) x0 x1 x2 x3 x4 x5 x6 x7 := by kernel_rfl
theorem board_filesl12_eq : ∀ f, board_filesl12r f = board_filesl12 f
  | 0 => rfl
  | f + 1 => by funext x0 x1 x2 x3 x4 x5 x6 x7; rw [board_filesl12_step, board_filesl12_eq f]; rfl
noncomputable def board_filesl9r (f : Nat) (x0 : Int) (x1 x2 : List Int) (x3 : Int) (x4 x5 : List (List Int)) : Option ((Int) ⊕ (Unit)) := lrun board_filesc 0 [5, 20] [2] (loopOf Tryz.f100 9) f ([V.s (S.ptr 0 0 none 0), V.s (S.i IntKind.i64 x0)]) ([Obj.cells 56 [Seg.arr IntKind.i8 81 x1, Seg.arr IntKind.i8 16 x2, Seg.one [S.i IntKind.i8 x3], Seg.rows [.i .u64, .i .u64] 32 x4, Seg.rows [.i .u64, .i .u64] 2 x5]]) board_filesl9d
theorem board_filesl9_step (f : Nat) (x0 : Int) (x1 x2 : List Int) (x3 : Int) (x4 x5 : List (List Int)) : board_filesl9r (f + 1) x0 x1 x2 x3 x4 x5 = board_filesl9s (board_filesl9r f) x0 x1 x2 x3 x4 x5 := by kernel_rfl
theorem board_filesl9_eq : ∀ f, board_filesl9r f = board_filesl9 f
  | 0 => rfl
  | f + 1 => by funext x0 x1 x2 x3 x4 x5; rw [board_filesl9_step, board_filesl9_eq f]; rfl
theorem board_filess2 : LoopSound Tryz.prog board_filesc 0 (loopOf Tryz.f100 2) :=
  loopSound_by mixed board_filesc_ok (AllP.of (l' := []) (by kernel_rfl) trivial) (q := 2) (kin := [1, 9, 10]) (kout := [1, 2]) (by kernel_rfl) (by kernel_rfl) fun vs objs K r h => by
    replace h : board_filesp2 vs objs K = some r := h
    unfold board_filesp2 at h
    split at h
    · skip
      obtain ⟨t, h1, h2⟩ := ob_ok h
      rw [← board_filesl2_eq] at h1
      refine ⟨_, board_filesl2d, t, many, h1, fun e vs' objs' hd => ?_⟩
      unfold board_filesl2d at hd
      split at hd
      · skip
        cases hd
        exact h2
      · skip
        cases hd
        exact h2
      · cases hd
    · cases h
theorem board_filess12 : LoopSound Tryz.prog board_filesc 0 (loopOf Tryz.f100 12) :=
  loopSound_by mixed board_filesc_ok (AllP.of (l' := []) (by kernel_rfl) trivial) (q := 12) (kin := [5, 6, 20, 23]) (kout := [2, 5, 20]) (by kernel_rfl) (by kernel_rfl) fun vs objs K r h => by
    replace h : board_filesp12 vs objs K = some r := h
    unfold board_filesp12 at h
    split at h
    · skip
      obtain ⟨t, h1, h2⟩ := ob_ok h
      rw [← board_filesl12_eq] at h1
      refine ⟨_, board_filesl12d, t, many, h1, fun e vs' objs' hd => ?_⟩
      unfold board_filesl12d at hd
      split at hd
      · skip
        cases hd
        exact h2
      · skip
        cases hd
        exact h2
      · cases hd
    · cases h
theorem board_filess9 : LoopSound Tryz.prog board_filesc 0 (loopOf Tryz.f100 9) :=
  loopSound_by mixed board_filesc_ok (AllP.of (l' := [loopOf Tryz.f100 12]) (by kernel_rfl) ⟨board_filess12, trivial⟩) (q := 9) (kin := [5, 20]) (kout := [2]) (by kernel_rfl) (by kernel_rfl) fun vs objs K r h => by
    replace h : board_filesp9 vs objs K = some r := h
    unfold board_filesp9 at h
    split at h
    · skip
      obtain ⟨t, h1, h2⟩ := ob_ok h
      rw [← board_filesl9_eq] at h1
      refine ⟨_, board_filesl9d, t, many, h1, fun e vs' objs' hd => ?_⟩
      unfold board_filesl9d at hd
      split at hd
      · skip
        cases hd
        exact h2
      · skip
        cases hd
        exact h2
      · cases hd
    · cases h
noncomputable def board_filesd : V → List Obj → Option (Int) := fun v objs => match v, objs with
  | V.s (S.i IntKind.i64 y0), [] => some (y0)
  | _, _ => none
theorem board_files_eq (x0 x1 : List Int) (x2 : Int) : fnE board_filesc Tryz.f100 ([V.agg [Seg.arr IntKind.i8 81 x0, Seg.arr IntKind.i8 16 x1, Seg.one [S.i IntKind.i8 x2]]]) ([]) board_filesd = board_files x0 x1 x2 := by kernel_rfl
noncomputable def board_filesa {R : Type} (o : Orc) (vs : List V) (objs : List Obj) (K : Bool → V → List Obj → Option R) : Option R := match vs, objs with
  | [V.agg [Seg.arr IntKind.i8 81 x0, Seg.arr IntKind.i8 16 x1, Seg.one [S.i IntKind.i8 x2]]], [] => ob (board_files x0 x1 x2) fun y0 => K false (V.s (S.i IntKind.i64 y0)) ([])
  | _, _ => o 100 vs objs K
noncomputable def board_fileso (o : Orc) : Orc := hook 100 (board_filesa o) o
theorem board_fileso_ok (o : Orc) (ho : OSound Tryz.prog o) : OSound Tryz.prog (board_fileso o) := hook_ok ho fun vs objs K r h => by
  unfold board_filesa at h
  split at h
  · skip
    obtain ⟨t, h1, h2⟩ := ob_ok h
    refine anyOK_of mixed board_filesc_ok (fn := Tryz.f100) (b := (Tryz.f100).body.getD .skip) (by kernel_rfl) (by kernel_rfl) (by kernel_rfl) ((board_files_eq _ _ _).trans h1) (m := 0) rfl (AllP.of (l' := [loopOf Tryz.f100 2, loopOf Tryz.f100 9]) (by kernel_rfl) ⟨board_filess2, board_filess9, trivial⟩) fun v objs' hd => ?_
    unfold board_filesd at hd
    split at hd
    · skip
      cases hd
      exact h2
    · cases hd
  · exact ho _ _ _ _ _ h
noncomputable def board_Checkl6d : Ex → List V → List Obj → Option ((Int × List Int × List Int × Int × List Int × List Int) ⊕ (List Int × List Int × Int × List Int × List Int)) := fun e vs objs => match e, vs, objs with
  | Ex.ret, [V.s (S.ptr 0 0 none 0), V.s (S.i IntKind.i64 y0), V.s (S.ptr 1 0 none 0), V.s (S.ptr 2 0 none 0)], [Obj.cells 28 [Seg.arr IntKind.i8 81 y1, Seg.arr IntKind.i8 16 y2, Seg.one [S.i IntKind.i8 y3]], Obj.cells 98 [Seg.arr IntKind.i64 9 y4], Obj.cells 112 [Seg.arr IntKind.i64 2 y5]] => some (Sum.inl (y0, y1, y2, y3, y4, y5))
  | Ex.exit 0, [V.s (S.ptr 0 0 none 0), V.s S.bad, V.s (S.ptr 1 0 none 0), V.s (S.ptr 2 0 none 0)], [Obj.cells 28 [Seg.arr IntKind.i8 81 y0, Seg.arr IntKind.i8 16 y1, Seg.one [S.i IntKind.i8 y2]], Obj.cells 98 [Seg.arr IntKind.i64 9 y3], Obj.cells 112 [Seg.arr IntKind.i64 2 y4]] => some (Sum.inr (y0, y1, y2, y3, y4))
  | _, _, _ => none
noncomputable def board_Checkl20d : Ex → List V → List Obj → Option ((Int × List Int × Int × List Int × List Int × Int × List Int × List Int) ⊕ (List Int × Int × List Int × List Int × Int × List Int × List Int)) := fun e vs objs => match e, vs, objs with
  | Ex.ret, [V.s (S.ptr 0 0 none 0), V.s (S.i IntKind.i64 y0), V.s (S.ptr 1 0 none 0), V.s (S.ptr 2 0 none 0), V.agg [Seg.arr IntKind.i8 16 y1], V.s (S.i IntKind.i64 y2)], [Obj.cells 28 [Seg.arr IntKind.i8 81 y3, Seg.arr IntKind.i8 16 y4, Seg.one [S.i IntKind.i8 y5]], Obj.cells 98 [Seg.arr IntKind.i64 9 y6], Obj.cells 112 [Seg.arr IntKind.i64 2 y7]] => some (Sum.inl (y0, y1, y2, y3, y4, y5, y6, y7))
  | Ex.exit 9, [V.s (S.ptr 0 0 none 0), V.s S.bad, V.s (S.ptr 1 0 none 0), V.s (S.ptr 2 0 none 0), V.agg [Seg.arr IntKind.i8 16 y0], V.s (S.i IntKind.i64 y1)], [Obj.cells 28 [Seg.arr IntKind.i8 81 y2, Seg.arr IntKind.i8 16 y3, Seg.one [S.i IntKind.i8 y4]], Obj.cells 98 [Seg.arr IntKind.i64 9 y5], Obj.cells 112 [Seg.arr IntKind.i64 2 y6]] => some (Sum.inr (y0, y1, y2, y3, y4, y5, y6))
  | _, _, _ => none
noncomputable def board_Checkl17d : Ex → List V → List Obj → Option ((Int × List Int × List Int × Int × List Int × List Int) ⊕ (List Int × List Int × Int × List Int × List Int)) := fun e vs objs => match e, vs, objs with
  | Ex.ret, [V.s (S.ptr 0 0 none 0), V.s (S.i IntKind.i64 y0), V.s (S.ptr 1 0 none 0), V.s (S.ptr 2 0 none 0)], [Obj.cells 28 [Seg.arr IntKind.i8 81 y1, Seg.arr IntKind.i8 16 y2, Seg.one [S.i IntKind.i8 y3]], Obj.cells 98 [Seg.arr IntKind.i64 9 y4], Obj.cells 112 [Seg.arr IntKind.i64 2 y5]] => some (Sum.inl (y0, y1, y2, y3, y4, y5))
  | Ex.exit 7, [V.s (S.ptr 0 0 none 0), V.s S.bad, V.s (S.ptr 1 0 none 0), V.s (S.ptr 2 0 none 0)], [Obj.cells 28 [Seg.arr IntKind.i8 81 y0, Seg.arr IntKind.i8 16 y1, Seg.one [S.i IntKind.i8 y2]], Obj.cells 98 [Seg.arr IntKind.i64 9 y3], Obj.cells 112 [Seg.arr IntKind.i64 2 y4]] => some (Sum.inr (y0, y1, y2, y3, y4))
  | _, _, _ => none
noncomputable def board_Checkl30d : Ex → List V → List Obj → Option ((Int × List Int × List Int × Int) ⊕ (List Int × List Int × Int)) := fun e vs objs => match e, vs, objs with
  | Ex.ret, [V.s (S.ptr 0 0 none 0), V.s (S.i IntKind.i64 y0)], [Obj.cells 28 [Seg.arr IntKind.i8 81 y1, Seg.arr IntKind.i8 16 y2, Seg.one [S.i IntKind.i8 y3]]] => some (Sum.inl (y0, y1, y2, y3))
  | Ex.exit 11, [V.s (S.ptr 0 0 none 0), V.s S.bad], [Obj.cells 28 [Seg.arr IntKind.i8 81 y0, Seg.arr IntKind.i8 16 y1, Seg.one [S.i IntKind.i8 y2]]] => some (Sum.inr (y0, y1, y2))
  | _, _, _ => none
noncomputable def board_Checkp6 {R : Type} (vs : List V) (objs : List Obj) (K : Ex → List V → List Obj → Option R) : Option R := match vs, objs with
  | [V.s (S.ptr 0 0 none 0), V.s (S.ptr 1 0 none 0), V.s (S.ptr 2 0 none 0), V.agg [Seg.arr IntKind.i8 81 x0], V.s (S.i IntKind.i64 x1)], [Obj.cells 28 [Seg.arr IntKind.i8 81 x2, Seg.arr IntKind.i8 16 x3, Seg.one [S.i IntKind.i8 x4]], Obj.cells 98 [Seg.arr IntKind.i64 9 x5], Obj.cells 112 [Seg.arr IntKind.i64 2 x6]] => ob (board_Checkl6 many x0 x1 x2 x3 x4 x5 x6) fun t0 => sw t0 (fun z => K (Ex.ret) ([V.s (S.ptr 0 0 none 0), V.s (S.i IntKind.i64 (z.1)), V.s (S.ptr 1 0 none 0), V.s (S.ptr 2 0 none 0)]) ([Obj.cells 28 [Seg.arr IntKind.i8 81 (z.2.1), Seg.arr IntKind.i8 16 (z.2.2.1), Seg.one [S.i IntKind.i8 (z.2.2.2.1)]], Obj.cells 98 [Seg.arr IntKind.i64 9 (z.2.2.2.2.1)], Obj.cells 112 [Seg.arr IntKind.i64 2 (z.2.2.2.2.2)]])) (fun z => K (Ex.exit 0) ([V.s (S.ptr 0 0 none 0), V.s S.bad, V.s (S.ptr 1 0 none 0), V.s (S.ptr 2 0 none 0)]) ([Obj.cells 28 [Seg.arr IntKind.i8 81 (z.1), Seg.arr IntKind.i8 16 (z.2.1), Seg.one [S.i IntKind.i8 (z.2.2.1)]], Obj.cells 98 [Seg.arr IntKind.i64 9 (z.2.2.2.1)], Obj.cells 112 [Seg.arr IntKind.i64 2 (z.2.2.2.2)]]))
  | _, _ => none
noncomputable def board_Checkp20 {R : Type} (vs : List V) (objs : List Obj) (K : Ex → List V → List Obj → Option R) : Option R := match vs, objs with
  | [V.s (S.ptr 0 0 none 0), V.s (S.ptr 1 0 none 0), V.s (S.ptr 2 0 none 0), V.agg [Seg.arr IntKind.i8 16 x0], V.s (S.i IntKind.i64 x1), V.agg [Seg.arr IntKind.i8 8 x2], V.s (S.i IntKind.i64 x3)], [Obj.cells 28 [Seg.arr IntKind.i8 81 x4, Seg.arr IntKind.i8 16 x5, Seg.one [S.i IntKind.i8 x6]], Obj.cells 98 [Seg.arr IntKind.i64 9 x7], Obj.cells 112 [Seg.arr IntKind.i64 2 x8]] => ob (board_Checkl20 many x0 x1 x2 x3 x4 x5 x6 x7 x8) fun t0 => sw t0 (fun z => K (Ex.ret) ([V.s (S.ptr 0 0 none 0), V.s (S.i IntKind.i64 (z.1)), V.s (S.ptr 1 0 none 0), V.s (S.ptr 2 0 none 0), V.agg [Seg.arr IntKind.i8 16 (z.2.1)], V.s (S.i IntKind.i64 (z.2.2.1))]) ([Obj.cells 28 [Seg.arr IntKind.i8 81 (z.2.2.2.1), Seg.arr IntKind.i8 16 (z.2.2.2.2.1), Seg.one [S.i IntKind.i8 (z.2.2.2.2.2.1)]], Obj.cells 98 [Seg.arr IntKind.i64 9 (z.2.2.2.2.2.2.1)], Obj.cells 112 [Seg.arr IntKind.i64 2 (z.2.2.2.2.2.2.2)]])) (fun z => K (Ex.exit 9) ([V.s (S.ptr 0 0 none 0), V.s S.bad, V.s (S.ptr 1 0 none 0), V.s (S.ptr 2 0 none 0), V.agg [Seg.arr IntKind.i8 16 (z.1)], V.s (S.i IntKind.i64 (z.2.1))]) ([Obj.cells 28 [Seg.arr IntKind.i8 81 (z.2.2.1), Seg.arr IntKind.i8 16 (z.2.2.2.1), Seg.one [S.i IntKind.i8 (z.2.2.2.2.1)]], Obj.cells 98 [Seg.arr IntKind.i64 9 (z.2.2.2.2.2.1)], Obj.cells 112 [Seg.arr IntKind.i64 2 (z.2.2.2.2.2.2)]]))
  | _, _ => none
noncomputable def board_Checkp17 {R : Type} (vs : List V) (objs : List Obj) (K : Ex → List V → List Obj → Option R) : Option R := match vs, objs with
  | [V.s (S.ptr 0 0 none 0), V.s (S.ptr 1 0 none 0), V.s (S.ptr 2 0 none 0), V.agg [Seg.arr IntKind.i8 16 x0], V.s (S.i IntKind.i64 x1)], [Obj.cells 28 [Seg.arr IntKind.i8 81 x2, Seg.arr IntKind.i8 16 x3, Seg.one [S.i IntKind.i8 x4]], Obj.cells 98 [Seg.arr IntKind.i64 9 x5], Obj.cells 112 [Seg.arr IntKind.i64 2 x6]] => ob (board_Checkl17 many x0 x1 x2 x3 x4 x5 x6) fun t0 => sw t0 (fun z => K (Ex.ret) ([V.s (S.ptr 0 0 none 0), V.s (S.i IntKind.i64 (z.1)), V.s (S.ptr 1 0 none 0), V.s (S.ptr 2 0 none 0)]) ([Obj.cells 28 [Seg.arr IntKind.i8 81 (z.2.1), Seg.arr IntKind.i8 16 (z.2.2.1), Seg.one [S.i IntKind.i8 (z.2.2.2.1)]], Obj.cells 98 [Seg.arr IntKind.i64 9 (z.2.2.2.2.1)], Obj.cells 112 [Seg.arr IntKind.i64 2 (z.2.2.2.2.2)]])) (fun z => K (Ex.exit 7) ([V.s (S.ptr 0 0 none 0), V.s S.bad, V.s (S.ptr 1 0 none 0), V.s (S.ptr 2 0 none 0)]) ([Obj.cells 28 [Seg.arr IntKind.i8 81 (z.1), Seg.arr IntKind.i8 16 (z.2.1), Seg.one [S.i IntKind.i8 (z.2.2.1)]], Obj.cells 98 [Seg.arr IntKind.i64 9 (z.2.2.2.1)], Obj.cells 112 [Seg.arr IntKind.i64 2 (z.2.2.2.2)]]))
  | _, _ => none
noncomputable def board_Checkp30 {R : Type} (vs : List V) (objs : List Obj) (K : Ex → List V → List Obj → Option R) : Option R := match vs, objs with
  | [V.s (S.ptr 0 0 none 0), V.s (S.ptr 1 0 none 0), V.s (S.i IntKind.i64 x0)], [Obj.cells 28 [Seg.arr IntKind.i8 81 x1, Seg.arr IntKind.i8 16 x2, Seg.one [S.i IntKind.i8 x3]], Obj.cells 98 [Seg.arr IntKind.i64 9 x4]] => ob (board_Checkl30 many x0 x1 x2 x3 x4) fun t0 => sw t0 (fun z => K (Ex.ret) ([V.s (S.ptr 0 0 none 0), V.s (S.i IntKind.i64 (z.1))]) ([Obj.cells 28 [Seg.arr IntKind.i8 81 (z.2.1), Seg.arr IntKind.i8 16 (z.2.2.1), Seg.one [S.i IntKind.i8 (z.2.2.2)]]])) (fun z => K (Ex.exit 11) ([V.s (S.ptr 0 0 none 0), V.s S.bad]) ([Obj.cells 28 [Seg.arr IntKind.i8 81 (z.1), Seg.arr IntKind.i8 16 (z.2.1), Seg.one [S.i IntKind.i8 (z.2.2)]]]))
  | _, _ => none
noncomputable def board_Checklp : {R : Type} → Nat → List V → List Obj → (Ex → List V → List Obj → Option R) → Option R := fun q vs objs K => bif Nat.beq q 6 then board_Checkp6 vs objs K else bif Nat.beq q 20 then board_Checkp20 vs objs K else bif Nat.beq q 17 then board_Checkp17 vs objs K else bif Nat.beq q 30 then board_Checkp30 vs objs K else none
noncomputable def board_Checkc : Ctx := mkC 98 ((board_fileso (piece_Totalo (piece_Rawo (piece_Sideo (piece_Kindo oNil)))))) [(6, [1, 3, 4, 22, 23], [1, 2, 3, 4]), (17, [1, 3, 4, 51, 52], [1, 2, 3, 4]), (20, [1, 3, 4, 51, 52, 55, 56], [1, 2, 3, 4, 51, 52]), (30, [1, 3, 12], [1, 2])] board_Checklp
theorem board_Checkc_ok : CtxOK Tryz.prog board_Checkc := mkC_ok ((board_fileso_ok _ (piece_Totalo_ok _ (piece_Rawo_ok _ (piece_Sideo_ok _ (piece_Kindo_ok _ oNil_ok))))))
noncomputable def board_Checkl6r (f : Nat) (x0 : List Int) (x1 : Int) (x2 x3 : List Int) (x4 : Int) (x5 x6 : List Int) : Option ((Int × List Int × List Int × Int × List Int × List Int) ⊕ (List Int × List Int × Int × List Int × List Int)) := lrun board_Checkc 0 [1, 3, 4, 22, 23] [1, 2, 3, 4] (loopOf Tryz.f48 6) f ([V.s (S.ptr 0 0 none 0), V.s (S.ptr 1 0 none 0), V.s (S.ptr 2 0 none 0), V.agg [Seg.arr IntKind.i8 81 x0], V.s (S.i IntKind.i64 x1)]) ([Obj.cells 28 [Seg.arr IntKind.i8 81 x2, Seg.arr IntKind.i8 16 x3, Seg.one [S.i IntKind.i8 x4]], Obj.cells 98 [Seg.arr IntKind.i64 9 x5], Obj.cells 112 [Seg.arr IntKind.i64 2 x6]]) board_Checkl6d
theorem board_Checkl6_step (f : Nat) (x0 : List Int) (x1 : Int) (x2 x3 : List Int) (x4 : Int) (x5 x6 : List Int) : board_Checkl6r (f + 1) x0 x1 x2 x3 x4 x5 x6 = board_Checkl6s (board_Checkl6r f) x0 x1 x2 x3 x4 x5 x6 := by kernel_rfl
theorem board_Checkl6_eq : ∀ f, board_Checkl6r f = board_Checkl6 f
  | 0 => rfl
  | f + 1 => by funext x0 x1 x2 x3 x4 x5 x6; rw [board_Checkl6_step, board_Checkl6_eq f]; rfl
noncomputable def board_Checkl20r (f : Nat) (x0 : List Int) (x1 : Int) (x2 : List Int) (x3 : Int) (x4 x5 : List Int) (x6 : Int) (x7 x8 : List Int) : Option ((Int × List Int × Int × List Int × List Int × Int × List Int × List Int) ⊕ (List Int × Int × List Int × List Int × Int × List Int × List Int)) := lrun board_Checkc 0 [1, 3, 4, 51, 52, 55, 56] [1, 2, 3, 4, 51, 52] (loopOf Tryz.f48 20) f ([V.s (S.ptr 0 0 none 0), V.s (S.ptr 1 0 none 0), V.s (S.ptr 2 0 none 0), V.agg [Seg.arr IntKind.i8 16 x0], V.s (S.i IntKind.i64 x1), V.agg [Seg.arr IntKind.i8 8 x2], V.s (S.i IntKind.i64 x3)]) ([Obj.cells 28 [Seg.arr IntKind.i8 81 x4, Seg.arr IntKind.i8 16 x5, Seg.one [S.i IntKind.i8 x6]], Obj.cells 98 [Seg.arr IntKind.i64 9 x7], Obj.cells 112 [Seg.arr IntKind.i64 2 x8]]) board_Checkl20d
theorem board_Checkl20_step (f : Nat) (x0 : List Int) (x1 : Int) (x2 : List Int) (x3 : Int) (x4 x5 : List Int) (x6 : Int) (x7 x8 : List Int) : board_Checkl20r (f + 1) x0 x1 x2 x3 x4 x5 x6 x7 x8 = board_Checkl20s (board_Checkl20r f) x0 x1 x2 x3 x4 x5 x6 x7 x8 := by kernel_rfl
theorem board_Checkl20_eq : ∀ f, board_Checkl20r f = board_Checkl20 f
  | 0 => rfl
  | f + 1 => by funext x0 x1 x2 x3 x4 x5 x6 x7 x8; rw [board_Checkl20_step, board_Checkl20_eq f]; rfl
noncomputable def board_Checkl17r (f : Nat) (x0 : List Int) (x1 : Int) (x2 x3 : List Int) (x4 : Int) (x5 x6 : List Int) : Option ((Int × List Int × List Int × Int × List Int × List Int) ⊕ (List Int × List Int × Int × List Int × List Int)) := lrun board_Checkc 0 [1, 3, 4, 51, 52] [1, 2, 3, 4] (loopOf Tryz.f48 17) f ([V.s (S.ptr 0 0 none 0), V.s (S.ptr 1 0 none 0), V.s (S.ptr 2 0 none 0), V.agg [Seg.arr IntKind.i8 16 x0], V.s (S.i IntKind.i64 x1)]) ([Obj.cells 28 [Seg.arr IntKind.i8 81 x2, Seg.arr IntKind.i8 16 x3, Seg.one [S.i IntKind.i8 x4]], Obj.cells 98 [Seg.arr IntKind.i64 9 x5], Obj.cells 112 [Seg.arr IntKind.i64 2 x6]]) board_Checkl17d
theorem board_Checkl17_step (f : Nat) (x0 : List Int) (x1 : Int) (x2 x3 : List Int) (x4 : Int) (x5 x6 : List Int) : board_Checkl17r (f + 1) x0 x1 x2 x3 x4 x5 x6 = board_Checkl17s (board_Checkl17r f) x0 x1 x2 x3 x4 x5 x6 := by kernel_rfl
theorem board_Checkl17_eq : ∀ f, board_Checkl17r f = board_Checkl17 f
  | 0 => rfl
  | f + 1 => by funext x0 x1 x2 x3 x4 x5 x6; rw [board_Checkl17_step, board_Checkl17_eq f]; rfl
noncomputable def board_Checkl30r (f : Nat) (x0 : Int) (x1 x2 : List Int) (x3 : Int) (x4 : List Int) : Option ((Int × List Int × List Int × Int) ⊕ (List Int × List Int × Int)) := lrun board_Checkc 0 [1, 3, 12] [1, 2] (loopOf Tryz.f48 30) f ([V.s (S.ptr 0 0 none 0), V.s (S.ptr 1 0 none 0), V.s (S.i IntKind.i64 x0)]) ([Obj.cells 28 [Seg.arr IntKind.i8 81 x1, Seg.arr IntKind.i8 16 x2, Seg.one [S.i IntKind.i8 x3]], Obj.cells 98 [Seg.arr IntKind.i64 9 x4]]) board_Checkl30d
theorem board_Checkl30_step (f : Nat) (x0 : Int) (x1 x2 : List Int) (x3 : Int) (x4 : List Int) : board_Checkl30r (f + 1) x0 x1 x2 x3 x4 = board_Checkl30s (board_Checkl30r f) x0 x1 x2 x3 x4 := by kernel_rfl
theorem board_Checkl30_eq : ∀ f, board_Checkl30r f = board_Checkl30 f
  | 0 => rfl
  | f + 1 => by funext x0 x1 x2 x3 x4; rw [board_Checkl30_step, board_Checkl30_eq f]; rfl
theorem board_Checks6 : LoopSound Tryz.prog board_Checkc 0 (loopOf Tryz.f48 6) :=
  loopSound_by mixed board_Checkc_ok (AllP.of (l' := []) (by kernel_rfl) trivial) (q := 6) (kin := [1, 3, 4, 22, 23]) (kout := [1, 2, 3, 4]) (by kernel_rfl) (by kernel_rfl) fun vs objs K r h => by
    replace h : board_Checkp6 vs objs K = some r := h
    unfold board_Checkp6 at h
    split at h
    · skip
      obtain ⟨t, h1, h2⟩ := ob_ok h
      rw [← board_Checkl6_eq] at h1
      refine ⟨_, board_Checkl6d, t, many, h1, fun e vs' objs' hd => ?_⟩
      unfold board_Checkl6d at hd
      split at hd
      · skip
        cases hd
        exact h2
      · skip
        cases hd
        exact h2
      · cases hd
    · cases h
theorem board_Checks20 : LoopSound Tryz.prog board_Checkc 0 (loopOf Tryz.f48 20) :=
  loopSound_by mixed board_Checkc_ok (AllP.of (l' := []) (by kernel_rfl) trivial) (q := 20) (kin := [1, 3, 4, 51, 52, 55, 56]) (kout := [1, 2, 3, 4, 51, 52]) (by kernel_rfl) (by kernel_rfl) fun vs objs K r h => by
    replace h : board_Checkp20 vs objs K = some r := h
    unfold board_Checkp20 at h
    split at h
    · skip
      obtain ⟨t, h1, h2⟩ := ob_ok h
      rw [← board_Checkl20_eq] at h1
      refine ⟨_, board_Checkl20d, t, many, h1, fun e vs' objs' hd => ?_⟩
      unfold board_Checkl20d at hd
      split at hd
      · skip
        cases hd
        exact h2
      · skip
        cases hd
        exact h2
      · cases hd
    · cases h
theorem board_Checks30 : LoopSound Tryz.prog board_Checkc 0 (loopOf Tryz.f48 30) :=
  loopSound_by mixed board_Checkc_ok (AllP.of (l' := []) (by kernel_rfl) trivial) (q := 30) (kin := [1, 3, 12]) (kout := [1, 2]) (by kernel_rfl) (by kernel_rfl) fun vs objs K r h => by
    replace h : board_Checkp30 vs objs K = some r := h
    unfold board_Checkp30 at h
    split at h
    · skip
      obtain ⟨t, h1, h2⟩ := ob_ok h
      rw [← board_Checkl30_eq] at h1
      refine ⟨_, board_Checkl30d, t, many, h1, fun e vs' objs' hd => ?_⟩
      unfold board_Checkl30d at hd
      split at hd
      · skip
        cases hd
        exact h2
      · skip
        cases hd
        exact h2
      · cases hd
    · cases h
theorem board_Checks17 : LoopSound Tryz.prog board_Checkc 0 (loopOf Tryz.f48 17) :=
  loopSound_by mixed board_Checkc_ok (AllP.of (l' := [loopOf Tryz.f48 20]) (by kernel_rfl) ⟨board_Checks20, trivial⟩) (q := 17) (kin := [1, 3, 4, 51, 52]) (kout := [1, 2, 3, 4]) (by kernel_rfl) (by kernel_rfl) fun vs objs K r h => by
    replace h : board_Checkp17 vs objs K = some r := h
    unfold board_Checkp17 at h
    split at h
    · skip
      obtain ⟨t, h1, h2⟩ := ob_ok h
      rw [← board_Checkl17_eq] at h1
      refine ⟨_, board_Checkl17d, t, many, h1, fun e vs' objs' hd => ?_⟩
      unfold board_Checkl17d at hd
      split at hd
      · skip
        cases hd
        exact h2
      · skip
        cases hd
        exact h2
      · cases hd
    · cases h
noncomputable def board_Checkd : V → List Obj → Option (Int) := fun v objs => match v, objs with
  | V.s (S.i IntKind.i64 y0), [] => some (y0)
  | _, _ => none
theorem board_Check_eq (x0 x1 : List Int) (x2 : Int) : fnE board_Checkc Tryz.f48 ([V.agg [Seg.arr IntKind.i8 81 x0, Seg.arr IntKind.i8 16 x1, Seg.one [S.i IntKind.i8 x2]]]) ([]) board_Checkd = board_Check x0 x1 x2 := by kernel_rfl
noncomputable def board_Checka {R : Type} (o : Orc) (vs : List V) (objs : List Obj) (K : Bool → V → List Obj → Option R) : Option R := match vs, objs with
  | [V.agg [Seg.arr IntKind.i8 81 x0, Seg.arr IntKind.i8 16 x1, Seg.one [S.i IntKind.i8 x2]]], [] => ob (board_Check x0 x1 x2) fun y0 => K false (V.s (S.i IntKind.i64 y0)) ([])
  | _, _ => o 48 vs objs K
noncomputable def board_Checko (o : Orc) : Orc := hook 48 (board_Checka o) o
theorem board_Checko_ok (o : Orc) (ho : OSound Tryz.prog o) : OSound Tryz.prog (board_Checko o) := hook_ok ho fun vs objs K r h => by
  unfold board_Checka at h
  split at h
  · skip
    obtain ⟨t, h1, h2⟩ := ob_ok h
    refine anyOK_of mixed board_Checkc_ok (fn := Tryz.f48) (b := (Tryz.f48).body.getD .skip) (by kernel_rfl) (by kernel_rfl) (by kernel_rfl) ((board_Check_eq _ _ _).trans h1) (m := 0) rfl (AllP.of (l' := [loopOf Tryz.f48 6, loopOf Tryz.f48 17, loopOf Tryz.f48 30]) (by kernel_rfl) ⟨board_Checks6, board_Checks17, board_Checks30, trivial⟩) fun v objs' hd => ?_
    unfold board_Checkd at hd
    split at hd
    · skip
      cases hd
      exact h2
    · cases hd
  · exact ho _ _ _ _ _ h
noncomputable def attack_InCheckc : Ctx := mkC 10 ((set_Emptyo (attack_Checkerso oNil))) [] lpNil
theorem attack_InCheckc_ok : CtxOK Tryz.prog attack_InCheckc := mkC_ok ((set_Emptyo_ok _ (attack_Checkerso_ok _ oNil_ok)))
noncomputable def attack_InCheckd : V → List Obj → Option (Bool) := fun v objs => match v, objs with
  | V.s (S.b y0), [] => some (y0)
  | _, _ => none
theorem attack_InCheck_eq (x0 : Int) (x1 x2 : List Int) (x3 : Int) (x4 x5 : List (List Int)) : fnE attack_InCheckc Tryz.f31 ([V.s (S.ptr 0 0 none 0), V.s (S.i IntKind.i64 x0)]) ([Obj.rcells 56 [Seg.arr IntKind.i8 81 x1, Seg.arr IntKind.i8 16 x2, Seg.one [S.i IntKind.i8 x3], Seg.rows [.i .u64, .i .u64] 32 x4, Seg.rows [.i .u64, .i .u64] 2 x5]]) (pureD 1 attack_InCheckd) = attack_InCheck x0 x1 x2 x3 x4 x5 := by kernel_rfl
noncomputable def attack_InChecka {R : Type} (o : Orc) (vs : List V) (objs : List Obj) (K : Bool → V → List Obj → Option R) : Option R := match vs, List.map Obj.toRO objs with
  | [V.s (S.ptr 0 0 none 0), V.s (S.i IntKind.i64 x0)], [Obj.rcells 56 [Seg.arr IntKind.i8 81 x1, Seg.arr IntKind.i8 16 x2, Seg.one [S.i IntKind.i8 x3], Seg.rows [.i .u64, .i .u64] 32 x4, Seg.rows [.i .u64, .i .u64] 2 x5]] => ob (attack_InCheck x0 x1 x2 x3 x4 x5) fun y0 => K true (V.s (S.b y0)) ([])
  | _, _ => o 31 vs objs K
noncomputable def attack_InChecko (o : Orc) : Orc := hook 31 (attack_InChecka o) o
theorem attack_InChecko_ok (o : Orc) (ho : OSound Tryz.prog o) : OSound Tryz.prog (attack_InChecko o) := hook_ok ho fun vs objs K r h => by
  unfold attack_InChecka at h
  split at h
  · skip
    have hq : List.map Obj.toRO objs = _ := (by rename_i hq; first | exact hq | assumption)
    obtain ⟨t, h1, h2⟩ := ob_ok h
    refine purOK_by mixed attack_InCheckc_ok (m := 1) (fn := Tryz.f31) (b := (Tryz.f31).body.getD .skip) (by kernel_rfl) (by kernel_rfl) (by kernel_rfl) hq (by kernel_rfl) (by kernel_rfl) (AllP.of (l' := []) (by kernel_rfl) trivial) ((attack_InCheck_eq _ _ _ _ _ _).trans h1) fun v objs' hd => ?_
    unfold attack_InCheckd at hd
    split at hd
    · skip
      cases hd
      exact h2
    · cases hd
  · exact ho _ _ _ _ _ h
noncomputable def attack_Checkc : Ctx := mkC 16 ((attack_InChecko (board_Newo (board_Checko oNil)))) [] lpNil
theorem attack_Checkc_ok : CtxOK Tryz.prog attack_Checkc := mkC_ok ((attack_InChecko_ok _ (board_Newo_ok _ (board_Checko_ok _ oNil_ok))))
noncomputable def attack_Checkd : V → List Obj → Option (Int) := fun v objs => match v, objs with
  | V.s (S.i IntKind.i64 y0), [] => some (y0)
  | _, _ => none
theorem attack_Check_eq (x0 x1 : List Int) (x2 : Int) : fnE attack_Checkc Tryz.f27 ([V.agg [Seg.arr IntKind.i8 81 x0, Seg.arr IntKind.i8 16 x1, Seg.one [S.i IntKind.i8 x2]]]) ([]) attack_Checkd = attack_Check x0 x1 x2 := by kernel_rfl
noncomputable def attack_Checka {R : Type} (o : Orc) (vs : List V) (objs : List Obj) (K : Bool → V → List Obj → Option R) : Option R := match vs, objs with
  | [V.agg [Seg.arr IntKind.i8 81 x0, Seg.arr IntKind.i8 16 x1, Seg.one [S.i IntKind.i8 x2]]], [] => ob (attack_Check x0 x1 x2) fun y0 => K false (V.s (S.i IntKind.i64 y0)) ([])
  | _, _ => o 27 vs objs K
noncomputable def attack_Checko (o : Orc) : Orc := hook 27 (attack_Checka o) o
theorem attack_Checko_ok (o : Orc) (ho : OSound Tryz.prog o) : OSound Tryz.prog (attack_Checko o) := hook_ok ho fun vs objs K r h => by
  unfold attack_Checka at h
  split at h
  · skip
    obtain ⟨t, h1, h2⟩ := ob_ok h
    refine anyOK_of mixed attack_Checkc_ok (fn := Tryz.f27) (b := (Tryz.f27).body.getD .skip) (by kernel_rfl) (by kernel_rfl) (by kernel_rfl) ((attack_Check_eq _ _ _).trans h1) (m := 0) rfl (AllP.of (l' := []) (by kernel_rfl) trivial) fun v objs' hd => ?_
    unfold attack_Checkd at hd
    split at hd
    · skip
      cases hd
      exact h2
    · cases hd
  · exact ho _ _ _ _ _ h
noncomputable def law11_LegalStaysl6d : Ex → List V → List Obj → Option ((Bool) ⊕ (Unit)) := fun e vs objs => match e, vs, objs with
  | Ex.ret, [V.s (S.b y0)], [] => some (Sum.inl (y0))
  | Ex.exit 0, [V.s S.bad], [] => some (Sum.inr ())
  | _, _, _ => none
noncomputable def law11_LegalStaysp6 {R : Type} (vs : List V) (objs : List Obj) (K : Ex → List V → List Obj → Option R) : Option R := match vs, objs with
  | [V.s (S.ptr 0 0 none 0), V.s (S.sl 1 0 x0 true), V.s (S.i IntKind.i64 x1), V.s (S.i IntKind.i64 x2)], [Obj.cells 28 [Seg.arr IntKind.i8 81 x3, Seg.arr IntKind.i8 16 x4, Seg.one [S.i IntKind.i8 x5]], Obj.sli 39 false (Seg.rows [.i .i64, .i .i64, .i .i64, .b] x6 x7)] => ob (law11_LegalStaysl6 many x0 x1 x2 x3 x4 x5 x6 x7) fun t0 => sw t0 (fun y0 => K (Ex.ret) ([V.s (S.b y0)]) ([])) (fun _ => K (Ex.exit 0) ([V.s S.bad]) ([]))
  | _, _ => none
noncomputable def law11_LegalStayslp : {R : Type} → Nat → List V → List Obj → (Ex → List V → List Obj → Option R) → Option R := fun q vs objs K => bif Nat.beq q 6 then law11_LegalStaysp6 vs objs K else none
noncomputable def law11_LegalStaysc : Ctx := mkC 34 ((attack_Checko (deed_Aftero (legal_Allo (board_Newo (ref08_Checko (law11_allowso oNil))))))) [(6, [1, 14, 15, 16], [2])] law11_LegalStayslp
theorem law11_LegalStaysc_ok : CtxOK Tryz.prog law11_LegalStaysc := mkC_ok ((attack_Checko_ok _ (deed_Aftero_ok _ (legal_Allo_ok _ (board_Newo_ok _ (ref08_Checko_ok _ (law11_allowso_ok _ oNil_ok)))))))
noncomputable def law11_LegalStaysl6r (f : Nat) (x0 : Nat) (x1 x2 : Int) (x3 x4 : List Int) (x5 : Int) (x6 : Nat) (x7 : List (List Int)) : Option ((Bool) ⊕ (Unit)) := lrun law11_LegalStaysc 0 [1, 14, 15, 16] [2] (loopOf Tryz.f6 6) f ([V.s (S.ptr 0 0 none 0), V.s (S.sl 1 0 x0 true), V.s (S.i IntKind.i64 x1), V.s (S.i IntKind.i64 x2)]) ([Obj.cells 28 [Seg.arr IntKind.i8 81 x3, Seg.arr IntKind.i8 16 x4, Seg.one [S.i IntKind.i8 x5]], Obj.sli 39 false (Seg.rows [.i .i64, .i .i64, .i .i64, .b] x6 x7)]) law11_LegalStaysl6d
theorem law11_LegalStaysl6_step (f : Nat) (x0 : Nat) (x1 x2 : Int) (x3 x4 : List Int) (x5 : Int) (x6 : Nat) (x7 : List (List Int)) : law11_LegalStaysl6r (f + 1) x0 x1 x2 x3 x4 x5 x6 x7 = law11_LegalStaysl6s (law11_LegalStaysl6r f) x0 x1 x2 x3 x4 x5 x6 x7 := by kernel_rfl
theorem law11_LegalStaysl6_eq : ∀ f, law11_LegalStaysl6r f = law11_LegalStaysl6 f
  | 0 => rfl
  | f + 1 => by funext x0 x1 x2 x3 x4 x5 x6 x7; rw [law11_LegalStaysl6_step, law11_LegalStaysl6_eq f]; rfl
theorem law11_LegalStayss6 : LoopSound Tryz.prog law11_LegalStaysc 0 (loopOf Tryz.f6 6) :=
  loopSound_by mixed law11_LegalStaysc_ok (AllP.of (l' := []) (by kernel_rfl) trivial) (q := 6) (kin := [1, 14, 15, 16]) (kout := [2]) (by kernel_rfl) (by kernel_rfl) fun vs objs K r h => by
    replace h : law11_LegalStaysp6 vs objs K = some r := h
    unfold law11_LegalStaysp6 at h
    split at h
    · skip
      obtain ⟨t, h1, h2⟩ := ob_ok h
      rw [← law11_LegalStaysl6_eq] at h1
      refine ⟨_, law11_LegalStaysl6d, t, many, h1, fun e vs' objs' hd => ?_⟩
      unfold law11_LegalStaysl6d at hd
      split at hd
      · skip
        cases hd
        exact h2
      · skip
        cases hd
        exact h2
      · cases hd
    · cases h
noncomputable def law11_LegalStaysd : V → List Obj → Option (Bool) := fun v objs => match v, objs with
  | V.s (S.b y0), [] => some (y0)
  | _, _ => none
theorem law11_LegalStays_eq (x0 x1 : List Int) (x2 : Int) : fnE law11_LegalStaysc Tryz.f6 ([V.agg [Seg.arr IntKind.i8 81 x0, Seg.arr IntKind.i8 16 x1, Seg.one [S.i IntKind.i8 x2]]]) ([]) law11_LegalStaysd = law11_LegalStays x0 x1 x2 := by kernel_rfl
noncomputable def law11_LegalStaysa {R : Type} (o : Orc) (vs : List V) (objs : List Obj) (K : Bool → V → List Obj → Option R) : Option R := match vs, objs with
  | [V.agg [Seg.arr IntKind.i8 81 x0, Seg.arr IntKind.i8 16 x1, Seg.one [S.i IntKind.i8 x2]]], [] => ob (law11_LegalStays x0 x1 x2) fun y0 => K false (V.s (S.b y0)) ([])
  | _, _ => o 6 vs objs K
noncomputable def law11_LegalStayso (o : Orc) : Orc := hook 6 (law11_LegalStaysa o) o
theorem law11_LegalStays_ok {vs : List V} {objs : List Obj} (x0 x1 : List Int) (x2 : Int) {R : Type} {K : Bool → V → List Obj → Option R} {r : R} (hv : vs = [V.agg [Seg.arr IntKind.i8 81 x0, Seg.arr IntKind.i8 16 x1, Seg.one [S.i IntKind.i8 x2]]]) (ho : objs = []) (h : ob (law11_LegalStays x0 x1 x2) (fun y0 => K false (V.s (S.b y0)) ([])) = some r) :
    ∃ p v objs', K p v objs' = some r ∧ AnyOK Tryz.prog 6 vs objs p v objs' := by
  subst hv
  subst ho
  obtain ⟨t, h1, h2⟩ := ob_ok h
  refine anyOK_of mixed law11_LegalStaysc_ok (fn := Tryz.f6) (b := (Tryz.f6).body.getD .skip) (by kernel_rfl) (by kernel_rfl) (by kernel_rfl) ((law11_LegalStays_eq _ _ _).trans h1) (m := 0) rfl (AllP.of (l' := [loopOf Tryz.f6 6]) (by kernel_rfl) ⟨law11_LegalStayss6, trivial⟩) fun v objs' hd => ?_
  unfold law11_LegalStaysd at hd
  split at hd
  · skip
    cases hd
    exact h2
  · cases hd
theorem law11_LegalStayso_ok (o : Orc) (ho : OSound Tryz.prog o) : OSound Tryz.prog (law11_LegalStayso o) := hook_ok ho fun vs objs K r h => by
  unfold law11_LegalStaysa at h
  split at h
  · skip
    obtain ⟨t, h1, h2⟩ := ob_ok h
    refine anyOK_of mixed law11_LegalStaysc_ok (fn := Tryz.f6) (b := (Tryz.f6).body.getD .skip) (by kernel_rfl) (by kernel_rfl) (by kernel_rfl) ((law11_LegalStays_eq _ _ _).trans h1) (m := 0) rfl (AllP.of (l' := [loopOf Tryz.f6 6]) (by kernel_rfl) ⟨law11_LegalStayss6, trivial⟩) fun v objs' hd => ?_
    unfold law11_LegalStaysd at hd
    split at hd
    · skip
      cases hd
      exact h2
    · cases hd
  · exact ho _ _ _ _ _ h
end Go.Kk.KkLS
