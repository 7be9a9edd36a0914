/- Printed by a tool of this project (KkGen): the program's functions come to the plain ones. -/
import Derived.Test.YtljnnegjhcdlkaaGreatDoorKkMSb
namespace Go.Kk.KkMS
open Go.Proofs Go.Kk.Pl
set_option maxRecDepth 100000
set_option maxHeartbeats 4000000
noncomputable def deed_Game_Canc : Ctx := mkC 104 ((piece_Upo (piece_Kindo (piece_Sideo (board_Ato (board_Hando (move_Checko oNil))))))) [] lpNil
theorem deed_Game_Canc_ok : CtxOK Tryz.prog deed_Game_Canc := mkC_ok ((piece_Upo_ok _ (piece_Kindo_ok _ (piece_Sideo_ok _ (board_Ato_ok _ (board_Hando_ok _ (move_Checko_ok _ oNil_ok)))))))
noncomputable def deed_Game_Cand : V → List Obj → Option (Bool) := fun v objs => match v, objs with
 | .s (.b y0), [] => some (y0)
 | _, _ => none
theorem deed_Game_Can_eq (x0 x1 x2 : Int) (x3 : Bool) (x4 : Int) (x5 : Nat) (x6 x7 : List Int) (x8 : Int) (x9 x10 : List (List Int)) (x11 : Nat) (x12 : List (List Int)) : fnE deed_Game_Canc Tryz.f67 ([.s (.ptr 0 0 none 0), .agg [.one [.i .i64 x0, .i .i64 x1, .i .i64 x2, .b x3]]]) ([.rcells 50 [.one [.ptr 1 0 none 0, .i .u64 x4, .sl 2 0 x5 true]], .rcells 56 [.arr .i8 81 x6, .arr .i8 16 x7, .one [.i .i8 x8], .rows [.i .u64, .i .u64] 32 x9, .rows [.i .u64, .i .u64] 2 x10], .sli 92 true (.rows [.i .i64, .i .i64, .i .i64, .b, .i .i8, .i .i8] x11 x12)]) (pureD 3 deed_Game_Cand) = deed_Game_Can x0 x1 x2 x3 x4 x5 x6 x7 x8 x9 x10 x11 x12 := by kernel_rfl
noncomputable def deed_Game_Cana {R : Type} (o : Orc) (vs : List V) (objs : List Obj) (K : Bool → V → List Obj → Option R) : Option R := match vs, List.map Obj.toRO objs with
 | [.s (.ptr 0 0 none 0), .agg [.one [.i .i64 x0, .i .i64 x1, .i .i64 x2, .b x3]]], [.rcells 50 [.one [.ptr 1 0 none 0, .i .u64 x4, .sl 2 0 x5 true]], .rcells 56 [.arr .i8 81 x6, .arr .i8 16 x7, .one [.i .i8 x8], .rows [.i .u64, .i .u64] 32 x9, .rows [.i .u64, .i .u64] 2 x10], .sli 92 true (.rows [.i .i64, .i .i64, .i .i64, .b, .i .i8, .i .i8] x11 x12)] => ob (deed_Game_Can x0 x1 x2 x3 x4 x5 x6 x7 x8 x9 x10 x11 x12) fun y0 => K true (.s (.b y0)) ([])
 | _, _ => o 67 vs objs K
noncomputable def deed_Game_Cano (o : Orc) : Orc := hook 67 (deed_Game_Cana o) o
theorem deed_Game_Cano_ok (o : Orc) (ho : OSound Tryz.prog o) : OSound Tryz.prog (deed_Game_Cano o) := hook_ok ho fun vs objs K r h => by
 unfold deed_Game_Cana at h
 split at h
 ·skip
  have hq : List.map Obj.toRO objs = _ := (by rename_i hq; first | exact hq | assumption)
  obtain ⟨t, h1, h2⟩ := ob_ok h
  refine purOK_by mixed deed_Game_Canc_ok (m := 3) (fn := Tryz.f67) (b := (Tryz.f67).body.getD .skip) (by kernel_rfl) (by kernel_rfl) (by kernel_rfl) hq (by kernel_rfl) (by kernel_rfl) (AllP.of (l' := []) (by kernel_rfl) trivial) ((deed_Game_Can_eq _ _ _ _ _ _ _ _ _ _ _ _ _).trans h1) fun v objs' hd => ?_
  unfold deed_Game_Cand at hd
  split at hd
  ·skip
   cases hd
   exact h2
  ·cases hd
 ·exact ho _ _ _ _ _ h
noncomputable def deed_Game_handc : Ctx := mkC 54 ((key_Hando (board_Hando oNil))) [] lpNil
theorem deed_Game_handc_ok : CtxOK Tryz.prog deed_Game_handc := mkC_ok ((key_Hando_ok _ (board_Hando_ok _ oNil_ok)))
noncomputable def deed_Game_handd : V → List Obj → Option (Int × Nat × List Int × List Int × Int × List (List Int) × List (List Int) × Nat × List (List Int)) := fun v objs => match v, objs with
 | .tup [], [.cells 50 [.one [.ptr 1 0 none 0, .i .u64 y0, .sl 2 0 y1 true]], .cells 56 [.arr .i8 81 y2, .arr .i8 16 y3, .one [.i .i8 y4], .rows [.i .u64, .i .u64] 32 y5, .rows [.i .u64, .i .u64] 2 y6], .sli 92 false (.rows [.i .i64, .i .i64, .i .i64, .b, .i .i8, .i .i8] y7 y8)] => some (y0, y1, y2, y3, y4, y5, y6, y7, y8)
 | _, _ => none
theorem deed_Game_hand_eq (x0 x1 : Int) (x2 x3 : Int) (x4 : Nat) (x5 x6 : List Int) (x7 : Int) (x8 x9 : List (List Int)) (x10 : Nat) (x11 : List (List Int)) : fnE deed_Game_handc Tryz.f70 ([.s (.ptr 0 0 none 0), .s (.i .i64 x0), .s (.i .i64 x1), .s (.i .i64 x2)]) ([.cells 50 [.one [.ptr 1 0 none 0, .i .u64 x3, .sl 2 0 x4 true]], .cells 56 [.arr .i8 81 x5, .arr .i8 16 x6, .one [.i .i8 x7], .rows [.i .u64, .i .u64] 32 x8, .rows [.i .u64, .i .u64] 2 x9], .sli 92 false (.rows [.i .i64, .i .i64, .i .i64, .b, .i .i8, .i .i8] x10 x11)]) deed_Game_handd = deed_Game_hand x0 x1 x2 x3 x4 x5 x6 x7 x8 x9 x10 x11 := by kernel_rfl
noncomputable def deed_Game_handa {R : Type} (o : Orc) (vs : List V) (objs : List Obj) (K : Bool → V → List Obj → Option R) : Option R := match vs, objs with
 | [.s (.ptr 0 0 none 0), .s (.i .i64 x0), .s (.i .i64 x1), .s (.i .i64 x2)], [.cells 50 [.one [.ptr 1 0 none 0, .i .u64 x3, .sl 2 0 x4 true]], .cells 56 [.arr .i8 81 x5, .arr .i8 16 x6, .one [.i .i8 x7], .rows [.i .u64, .i .u64] 32 x8, .rows [.i .u64, .i .u64] 2 x9], .sli 92 false (.rows [.i .i64, .i .i64, .i .i64, .b, .i .i8, .i .i8] x10 x11)] => ob (deed_Game_hand x0 x1 x2 x3 x4 x5 x6 x7 x8 x9 x10 x11) fun z => K false (.tup []) ([.cells 50 [.one [.ptr 1 0 none 0, .i .u64 (z.1), .sl 2 0 (z.2.1) true]], .cells 56 [.arr .i8 81 (z.2.2.1), .arr .i8 16 (z.2.2.2.1), .one [.i .i8 (z.2.2.2.2.1)], .rows [.i .u64, .i .u64] 32 (z.2.2.2.2.2.1), .rows [.i .u64, .i .u64] 2 (z.2.2.2.2.2.2.1)], .sli 92 false (.rows [.i .i64, .i .i64, .i .i64, .b, .i .i8, .i .i8] (z.2.2.2.2.2.2.2.1) (z.2.2.2.2.2.2.2.2))])
 | _, _ => o 70 vs objs K
noncomputable def deed_Game_hando (o : Orc) : Orc := hook 70 (deed_Game_handa o) o
theorem deed_Game_hando_ok (o : Orc) (ho : OSound Tryz.prog o) : OSound Tryz.prog (deed_Game_hando o) := hook_ok ho fun vs objs K r h => by
 unfold deed_Game_handa at h
 split at h
 ·skip
  obtain ⟨t, h1, h2⟩ := ob_ok h
  refine anyOK_of mixed deed_Game_handc_ok (fn := Tryz.f70) (b := (Tryz.f70).body.getD .skip) (by kernel_rfl) (by kernel_rfl) (by kernel_rfl) ((deed_Game_hand_eq _ _ _ _ _ _ _ _ _ _ _ _).trans h1) (m := 3) rfl (AllP.of (l' := []) (by kernel_rfl) trivial) fun v objs' hd => ?_
  unfold deed_Game_handd at hd
  split at hd
  ·skip
   cases hd
   exact h2
  ·cases hd
 ·exact ho _ _ _ _ _ h
noncomputable def deed_Game_putc : Ctx := mkC 32 ((board_Puto (key_Pieceo (board_Ato oNil)))) [] lpNil
theorem deed_Game_putc_ok : CtxOK Tryz.prog deed_Game_putc := mkC_ok ((board_Puto_ok _ (key_Pieceo_ok _ (board_Ato_ok _ oNil_ok))))
noncomputable def deed_Game_putd : V → List Obj → Option (Int × Nat × List Int × List Int × Int × List (List Int) × List (List Int) × Nat × List (List Int)) := fun v objs => match v, objs with
 | .tup [], [.cells 50 [.one [.ptr 1 0 none 0, .i .u64 y0, .sl 2 0 y1 true]], .cells 56 [.arr .i8 81 y2, .arr .i8 16 y3, .one [.i .i8 y4], .rows [.i .u64, .i .u64] 32 y5, .rows [.i .u64, .i .u64] 2 y6], .sli 92 false (.rows [.i .i64, .i .i64, .i .i64, .b, .i .i8, .i .i8] y7 y8)] => some (y0, y1, y2, y3, y4, y5, y6, y7, y8)
 | _, _ => none
theorem deed_Game_put_eq (x0 x1 x2 : Int) (x3 : Nat) (x4 x5 : List Int) (x6 : Int) (x7 x8 : List (List Int)) (x9 : Nat) (x10 : List (List Int)) : fnE deed_Game_putc Tryz.f71 ([.s (.ptr 0 0 none 0), .s (.i .i64 x0), .s (.i .i8 x1)]) ([.cells 50 [.one [.ptr 1 0 none 0, .i .u64 x2, .sl 2 0 x3 true]], .cells 56 [.arr .i8 81 x4, .arr .i8 16 x5, .one [.i .i8 x6], .rows [.i .u64, .i .u64] 32 x7, .rows [.i .u64, .i .u64] 2 x8], .sli 92 false (.rows [.i .i64, .i .i64, .i .i64, .b, .i .i8, .i .i8] x9 x10)]) deed_Game_putd = deed_Game_put x0 x1 x2 x3 x4 x5 x6 x7 x8 x9 x10 := by kernel_rfl
noncomputable def deed_Game_puta {R : Type} (o : Orc) (vs : List V) (objs : List Obj) (K : Bool → V → List Obj → Option R) : Option R := match vs, objs with
 | [.s (.ptr 0 0 none 0), .s (.i .i64 x0), .s (.i .i8 x1)], [.cells 50 [.one [.ptr 1 0 none 0, .i .u64 x2, .sl 2 0 x3 true]], .cells 56 [.arr .i8 81 x4, .arr .i8 16 x5, .one [.i .i8 x6], .rows [.i .u64, .i .u64] 32 x7, .rows [.i .u64, .i .u64] 2 x8], .sli 92 false (.rows [.i .i64, .i .i64, .i .i64, .b, .i .i8, .i .i8] x9 x10)] => ob (deed_Game_put x0 x1 x2 x3 x4 x5 x6 x7 x8 x9 x10) fun z => K false (.tup []) ([.cells 50 [.one [.ptr 1 0 none 0, .i .u64 (z.1), .sl 2 0 (z.2.1) true]], .cells 56 [.arr .i8 81 (z.2.2.1), .arr .i8 16 (z.2.2.2.1), .one [.i .i8 (z.2.2.2.2.1)], .rows [.i .u64, .i .u64] 32 (z.2.2.2.2.2.1), .rows [.i .u64, .i .u64] 2 (z.2.2.2.2.2.2.1)], .sli 92 false (.rows [.i .i64, .i .i64, .i .i64, .b, .i .i8, .i .i8] (z.2.2.2.2.2.2.2.1) (z.2.2.2.2.2.2.2.2))])
 | _, _ => o 71 vs objs K
noncomputable def deed_Game_puto (o : Orc) : Orc := hook 71 (deed_Game_puta o) o
theorem deed_Game_puto_ok (o : Orc) (ho : OSound Tryz.prog o) : OSound Tryz.prog (deed_Game_puto o) := hook_ok ho fun vs objs K r h => by
 unfold deed_Game_puta at h
 split at h
 ·skip
  obtain ⟨t, h1, h2⟩ := ob_ok h
  refine anyOK_of mixed deed_Game_putc_ok (fn := Tryz.f71) (b := (Tryz.f71).body.getD .skip) (by kernel_rfl) (by kernel_rfl) (by kernel_rfl) ((deed_Game_put_eq _ _ _ _ _ _ _ _ _ _ _).trans h1) (m := 3) rfl (AllP.of (l' := []) (by kernel_rfl) trivial) fun v objs' hd => ?_
  unfold deed_Game_putd at hd
  split at hd
  ·skip
   cases hd
   exact h2
  ·cases hd
 ·exact ho _ _ _ _ _ h
noncomputable def deed_Game_turnc : Ctx := mkC 26 ((key_Sideo oNil)) [] lpNil
theorem deed_Game_turnc_ok : CtxOK Tryz.prog deed_Game_turnc := mkC_ok ((key_Sideo_ok _ oNil_ok))
noncomputable def deed_Game_turnd : V → List Obj → Option (Int × Nat × List Int × List Int × Int × List (List Int) × List (List Int) × Nat × List (List Int)) := fun v objs => match v, objs with
 | .tup [], [.cells 50 [.one [.ptr 1 0 none 0, .i .u64 y0, .sl 2 0 y1 true]], .cells 56 [.arr .i8 81 y2, .arr .i8 16 y3, .one [.i .i8 y4], .rows [.i .u64, .i .u64] 32 y5, .rows [.i .u64, .i .u64] 2 y6], .sli 92 false (.rows [.i .i64, .i .i64, .i .i64, .b, .i .i8, .i .i8] y7 y8)] => some (y0, y1, y2, y3, y4, y5, y6, y7, y8)
 | _, _ => none
theorem deed_Game_turn_eq (x0 : Int) (x1 : Nat) (x2 x3 : List Int) (x4 : Int) (x5 x6 : List (List Int)) (x7 : Nat) (x8 : List (List Int)) : fnE deed_Game_turnc Tryz.f74 ([.s (.ptr 0 0 none 0)]) ([.cells 50 [.one [.ptr 1 0 none 0, .i .u64 x0, .sl 2 0 x1 true]], .cells 56 [.arr .i8 81 x2, .arr .i8 16 x3, .one [.i .i8 x4], .rows [.i .u64, .i .u64] 32 x5, .rows [.i .u64, .i .u64] 2 x6], .sli 92 false (.rows [.i .i64, .i .i64, .i .i64, .b, .i .i8, .i .i8] x7 x8)]) deed_Game_turnd = deed_Game_turn x0 x1 x2 x3 x4 x5 x6 x7 x8 := by kernel_rfl
noncomputable def deed_Game_turna {R : Type} (o : Orc) (vs : List V) (objs : List Obj) (K : Bool → V → List Obj → Option R) : Option R := match vs, objs with
 | [.s (.ptr 0 0 none 0)], [.cells 50 [.one [.ptr 1 0 none 0, .i .u64 x0, .sl 2 0 x1 true]], .cells 56 [.arr .i8 81 x2, .arr .i8 16 x3, .one [.i .i8 x4], .rows [.i .u64, .i .u64] 32 x5, .rows [.i .u64, .i .u64] 2 x6], .sli 92 false (.rows [.i .i64, .i .i64, .i .i64, .b, .i .i8, .i .i8] x7 x8)] => ob (deed_Game_turn x0 x1 x2 x3 x4 x5 x6 x7 x8) fun z => K false (.tup []) ([.cells 50 [.one [.ptr 1 0 none 0, .i .u64 (z.1), .sl 2 0 (z.2.1) true]], .cells 56 [.arr .i8 81 (z.2.2.1), .arr .i8 16 (z.2.2.2.1), .one [.i .i8 (z.2.2.2.2.1)], .rows [.i .u64, .i .u64] 32 (z.2.2.2.2.2.1), .rows [.i .u64, .i .u64] 2 (z.2.2.2.2.2.2.1)], .sli 92 false (.rows [.i .i64, .i .i64, .i .i64, .b, .i .i8, .i .i8] (z.2.2.2.2.2.2.2.1) (z.2.2.2.2.2.2.2.2))])
 | _, _ => o 74 vs objs K
noncomputable def deed_Game_turno (o : Orc) : Orc := hook 74 (deed_Game_turna o) o
theorem deed_Game_turno_ok (o : Orc) (ho : OSound Tryz.prog o) : OSound Tryz.prog (deed_Game_turno o) := hook_ok ho fun vs objs K r h => by
 unfold deed_Game_turna at h
 split at h
 ·skip
  obtain ⟨t, h1, h2⟩ := ob_ok h
  refine anyOK_of mixed deed_Game_turnc_ok (fn := Tryz.f74) (b := (Tryz.f74).body.getD .skip) (by kernel_rfl) (by kernel_rfl) (by kernel_rfl) ((deed_Game_turn_eq _ _ _ _ _ _ _ _ _).trans h1) (m := 3) rfl (AllP.of (l' := []) (by kernel_rfl) trivial) fun v objs' hd => ?_
  unfold deed_Game_turnd at hd
  split at hd
  ·skip
   cases hd
   exact h2
  ·cases hd
 ·exact ho _ _ _ _ _ h
noncomputable def piece_Rawc : Ctx := mkC 13 ((piece_Ofo oNil)) [] lpNil
theorem piece_Rawc_ok : CtxOK Tryz.prog piece_Rawc := mkC_ok ((piece_Ofo_ok _ oNil_ok))
noncomputable def piece_Rawd : V → List Obj → Option (Int) := fun v objs => match v, objs with
 | .s (.i .i64 y0), [] => some (y0)
 | _, _ => none
theorem piece_Raw_eq (x0 : Int) : fnE piece_Rawc Tryz.f73 ([.s (.i .i64 x0)]) ([]) piece_Rawd = piece_Raw x0 := by kernel_rfl
noncomputable def piece_Rawa {R : Type} (o : Orc) (vs : List V) (objs : List Obj) (K : Bool → V → List Obj → Option R) : Option R := match vs, objs with
 | [.s (.i .i64 x0)], [] => ob (piece_Raw x0) fun y0 => K false (.s (.i .i64 y0)) ([])
 | _, _ => o 73 vs objs K
noncomputable def piece_Rawo (o : Orc) : Orc := hook 73 (piece_Rawa o) o
theorem piece_Rawo_ok (o : Orc) (ho : OSound Tryz.prog o) : OSound Tryz.prog (piece_Rawo o) := hook_ok ho fun vs objs K r h => by
 unfold piece_Rawa at h
 split at h
 ·skip
  obtain ⟨t, h1, h2⟩ := ob_ok h
  refine anyOK_of mixed piece_Rawc_ok (fn := Tryz.f73) (b := (Tryz.f73).body.getD .skip) (by kernel_rfl) (by kernel_rfl) (by kernel_rfl) ((piece_Raw_eq _).trans h1) (m := 0) rfl (AllP.of (l' := []) (by kernel_rfl) trivial) fun v objs' hd => ?_
  unfold piece_Rawd at hd
  split at hd
  ·skip
   cases hd
   exact h2
  ·cases hd
 ·exact ho _ _ _ _ _ h
noncomputable def deed_Game_Makec : Ctx := mkC 97 ((piece_Rawo (piece_Upo (piece_Kindo (deed_Game_turno (deed_Game_puto (deed_Game_hando (piece_Ofo (board_Ato (deed_Game_Cano oNil)))))))))) [] lpNil
theorem deed_Game_Makec_ok : CtxOK Tryz.prog deed_Game_Makec := mkC_ok ((piece_Rawo_ok _ (piece_Upo_ok _ (piece_Kindo_ok _ (deed_Game_turno_ok _ (deed_Game_puto_ok _ (deed_Game_hando_ok _ (piece_Ofo_ok _ (board_Ato_ok _ (deed_Game_Cano_ok _ oNil_ok))))))))))
noncomputable def deed_Game_Maked : V → List Obj → Option ((Bool × Int × Nat × List Int × List Int × Int × List (List Int) × List (List Int) × Nat × List (List Int)) ⊕ (Bool × Int × Nat × List Int × List Int × Int × List (List Int) × List (List Int) × Nat × List (List Int))) := fun v objs => match v, objs with
 | .s (.b y0), [.cells 50 [.one [.ptr 1 0 none 0, .i .u64 y1, .sl 2 0 y2 true]], .cells 56 [.arr .i8 81 y3, .arr .i8 16 y4, .one [.i .i8 y5], .rows [.i .u64, .i .u64] 32 y6, .rows [.i .u64, .i .u64] 2 y7], .sli 92 false (.rows [.i .i64, .i .i64, .i .i64, .b, .i .i8, .i .i8] y8 y9)] => some (.inl (y0, y1, y2, y3, y4, y5, y6, y7, y8, y9))
 | .s (.b y0), [.cells 50 [.one [.ptr 1 0 none 0, .i .u64 y1, .sl 3 0 y2 true]], .cells 56 [.arr .i8 81 y3, .arr .i8 16 y4, .one [.i .i8 y5], .rows [.i .u64, .i .u64] 32 y6, .rows [.i .u64, .i .u64] 2 y7], Obj.dead, .sli 92 false (.rows [.i .i64, .i .i64, .i .i64, .b, .i .i8, .i .i8] y8 y9)] => some (.inr (y0, y1, y2, y3, y4, y5, y6, y7, y8, y9))
 | _, _ => none
theorem deed_Game_Make_eq (x0 x1 x2 : Int) (x3 : Bool) (x4 : Int) (x5 : Nat) (x6 x7 : List Int) (x8 : Int) (x9 x10 : List (List Int)) (x11 : Nat) (x12 : List (List Int)) : fnE deed_Game_Makec Tryz.f34 ([.s (.ptr 0 0 none 0), .agg [.one [.i .i64 x0, .i .i64 x1, .i .i64 x2, .b x3]]]) ([.cells 50 [.one [.ptr 1 0 none 0, .i .u64 x4, .sl 2 0 x5 true]], .cells 56 [.arr .i8 81 x6, .arr .i8 16 x7, .one [.i .i8 x8], .rows [.i .u64, .i .u64] 32 x9, .rows [.i .u64, .i .u64] 2 x10], .sli 92 false (.rows [.i .i64, .i .i64, .i .i64, .b, .i .i8, .i .i8] x11 x12)]) deed_Game_Maked = deed_Game_Make x0 x1 x2 x3 x4 x5 x6 x7 x8 x9 x10 x11 x12 := by kernel_rfl
noncomputable def deed_Game_Makea {R : Type} (o : Orc) (vs : List V) (objs : List Obj) (K : Bool → V → List Obj → Option R) : Option R := match vs, objs with
 | [.s (.ptr 0 0 none 0), .agg [.one [.i .i64 x0, .i .i64 x1, .i .i64 x2, .b x3]]], [.cells 50 [.one [.ptr 1 0 none 0, .i .u64 x4, .sl 2 0 x5 true]], .cells 56 [.arr .i8 81 x6, .arr .i8 16 x7, .one [.i .i8 x8], .rows [.i .u64, .i .u64] 32 x9, .rows [.i .u64, .i .u64] 2 x10], .sli 92 false (.rows [.i .i64, .i .i64, .i .i64, .b, .i .i8, .i .i8] x11 x12)] => ob (deed_Game_Make x0 x1 x2 x3 x4 x5 x6 x7 x8 x9 x10 x11 x12) fun t0 => sw t0 (fun z => K false (.s (.b (z.1))) ([.cells 50 [.one [.ptr 1 0 none 0, .i .u64 (z.2.1), .sl 2 0 (z.2.2.1) true]], .cells 56 [.arr .i8 81 (z.2.2.2.1), .arr .i8 16 (z.2.2.2.2.1), .one [.i .i8 (z.2.2.2.2.2.1)], .rows [.i .u64, .i .u64] 32 (z.2.2.2.2.2.2.1), .rows [.i .u64, .i .u64] 2 (z.2.2.2.2.2.2.2.1)], .sli 92 false (.rows [.i .i64, .i .i64, .i .i64, .b, .i .i8, .i .i8] (z.2.2.2.2.2.2.2.2.1) (z.2.2.2.2.2.2.2.2.2))])) (fun z => K false (.s (.b (z.1))) ([.cells 50 [.one [.ptr 1 0 none 0, .i .u64 (z.2.1), .sl 3 0 (z.2.2.1) true]], .cells 56 [.arr .i8 81 (z.2.2.2.1), .arr .i8 16 (z.2.2.2.2.1), .one [.i .i8 (z.2.2.2.2.2.1)], .rows [.i .u64, .i .u64] 32 (z.2.2.2.2.2.2.1), .rows [.i .u64, .i .u64] 2 (z.2.2.2.2.2.2.2.1)], Obj.dead, .sli 92 false (.rows [.i .i64, .i .i64, .i .i64, .b, .i .i8, .i .i8] (z.2.2.2.2.2.2.2.2.1) (z.2.2.2.2.2.2.2.2.2))]))
 | _, _ => o 34 vs objs K
noncomputable def deed_Game_Makeo (o : Orc) : Orc := hook 34 (deed_Game_Makea o) o
theorem deed_Game_Makeo_ok (o : Orc) (ho : OSound Tryz.prog o) : OSound Tryz.prog (deed_Game_Makeo o) := hook_ok ho fun vs objs K r h => by
 unfold deed_Game_Makea at h
 split at h
 ·skip
  obtain ⟨t, h1, h2⟩ := ob_ok h
  refine anyOK_of mixed deed_Game_Makec_ok (fn := Tryz.f34) (b := (Tryz.f34).body.getD .skip) (by kernel_rfl) (by kernel_rfl) (by kernel_rfl) ((deed_Game_Make_eq _ _ _ _ _ _ _ _ _ _ _ _ _).trans h1) (m := 3) rfl (AllP.of (l' := []) (by kernel_rfl) trivial) fun v objs' hd => ?_
  unfold deed_Game_Maked at hd
  split at hd
  ·skip
   cases hd
   exact h2
  ·skip
   cases hd
   exact h2
  ·cases hd
 ·exact ho _ _ _ _ _ h
noncomputable def attack_InCheckc : Ctx := mkC 10 ((set_Emptyo (attack_Checkerso oNil))) [] lpNil
theorem attack_InCheckc_ok : CtxOK Tryz.prog attack_InCheckc := mkC_ok ((set_Emptyo_ok _ (attack_Checkerso_ok _ oNil_ok)))
noncomputable def attack_InCheckd : V → List Obj → Option (Bool) := fun v objs => match v, objs with
 | .s (.b y0), [] => some (y0)
 | _, _ => none
theorem attack_InCheck_eq (x0 : Int) (x1 x2 : List Int) (x3 : Int) (x4 x5 : List (List Int)) : fnE attack_InCheckc Tryz.f31 ([.s (.ptr 0 0 none 0), .s (.i .i64 x0)]) ([.rcells 56 [.arr .i8 81 x1, .arr .i8 16 x2, .one [.i .i8 x3], .rows [.i .u64, .i .u64] 32 x4, .rows [.i .u64, .i .u64] 2 x5]]) (pureD 1 attack_InCheckd) = attack_InCheck x0 x1 x2 x3 x4 x5 := by kernel_rfl
noncomputable def attack_InChecka {R : Type} (o : Orc) (vs : List V) (objs : List Obj) (K : Bool → V → List Obj → Option R) : Option R := match vs, List.map Obj.toRO objs with
 | [.s (.ptr 0 0 none 0), .s (.i .i64 x0)], [.rcells 56 [.arr .i8 81 x1, .arr .i8 16 x2, .one [.i .i8 x3], .rows [.i .u64, .i .u64] 32 x4, .rows [.i .u64, .i .u64] 2 x5]] => ob (attack_InCheck x0 x1 x2 x3 x4 x5) fun y0 => K true (.s (.b y0)) ([])
 | _, _ => o 31 vs objs K
noncomputable def attack_InChecko (o : Orc) : Orc := hook 31 (attack_InChecka o) o
theorem attack_InChecko_ok (o : Orc) (ho : OSound Tryz.prog o) : OSound Tryz.prog (attack_InChecko o) := hook_ok ho fun vs objs K r h => by
 unfold attack_InChecka at h
 split at h
 ·skip
  have hq : List.map Obj.toRO objs = _ := (by rename_i hq; first | exact hq | assumption)
  obtain ⟨t, h1, h2⟩ := ob_ok h
  refine purOK_by mixed attack_InCheckc_ok (m := 1) (fn := Tryz.f31) (b := (Tryz.f31).body.getD .skip) (by kernel_rfl) (by kernel_rfl) (by kernel_rfl) hq (by kernel_rfl) (by kernel_rfl) (AllP.of (l' := []) (by kernel_rfl) trivial) ((attack_InCheck_eq _ _ _ _ _ _).trans h1) fun v objs' hd => ?_
  unfold attack_InCheckd at hd
  split at hd
  ·skip
   cases hd
   exact h2
  ·cases hd
 ·exact ho _ _ _ _ _ h
noncomputable def deed_Game_Backc : Ctx := mkC 87 ((piece_Rawo (piece_Kindo (deed_Game_hando (deed_Game_puto (deed_Game_turno oNil)))))) [] lpNil
theorem deed_Game_Backc_ok : CtxOK Tryz.prog deed_Game_Backc := mkC_ok ((piece_Rawo_ok _ (piece_Kindo_ok _ (deed_Game_hando_ok _ (deed_Game_puto_ok _ (deed_Game_turno_ok _ oNil_ok))))))
noncomputable def deed_Game_Backd : V → List Obj → Option (Bool × Int × Nat × List Int × List Int × Int × List (List Int) × List (List Int) × Nat × List (List Int)) := fun v objs => match v, objs with
 | .s (.b y0), [.cells 50 [.one [.ptr 1 0 none 0, .i .u64 y1, .sl 2 0 y2 true]], .cells 56 [.arr .i8 81 y3, .arr .i8 16 y4, .one [.i .i8 y5], .rows [.i .u64, .i .u64] 32 y6, .rows [.i .u64, .i .u64] 2 y7], .sli 92 false (.rows [.i .i64, .i .i64, .i .i64, .b, .i .i8, .i .i8] y8 y9)] => some (y0, y1, y2, y3, y4, y5, y6, y7, y8, y9)
 | _, _ => none
theorem deed_Game_Back_eq (x0 : Int) (x1 : Nat) (x2 x3 : List Int) (x4 : Int) (x5 x6 : List (List Int)) (x7 : Nat) (x8 : List (List Int)) : fnE deed_Game_Backc Tryz.f35 ([.s (.ptr 0 0 none 0)]) ([.cells 50 [.one [.ptr 1 0 none 0, .i .u64 x0, .sl 2 0 x1 true]], .cells 56 [.arr .i8 81 x2, .arr .i8 16 x3, .one [.i .i8 x4], .rows [.i .u64, .i .u64] 32 x5, .rows [.i .u64, .i .u64] 2 x6], .sli 92 false (.rows [.i .i64, .i .i64, .i .i64, .b, .i .i8, .i .i8] x7 x8)]) deed_Game_Backd = deed_Game_Back x0 x1 x2 x3 x4 x5 x6 x7 x8 := by kernel_rfl
noncomputable def deed_Game_Backa {R : Type} (o : Orc) (vs : List V) (objs : List Obj) (K : Bool → V → List Obj → Option R) : Option R := match vs, objs with
 | [.s (.ptr 0 0 none 0)], [.cells 50 [.one [.ptr 1 0 none 0, .i .u64 x0, .sl 2 0 x1 true]], .cells 56 [.arr .i8 81 x2, .arr .i8 16 x3, .one [.i .i8 x4], .rows [.i .u64, .i .u64] 32 x5, .rows [.i .u64, .i .u64] 2 x6], .sli 92 false (.rows [.i .i64, .i .i64, .i .i64, .b, .i .i8, .i .i8] x7 x8)] => ob (deed_Game_Back x0 x1 x2 x3 x4 x5 x6 x7 x8) fun z => K false (.s (.b (z.1))) ([.cells 50 [.one [.ptr 1 0 none 0, .i .u64 (z.2.1), .sl 2 0 (z.2.2.1) true]], .cells 56 [.arr .i8 81 (z.2.2.2.1), .arr .i8 16 (z.2.2.2.2.1), .one [.i .i8 (z.2.2.2.2.2.1)], .rows [.i .u64, .i .u64] 32 (z.2.2.2.2.2.2.1), .rows [.i .u64, .i .u64] 2 (z.2.2.2.2.2.2.2.1)], .sli 92 false (.rows [.i .i64, .i .i64, .i .i64, .b, .i .i8, .i .i8] (z.2.2.2.2.2.2.2.2.1) (z.2.2.2.2.2.2.2.2.2))])
 | _, _ => o 35 vs objs K
noncomputable def deed_Game_Backo (o : Orc) : Orc := hook 35 (deed_Game_Backa o) o
theorem deed_Game_Backo_ok (o : Orc) (ho : OSound Tryz.prog o) : OSound Tryz.prog (deed_Game_Backo o) := hook_ok ho fun vs objs K r h => by
 unfold deed_Game_Backa at h
 split at h
 ·skip
  obtain ⟨t, h1, h2⟩ := ob_ok h
  refine anyOK_of mixed deed_Game_Backc_ok (fn := Tryz.f35) (b := (Tryz.f35).body.getD .skip) (by kernel_rfl) (by kernel_rfl) (by kernel_rfl) ((deed_Game_Back_eq _ _ _ _ _ _ _ _ _).trans h1) (m := 3) rfl (AllP.of (l' := []) (by kernel_rfl) trivial) fun v objs' hd => ?_
  unfold deed_Game_Backd at hd
  split at hd
  ·skip
   cases hd
   exact h2
  ·cases hd
 ·exact ho _ _ _ _ _ h
noncomputable def mate_Gives_v1c : Ctx := mkC 24 ((deed_Game_Backo (attack_InChecko (deed_Game_Makeo oNil)))) [] lpNil
theorem mate_Gives_v1c_ok : CtxOK Tryz.prog mate_Gives_v1c := mkC_ok ((deed_Game_Backo_ok _ (attack_InChecko_ok _ (deed_Game_Makeo_ok _ oNil_ok))))
noncomputable def mate_Gives_v1d : V → List Obj → Option ((Bool × Int × Nat × List Int × List Int × Int × List (List Int) × List (List Int) × Nat × List (List Int)) ⊕ (Bool × Int × Nat × List Int × List Int × Int × List (List Int) × List (List Int) × Nat × List (List Int))) := fun v objs => match v, objs with
 | .s (.b y0), [.cells 50 [.one [.ptr 1 0 none 0, .i .u64 y1, .sl 2 0 y2 true]], .cells 56 [.arr .i8 81 y3, .arr .i8 16 y4, .one [.i .i8 y5], .rows [.i .u64, .i .u64] 32 y6, .rows [.i .u64, .i .u64] 2 y7], .sli 92 false (.rows [.i .i64, .i .i64, .i .i64, .b, .i .i8, .i .i8] y8 y9)] => some (.inl (y0, y1, y2, y3, y4, y5, y6, y7, y8, y9))
 | .s (.b y0), [.cells 50 [.one [.ptr 1 0 none 0, .i .u64 y1, .sl 3 0 y2 true]], .cells 56 [.arr .i8 81 y3, .arr .i8 16 y4, .one [.i .i8 y5], .rows [.i .u64, .i .u64] 32 y6, .rows [.i .u64, .i .u64] 2 y7], Obj.dead, .sli 92 false (.rows [.i .i64, .i .i64, .i .i64, .b, .i .i8, .i .i8] y8 y9)] => some (.inr (y0, y1, y2, y3, y4, y5, y6, y7, y8, y9))
 | _, _ => none
theorem mate_Gives_v1_eq (x0 x1 x2 : Int) (x3 : Bool) (x4 : Int) (x5 : Nat) (x6 x7 : List Int) (x8 : Int) (x9 x10 : List (List Int)) (x11 : Nat) (x12 : List (List Int)) : fnE mate_Gives_v1c Tryz.f21 ([.s (.ptr 0 0 none 0), .agg [.one [.i .i64 x0, .i .i64 x1, .i .i64 x2, .b x3]]]) ([.cells 50 [.one [.ptr 1 0 none 0, .i .u64 x4, .sl 2 0 x5 true]], .cells 56 [.arr .i8 81 x6, .arr .i8 16 x7, .one [.i .i8 x8], .rows [.i .u64, .i .u64] 32 x9, .rows [.i .u64, .i .u64] 2 x10], .sli 92 false (.rows [.i .i64, .i .i64, .i .i64, .b, .i .i8, .i .i8] x11 x12)]) mate_Gives_v1d = mate_Gives_v1 x0 x1 x2 x3 x4 x5 x6 x7 x8 x9 x10 x11 x12 := by kernel_rfl
noncomputable def mate_Gives_v1a {R : Type} (o : Orc) (vs : List V) (objs : List Obj) (K : Bool → V → List Obj → Option R) : Option R := match vs, objs with
 | [.s (.ptr 0 0 none 0), .agg [.one [.i .i64 x0, .i .i64 x1, .i .i64 x2, .b x3]]], [.cells 50 [.one [.ptr 1 0 none 0, .i .u64 x4, .sl 2 0 x5 true]], .cells 56 [.arr .i8 81 x6, .arr .i8 16 x7, .one [.i .i8 x8], .rows [.i .u64, .i .u64] 32 x9, .rows [.i .u64, .i .u64] 2 x10], .sli 92 false (.rows [.i .i64, .i .i64, .i .i64, .b, .i .i8, .i .i8] x11 x12)] => ob (mate_Gives_v1 x0 x1 x2 x3 x4 x5 x6 x7 x8 x9 x10 x11 x12) fun t0 => sw t0 (fun z => K false (.s (.b (z.1))) ([.cells 50 [.one [.ptr 1 0 none 0, .i .u64 (z.2.1), .sl 2 0 (z.2.2.1) true]], .cells 56 [.arr .i8 81 (z.2.2.2.1), .arr .i8 16 (z.2.2.2.2.1), .one [.i .i8 (z.2.2.2.2.2.1)], .rows [.i .u64, .i .u64] 32 (z.2.2.2.2.2.2.1), .rows [.i .u64, .i .u64] 2 (z.2.2.2.2.2.2.2.1)], .sli 92 false (.rows [.i .i64, .i .i64, .i .i64, .b, .i .i8, .i .i8] (z.2.2.2.2.2.2.2.2.1) (z.2.2.2.2.2.2.2.2.2))])) (fun z => K false (.s (.b (z.1))) ([.cells 50 [.one [.ptr 1 0 none 0, .i .u64 (z.2.1), .sl 3 0 (z.2.2.1) true]], .cells 56 [.arr .i8 81 (z.2.2.2.1), .arr .i8 16 (z.2.2.2.2.1), .one [.i .i8 (z.2.2.2.2.2.1)], .rows [.i .u64, .i .u64] 32 (z.2.2.2.2.2.2.1), .rows [.i .u64, .i .u64] 2 (z.2.2.2.2.2.2.2.1)], Obj.dead, .sli 92 false (.rows [.i .i64, .i .i64, .i .i64, .b, .i .i8, .i .i8] (z.2.2.2.2.2.2.2.2.1) (z.2.2.2.2.2.2.2.2.2))]))
 | _, _ => o 21 vs objs K
noncomputable def mate_Gives_v1o (o : Orc) : Orc := hook 21 (mate_Gives_v1a o) o
theorem mate_Gives_v1o_ok (o : Orc) (ho : OSound Tryz.prog o) : OSound Tryz.prog (mate_Gives_v1o o) := hook_ok ho fun vs objs K r h => by
 unfold mate_Gives_v1a at h
 split at h
 ·skip
  obtain ⟨t, h1, h2⟩ := ob_ok h
  refine anyOK_of mixed mate_Gives_v1c_ok (fn := Tryz.f21) (b := (Tryz.f21).body.getD .skip) (by kernel_rfl) (by kernel_rfl) (by kernel_rfl) ((mate_Gives_v1_eq _ _ _ _ _ _ _ _ _ _ _ _ _).trans h1) (m := 3) rfl (AllP.of (l' := []) (by kernel_rfl) trivial) fun v objs' hd => ?_
  unfold mate_Gives_v1d at hd
  split at hd
  ·skip
   cases hd
   exact h2
  ·skip
   cases hd
   exact h2
  ·cases hd
 ·exact ho _ _ _ _ _ h
noncomputable def mate_Checks_v1l4d : Ex → List V → List Obj → Option (Nat × Nat × List (List Int)) := fun e vs objs => match e, vs, objs with
 | .exit 0, [.s (.sl 0 0 y0 true)], [.sli 39 false (.rows [.i .i64, .i .i64, .i .i64, .b] y1 y2)] => some (y0, y1, y2)
 | _, _, _ => none
noncomputable def mate_Checks_v1p4 {R : Type} (vs : List V) (objs : List Obj) (K : Ex → List V → List Obj → Option R) : Option R := match vs, objs with
 | [.s (.ptr 0 0 none 0), .s (.sl 1 0 x0 true), .s (.sl 2 0 x1 true), .s (.i .i64 x2), .s (.i .i64 x3)], [.cells 50 [.one [.ptr 3 0 none 0, .i .u64 x4, .sl 4 0 x5 true]], .sli 39 false (.rows [.i .i64, .i .i64, .i .i64, .b] x6 x7), .sli 39 false (.rows [.i .i64, .i .i64, .i .i64, .b] x8 x9), .cells 56 [.arr .i8 81 x10, .arr .i8 16 x11, .one [.i .i8 x12], .rows [.i .u64, .i .u64] 32 x13, .rows [.i .u64, .i .u64] 2 x14], .sli 92 false (.rows [.i .i64, .i .i64, .i .i64, .b, .i .i8, .i .i8] x15 x16)] => ob (mate_Checks_v1l4 many x0 x1 x2 x3 x4 x5 x6 x7 x8 x9 x10 x11 x12 x13 x14 x15 x16) fun z => K (.exit 0) ([.s (.sl 0 0 (z.1) true)]) ([.sli 39 false (.rows [.i .i64, .i .i64, .i .i64, .b] (z.2.1) (z.2.2))])
 | _, _ => none
noncomputable def mate_Checks_v1lp : {R : Type} → Nat → List V → List Obj → (Ex → List V → List Obj → Option R) → Option R := fun q vs objs K => bif Nat.beq q 4 then mate_Checks_v1p4 vs objs K else none
noncomputable def mate_Checks_v1c : Ctx := mkC 28 ((mate_Gives_v1o (legal_Allo (deed_Newo oNil)))) [(4, [3, 4, 13, 14, 15], [4])] mate_Checks_v1lp
theorem mate_Checks_v1c_ok : CtxOK Tryz.prog mate_Checks_v1c := mkC_ok ((mate_Gives_v1o_ok _ (legal_Allo_ok _ (deed_Newo_ok _ oNil_ok))))
noncomputable def mate_Checks_v1l4r (f : Nat) (x0 x1 : Nat) (x2 x3 x4 : Int) (x5 x6 : Nat) (x7 : List (List Int)) (x8 : Nat) (x9 : List (List Int)) (x10 x11 : List Int) (x12 : Int) (x13 x14 : List (List Int)) (x15 : Nat) (x16 : List (List Int)) : Option (Nat × Nat × List (List Int)) := lrun mate_Checks_v1c 0 [3, 4, 13, 14, 15] [4] (loopOf Tryz.f15 4) f ([.s (.ptr 0 0 none 0), .s (.sl 1 0 x0 true), .s (.sl 2 0 x1 true), .s (.i .i64 x2), .s (.i .i64 x3)]) ([.cells 50 [.one [.ptr 3 0 none 0, .i .u64 x4, .sl 4 0 x5 true]], .sli 39 false (.rows [.i .i64, .i .i64, .i .i64, .b] x6 x7), .sli 39 false (.rows [.i .i64, .i .i64, .i .i64, .b] x8 x9), .cells 56 [.arr .i8 81 x10, .arr .i8 16 x11, .one [.i .i8 x12], .rows [.i .u64, .i .u64] 32 x13, .rows [.i .u64, .i .u64] 2 x14], .sli 92 false (.rows [.i .i64, .i .i64, .i .i64, .b, .i .i8, .i .i8] x15 x16)]) mate_Checks_v1l4d
theorem mate_Checks_v1l4_step (f : Nat) (x0 x1 : Nat) (x2 x3 x4 : Int) (x5 x6 : Nat) (x7 : List (List Int)) (x8 : Nat) (x9 : List (List Int)) (x10 x11 : List Int) (x12 : Int) (x13 x14 : List (List Int)) (x15 : Nat) (x16 : List (List Int)) : mate_Checks_v1l4r (f + 1) x0 x1 x2 x3 x4 x5 x6 x7 x8 x9 x10 x11 x12 x13 x14 x15 x16 = mate_Checks_v1l4s (mate_Checks_v1l4r f) x0 x1 x2 x3 x4 x5 x6 x7 x8 x9 x10 x11 x12 x13 x14 x15 x16 := by kernel_rfl
theorem mate_Checks_v1l4_eq : ∀ f, mate_Checks_v1l4r f = mate_Checks_v1l4 f
 | 0 => rfl
 | f + 1 => by funext x0 x1 x2 x3 x4 x5 x6 x7 x8 x9 x10 x11 x12 x13 x14 x15 x16; rw [mate_Checks_v1l4_step, mate_Checks_v1l4_eq f]; rfl
theorem mate_Checks_v1s4 : LoopSound Tryz.prog mate_Checks_v1c 0 (loopOf Tryz.f15 4) :=
 loopSound_by mixed mate_Checks_v1c_ok (AllP.of (l' := []) (by kernel_rfl) trivial) (q := 4) (kin := [3, 4, 13, 14, 15]) (kout := [4]) (by kernel_rfl) (by kernel_rfl) fun vs objs K r h => by
  replace h : mate_Checks_v1p4 vs objs K = some r := h
  unfold mate_Checks_v1p4 at h
  split at h
  ·skip
   obtain ⟨t, h1, h2⟩ := ob_ok h
   rw [← mate_Checks_v1l4_eq] at h1
   refine ⟨_, mate_Checks_v1l4d, t, many, h1, fun e vs' objs' hd => ?_⟩
   unfold mate_Checks_v1l4d at hd
   split at hd
   ·skip
    cases hd
    exact h2
   ·cases hd
  ·cases h
noncomputable def mate_Checks_v1d : V → List Obj → Option (Nat × Nat × List (List Int)) := fun v objs => match v, objs with
 | .s (.sl 0 0 y0 true), [.sli 39 false (.rows [.i .i64, .i .i64, .i .i64, .b] y1 y2)] => some (y0, y1, y2)
 | _, _ => none
theorem mate_Checks_v1_eq (x0 x1 : List Int) (x2 : Int) : fnE mate_Checks_v1c Tryz.f15 ([.agg [.arr .i8 81 x0, .arr .i8 16 x1, .one [.i .i8 x2]]]) ([]) mate_Checks_v1d = mate_Checks_v1 x0 x1 x2 := by kernel_rfl
noncomputable def mate_Checks_v1a {R : Type} (o : Orc) (vs : List V) (objs : List Obj) (K : Bool → V → List Obj → Option R) : Option R := match vs, objs with
 | [.agg [.arr .i8 81 x0, .arr .i8 16 x1, .one [.i .i8 x2]]], [] => ob (mate_Checks_v1 x0 x1 x2) fun z => K false (.s (.sl 0 0 (z.1) true)) ([.sli 39 false (.rows [.i .i64, .i .i64, .i .i64, .b] (z.2.1) (z.2.2))])
 | _, _ => o 15 vs objs K
noncomputable def mate_Checks_v1o (o : Orc) : Orc := hook 15 (mate_Checks_v1a o) o
theorem mate_Checks_v1o_ok (o : Orc) (ho : OSound Tryz.prog o) : OSound Tryz.prog (mate_Checks_v1o o) := hook_ok ho fun vs objs K r h => by
 unfold mate_Checks_v1a at h
 split at h
 ·skip
  obtain ⟨t, h1, h2⟩ := ob_ok h
  refine anyOK_of mixed mate_Checks_v1c_ok (fn := Tryz.f15) (b := (Tryz.f15).body.getD .skip) (by kernel_rfl) (by kernel_rfl) (by kernel_rfl) ((mate_Checks_v1_eq _ _ _).trans h1) (m := 0) rfl (AllP.of (l' := [loopOf Tryz.f15 4]) (by kernel_rfl) ⟨mate_Checks_v1s4, trivial⟩) fun v objs' hd => ?_
  unfold mate_Checks_v1d at hd
  split at hd
  ·skip
   cases hd
   exact h2
  ·cases hd
 ·exact ho _ _ _ _ _ h
noncomputable def deed_Afterc : Ctx := mkC 21 ((deed_Game_Makeo (deed_Newo oNil))) [] lpNil
theorem deed_Afterc_ok : CtxOK Tryz.prog deed_Afterc := mkC_ok ((deed_Game_Makeo_ok _ (deed_Newo_ok _ oNil_ok)))
noncomputable def deed_Afterd : V → List Obj → Option (List Int × List Int × Int × Bool) := fun v objs => match v, objs with
 | .tup [W.agg [.arr .i8 81 y0, .arr .i8 16 y1, .one [.i .i8 y2]], W.s (.b y3)], [] => some (y0, y1, y2, y3)
 | _, _ => none
theorem deed_After_eq (x0 x1 : List Int) (x2 x3 : Int) (x4 x5 : Int) (x6 : Bool) : fnE deed_Afterc Tryz.f23 ([.agg [.arr .i8 81 x0, .arr .i8 16 x1, .one [.i .i8 x2]], .agg [.one [.i .i64 x3, .i .i64 x4, .i .i64 x5, .b x6]]]) ([]) deed_Afterd = deed_After x0 x1 x2 x3 x4 x5 x6 := by kernel_rfl
noncomputable def deed_Aftera {R : Type} (o : Orc) (vs : List V) (objs : List Obj) (K : Bool → V → List Obj → Option R) : Option R := match vs, objs with
 | [.agg [.arr .i8 81 x0, .arr .i8 16 x1, .one [.i .i8 x2]], .agg [.one [.i .i64 x3, .i .i64 x4, .i .i64 x5, .b x6]]], [] => ob (deed_After x0 x1 x2 x3 x4 x5 x6) fun z => K false (.tup [W.agg [.arr .i8 81 (z.1), .arr .i8 16 (z.2.1), .one [.i .i8 (z.2.2.1)]], W.s (.b (z.2.2.2))]) ([])
 | _, _ => o 23 vs objs K
noncomputable def deed_Aftero (o : Orc) : Orc := hook 23 (deed_Aftera o) o
theorem deed_Aftero_ok (o : Orc) (ho : OSound Tryz.prog o) : OSound Tryz.prog (deed_Aftero o) := hook_ok ho fun vs objs K r h => by
 unfold deed_Aftera at h
 split at h
 ·skip
  obtain ⟨t, h1, h2⟩ := ob_ok h
  refine anyOK_of mixed deed_Afterc_ok (fn := Tryz.f23) (b := (Tryz.f23).body.getD .skip) (by kernel_rfl) (by kernel_rfl) (by kernel_rfl) ((deed_After_eq _ _ _ _ _ _ _).trans h1) (m := 0) rfl (AllP.of (l' := []) (by kernel_rfl) trivial) fun v objs' hd => ?_
  unfold deed_Afterd at hd
  split at hd
  ·skip
   cases hd
   exact h2
  ·cases hd
 ·exact ho _ _ _ _ _ h
noncomputable def mate_Stuckc : Ctx := mkC 7 ((legal_Allo oNil)) [] lpNil
theorem mate_Stuckc_ok : CtxOK Tryz.prog mate_Stuckc := mkC_ok ((legal_Allo_ok _ oNil_ok))
noncomputable def mate_Stuckd : V → List Obj → Option (Bool × List Int × List Int × Int × List (List Int) × List (List Int)) := fun v objs => match v, objs with
 | .s (.b y0), [.cells 56 [.arr .i8 81 y1, .arr .i8 16 y2, .one [.i .i8 y3], .rows [.i .u64, .i .u64] 32 y4, .rows [.i .u64, .i .u64] 2 y5]] => some (y0, y1, y2, y3, y4, y5)
 | _, _ => none
theorem mate_Stuck_eq (x0 x1 : List Int) (x2 : Int) (x3 x4 : List (List Int)) : fnE mate_Stuckc Tryz.f10 ([.s (.ptr 0 0 none 0)]) ([.cells 56 [.arr .i8 81 x0, .arr .i8 16 x1, .one [.i .i8 x2], .rows [.i .u64, .i .u64] 32 x3, .rows [.i .u64, .i .u64] 2 x4]]) mate_Stuckd = mate_Stuck x0 x1 x2 x3 x4 := by kernel_rfl
noncomputable def mate_Stucka {R : Type} (o : Orc) (vs : List V) (objs : List Obj) (K : Bool → V → List Obj → Option R) : Option R := match vs, objs with
 | [.s (.ptr 0 0 none 0)], [.cells 56 [.arr .i8 81 x0, .arr .i8 16 x1, .one [.i .i8 x2], .rows [.i .u64, .i .u64] 32 x3, .rows [.i .u64, .i .u64] 2 x4]] => ob (mate_Stuck x0 x1 x2 x3 x4) fun z => K false (.s (.b (z.1))) ([.cells 56 [.arr .i8 81 (z.2.1), .arr .i8 16 (z.2.2.1), .one [.i .i8 (z.2.2.2.1)], .rows [.i .u64, .i .u64] 32 (z.2.2.2.2.1), .rows [.i .u64, .i .u64] 2 (z.2.2.2.2.2)]])
 | _, _ => o 10 vs objs K
noncomputable def mate_Stucko (o : Orc) : Orc := hook 10 (mate_Stucka o) o
theorem mate_Stucko_ok (o : Orc) (ho : OSound Tryz.prog o) : OSound Tryz.prog (mate_Stucko o) := hook_ok ho fun vs objs K r h => by
 unfold mate_Stucka at h
 split at h
 ·skip
  obtain ⟨t, h1, h2⟩ := ob_ok h
  refine anyOK_of mixed mate_Stuckc_ok (fn := Tryz.f10) (b := (Tryz.f10).body.getD .skip) (by kernel_rfl) (by kernel_rfl) (by kernel_rfl) ((mate_Stuck_eq _ _ _ _ _).trans h1) (m := 1) rfl (AllP.of (l' := []) (by kernel_rfl) trivial) fun v objs' hd => ?_
  unfold mate_Stuckd at hd
  split at hd
  ·skip
   cases hd
   exact h2
  ·cases hd
 ·exact ho _ _ _ _ _ h
noncomputable def mate_Matedc : Ctx := mkC 15 ((mate_Stucko (attack_InChecko oNil))) [] lpNil
theorem mate_Matedc_ok : CtxOK Tryz.prog mate_Matedc := mkC_ok ((mate_Stucko_ok _ (attack_InChecko_ok _ oNil_ok)))
noncomputable def mate_Matedd : V → List Obj → Option (Bool × List Int × List Int × Int × List (List Int) × List (List Int)) := fun v objs => match v, objs with
 | .s (.b y0), [.cells 56 [.arr .i8 81 y1, .arr .i8 16 y2, .one [.i .i8 y3], .rows [.i .u64, .i .u64] 32 y4, .rows [.i .u64, .i .u64] 2 y5]] => some (y0, y1, y2, y3, y4, y5)
 | _, _ => none
theorem mate_Mated_eq (x0 x1 : List Int) (x2 : Int) (x3 x4 : List (List Int)) : fnE mate_Matedc Tryz.f12 ([.s (.ptr 0 0 none 0)]) ([.cells 56 [.arr .i8 81 x0, .arr .i8 16 x1, .one [.i .i8 x2], .rows [.i .u64, .i .u64] 32 x3, .rows [.i .u64, .i .u64] 2 x4]]) mate_Matedd = mate_Mated x0 x1 x2 x3 x4 := by kernel_rfl
noncomputable def mate_Mateda {R : Type} (o : Orc) (vs : List V) (objs : List Obj) (K : Bool → V → List Obj → Option R) : Option R := match vs, objs with
 | [.s (.ptr 0 0 none 0)], [.cells 56 [.arr .i8 81 x0, .arr .i8 16 x1, .one [.i .i8 x2], .rows [.i .u64, .i .u64] 32 x3, .rows [.i .u64, .i .u64] 2 x4]] => ob (mate_Mated x0 x1 x2 x3 x4) fun z => K false (.s (.b (z.1))) ([.cells 56 [.arr .i8 81 (z.2.1), .arr .i8 16 (z.2.2.1), .one [.i .i8 (z.2.2.2.1)], .rows [.i .u64, .i .u64] 32 (z.2.2.2.2.1), .rows [.i .u64, .i .u64] 2 (z.2.2.2.2.2)]])
 | _, _ => o 12 vs objs K
noncomputable def mate_Matedo (o : Orc) : Orc := hook 12 (mate_Mateda o) o
theorem mate_Matedo_ok (o : Orc) (ho : OSound Tryz.prog o) : OSound Tryz.prog (mate_Matedo o) := hook_ok ho fun vs objs K r h => by
 unfold mate_Mateda at h
 split at h
 ·skip
  obtain ⟨t, h1, h2⟩ := ob_ok h
  refine anyOK_of mixed mate_Matedc_ok (fn := Tryz.f12) (b := (Tryz.f12).body.getD .skip) (by kernel_rfl) (by kernel_rfl) (by kernel_rfl) ((mate_Mated_eq _ _ _ _ _).trans h1) (m := 1) rfl (AllP.of (l' := []) (by kernel_rfl) trivial) fun v objs' hd => ?_
  unfold mate_Matedd at hd
  split at hd
  ·skip
   cases hd
   exact h2
  ·cases hd
 ·exact ho _ _ _ _ _ h
noncomputable def mate_InOne_v1l2d : Ex → List V → List Obj → Option ((Bool × Int × Int × Int × Bool) ⊕ (Int × Int × Int × Bool)) := fun e vs objs => match e, vs, objs with
 | .ret, [.s (.ptr 0 0 none 0), .s (.b y0)], [.cells 39 [.one [.i .i64 y1, .i .i64 y2, .i .i64 y3, .b y4]]] => some (.inl (y0, y1, y2, y3, y4))
 | .exit 0, [.s (.ptr 0 0 none 0), .s .bad], [.cells 39 [.one [.i .i64 y0, .i .i64 y1, .i .i64 y2, .b y3]]] => some (.inr (y0, y1, y2, y3))
 | _, _, _ => none
noncomputable def mate_InOne_v1p2 {R : Type} (vs : List V) (objs : List Obj) (K : Ex → List V → List Obj → Option R) : Option R := match vs, objs with
 | [.s (.ptr 0 0 none 0), .s (.ptr 1 0 none 0), .s (.sl 2 0 x0 true), .s (.i .i64 x1), .s (.i .i64 x2)], [.cells 28 [.arr .i8 81 x3, .arr .i8 16 x4, .one [.i .i8 x5]], .cells 39 [.one [.i .i64 x6, .i .i64 x7, .i .i64 x8, .b x9]], .sli 39 false (.rows [.i .i64, .i .i64, .i .i64, .b] x10 x11)] => ob (mate_InOne_v1l2 many x0 x1 x2 x3 x4 x5 x6 x7 x8 x9 x10 x11) fun t0 => sw t0 (fun z => K (.ret) ([.s (.ptr 0 0 none 0), .s (.b (z.1))]) ([.cells 39 [.one [.i .i64 (z.2.1), .i .i64 (z.2.2.1), .i .i64 (z.2.2.2.1), .b (z.2.2.2.2)]]])) (fun z => K (.exit 0) ([.s (.ptr 0 0 none 0), .s .bad]) ([.cells 39 [.one [.i .i64 (z.1), .i .i64 (z.2.1), .i .i64 (z.2.2.1), .b (z.2.2.2)]]]))
 | _, _ => none
noncomputable def mate_InOne_v1lp : {R : Type} → Nat → List V → List Obj → (Ex → List V → List Obj → Option R) → Option R := fun q vs objs K => bif Nat.beq q 2 then mate_InOne_v1p2 vs objs K else none
noncomputable def mate_InOne_v1c : Ctx := mkC 30 ((mate_Matedo (board_Newo (deed_Aftero (mate_Checks_v1o oNil))))) [(2, [1, 2, 9, 10, 11], [2, 3])] mate_InOne_v1lp
theorem mate_InOne_v1c_ok : CtxOK Tryz.prog mate_InOne_v1c := mkC_ok ((mate_Matedo_ok _ (board_Newo_ok _ (deed_Aftero_ok _ (mate_Checks_v1o_ok _ oNil_ok)))))
noncomputable def mate_InOne_v1l2r (f : Nat) (x0 : Nat) (x1 x2 : Int) (x3 x4 : List Int) (x5 x6 : Int) (x7 x8 : Int) (x9 : Bool) (x10 : Nat) (x11 : List (List Int)) : Option ((Bool × Int × Int × Int × Bool) ⊕ (Int × Int × Int × Bool)) := lrun mate_InOne_v1c 0 [1, 2, 9, 10, 11] [2, 3] (loopOf Tryz.f17 2) f ([.s (.ptr 0 0 none 0), .s (.ptr 1 0 none 0), .s (.sl 2 0 x0 true), .s (.i .i64 x1), .s (.i .i64 x2)]) ([.cells 28 [.arr .i8 81 x3, .arr .i8 16 x4, .one [.i .i8 x5]], .cells 39 [.one [.i .i64 x6, .i .i64 x7, .i .i64 x8, .b x9]], .sli 39 false (.rows [.i .i64, .i .i64, .i .i64, .b] x10 x11)]) mate_InOne_v1l2d
theorem mate_InOne_v1l2_step (f : Nat) (x0 : Nat) (x1 x2 : Int) (x3 x4 : List Int) (x5 x6 : Int) (x7 x8 : Int) (x9 : Bool) (x10 : Nat) (x11 : List (List Int)) : mate_InOne_v1l2r (f + 1) x0 x1 x2 x3 x4 x5 x6 x7 x8 x9 x10 x11 = mate_InOne_v1l2s (mate_InOne_v1l2r f) x0 x1 x2 x3 x4 x5 x6 x7 x8 x9 x10 x11 := by kernel_rfl
theorem mate_InOne_v1l2_eq : ∀ f, mate_InOne_v1l2r f = mate_InOne_v1l2 f
 | 0 => rfl
 | f + 1 => by funext x0 x1 x2 x3 x4 x5 x6 x7 x8 x9 x10 x11; rw [mate_InOne_v1l2_step, mate_InOne_v1l2_eq f]; rfl
theorem mate_InOne_v1s2 : LoopSound Tryz.prog mate_InOne_v1c 0 (loopOf Tryz.f17 2) :=
 loopSound_by mixed mate_InOne_v1c_ok (AllP.of (l' := []) (by kernel_rfl) trivial) (q := 2) (kin := [1, 2, 9, 10, 11]) (kout := [2, 3]) (by kernel_rfl) (by kernel_rfl) fun vs objs K r h => by
  replace h : mate_InOne_v1p2 vs objs K = some r := h
  unfold mate_InOne_v1p2 at h
  split at h
  ·skip
   obtain ⟨t, h1, h2⟩ := ob_ok h
   rw [← mate_InOne_v1l2_eq] at h1
   refine ⟨_, mate_InOne_v1l2d, t, many, h1, fun e vs' objs' hd => ?_⟩
   unfold mate_InOne_v1l2d at hd
   split at hd
   ·skip
    cases hd
    exact h2
   ·skip
    cases hd
    exact h2
   ·cases hd
  ·cases h
noncomputable def mate_InOne_v1d : V → List Obj → Option (Int × Int × Int × Bool × Bool) := fun v objs => match v, objs with
 | .tup [W.agg [.one [.i .i64 y0, .i .i64 y1, .i .i64 y2, .b y3]], W.s (.b y4)], [] => some (y0, y1, y2, y3, y4)
 | _, _ => none
theorem mate_InOne_v1_eq (x0 x1 : List Int) (x2 : Int) : fnE mate_InOne_v1c Tryz.f17 ([.agg [.arr .i8 81 x0, .arr .i8 16 x1, .one [.i .i8 x2]]]) ([]) mate_InOne_v1d = mate_InOne_v1 x0 x1 x2 := by kernel_rfl
noncomputable def mate_InOne_v1a {R : Type} (o : Orc) (vs : List V) (objs : List Obj) (K : Bool → V → List Obj → Option R) : Option R := match vs, objs with
 | [.agg [.arr .i8 81 x0, .arr .i8 16 x1, .one [.i .i8 x2]]], [] => ob (mate_InOne_v1 x0 x1 x2) fun z => K false (.tup [W.agg [.one [.i .i64 (z.1), .i .i64 (z.2.1), .i .i64 (z.2.2.1), .b (z.2.2.2.1)]], W.s (.b (z.2.2.2.2))]) ([])
 | _, _ => o 17 vs objs K
noncomputable def mate_InOne_v1o (o : Orc) : Orc := hook 17 (mate_InOne_v1a o) o
theorem mate_InOne_v1o_ok (o : Orc) (ho : OSound Tryz.prog o) : OSound Tryz.prog (mate_InOne_v1o o) := hook_ok ho fun vs objs K r h => by
 unfold mate_InOne_v1a at h
 split at h
 ·skip
  obtain ⟨t, h1, h2⟩ := ob_ok h
  refine anyOK_of mixed mate_InOne_v1c_ok (fn := Tryz.f17) (b := (Tryz.f17).body.getD .skip) (by kernel_rfl) (by kernel_rfl) (by kernel_rfl) ((mate_InOne_v1_eq _ _ _).trans h1) (m := 0) rfl (AllP.of (l' := [loopOf Tryz.f17 2]) (by kernel_rfl) ⟨mate_InOne_v1s2, trivial⟩) fun v objs' hd => ?_
  unfold mate_InOne_v1d at hd
  split at hd
  ·skip
   cases hd
   exact h2
  ·cases hd
 ·exact ho _ _ _ _ _ h
noncomputable def law12_mates_v1c : Ctx := mkC 36 ((mate_Matedo (board_Newo (mate_Checks_v1o (mate_InOne_v1o oNil))))) [] lpNil
theorem law12_mates_v1c_ok : CtxOK Tryz.prog law12_mates_v1c := mkC_ok ((mate_Matedo_ok _ (board_Newo_ok _ (mate_Checks_v1o_ok _ (mate_InOne_v1o_ok _ oNil_ok)))))
noncomputable def law12_mates_v1d : V → List Obj → Option (Bool) := fun v objs => match v, objs with
 | .s (.b y0), [] => some (y0)
 | _, _ => none
theorem law12_mates_v1_eq : fnE law12_mates_v1c Tryz.f7 ([]) ([]) law12_mates_v1d = law12_mates_v1  := by kernel_rfl
noncomputable def law12_mates_v1a {R : Type} (o : Orc) (vs : List V) (objs : List Obj) (K : Bool → V → List Obj → Option R) : Option R := match vs, objs with
 | [], [] => ob (law12_mates_v1 ) fun y0 => K false (.s (.b y0)) ([])
 | _, _ => o 7 vs objs K
noncomputable def law12_mates_v1o (o : Orc) : Orc := hook 7 (law12_mates_v1a o) o
theorem law12_mates_v1o_ok (o : Orc) (ho : OSound Tryz.prog o) : OSound Tryz.prog (law12_mates_v1o o) := hook_ok ho fun vs objs K r h => by
 unfold law12_mates_v1a at h
 split at h
 ·skip
  obtain ⟨t, h1, h2⟩ := ob_ok h
  refine anyOK_of mixed law12_mates_v1c_ok (fn := Tryz.f7) (b := (Tryz.f7).body.getD .skip) (by kernel_rfl) (by kernel_rfl) (by kernel_rfl) ((law12_mates_v1_eq).trans h1) (m := 0) rfl (AllP.of (l' := []) (by kernel_rfl) trivial) fun v objs' hd => ?_
  unfold law12_mates_v1d at hd
  split at hd
  ·skip
   cases hd
   exact h2
  ·cases hd
 ·exact ho _ _ _ _ _ h
noncomputable def ref02_Kindc : Ctx := mkC 23 (oNil) [] lpNil
theorem ref02_Kindc_ok : CtxOK Tryz.prog ref02_Kindc := mkC_ok (oNil_ok)
noncomputable def ref02_Kindd : V → List Obj → Option (Int) := fun v objs => match v, objs with
 | .s (.i .i64 y0), [] => some (y0)
 | _, _ => none
theorem ref02_Kind_eq (x0 : Int) : fnE ref02_Kindc Tryz.f49 ([.s (.i .i64 x0)]) ([]) ref02_Kindd = ref02_Kind x0 := by kernel_rfl
noncomputable def ref02_Kinda {R : Type} (o : Orc) (vs : List V) (objs : List Obj) (K : Bool → V → List Obj → Option R) : Option R := match vs, objs with
 | [.s (.i .i64 x0)], [] => ob (ref02_Kind x0) fun y0 => K false (.s (.i .i64 y0)) ([])
 | _, _ => o 49 vs objs K
noncomputable def ref02_Kindo (o : Orc) : Orc := hook 49 (ref02_Kinda o) o
theorem ref02_Kindo_ok (o : Orc) (ho : OSound Tryz.prog o) : OSound Tryz.prog (ref02_Kindo o) := hook_ok ho fun vs objs K r h => by
 unfold ref02_Kinda at h
 split at h
 ·skip
  obtain ⟨t, h1, h2⟩ := ob_ok h
  refine anyOK_of mixed ref02_Kindc_ok (fn := Tryz.f49) (b := (Tryz.f49).body.getD .skip) (by kernel_rfl) (by kernel_rfl) (by kernel_rfl) ((ref02_Kind_eq _).trans h1) (m := 0) rfl (AllP.of (l' := []) (by kernel_rfl) trivial) fun v objs' hd => ?_
  unfold ref02_Kindd at hd
  split at hd
  ·skip
   cases hd
   exact h2
  ·cases hd
 ·exact ho _ _ _ _ _ h
noncomputable def ref05_Onl3d : Ex → List V → List Obj → Option (Int) := fun e vs objs => match e, vs, objs with
 | .exit 0, [.s (.i .i64 y0)], [] => some (y0)
 | _, _, _ => none
noncomputable def ref05_Onp3 {R : Type} (vs : List V) (objs : List Obj) (K : Ex → List V → List Obj → Option R) : Option R := match vs, objs with
 | [.s (.i .i64 x0), .s (.i .i64 x1), .s (.ptr 0 0 none 0), .s (.i .i64 x2), .s (.i .i64 x3)], [.cells 28 [.arr .i8 81 x4, .arr .i8 16 x5, .one [.i .i8 x6]]] => ob (ref05_Onl3 many x0 x1 x2 x3 x4 x5 x6) fun y0 => K (.exit 0) ([.s (.i .i64 y0)]) ([])
 | _, _ => none
noncomputable def ref05_Onlp : {R : Type} → Nat → List V → List Obj → (Ex → List V → List Obj → Option R) → Option R := fun q vs objs K => bif Nat.beq q 3 then ref05_Onp3 vs objs K else none
noncomputable def ref05_Onc : Ctx := mkC 26 (oNil) [(3, [1, 2, 3, 7, 8], [7])] ref05_Onlp
theorem ref05_Onc_ok : CtxOK Tryz.prog ref05_Onc := mkC_ok (oNil_ok)
noncomputable def ref05_Onl3r (f : Nat) (x0 x1 : Int) (x2 x3 : Int) (x4 x5 : List Int) (x6 : Int) : Option (Int) := lrun ref05_Onc 0 [1, 2, 3, 7, 8] [7] (loopOf Tryz.f54 3) f ([.s (.i .i64 x0), .s (.i .i64 x1), .s (.ptr 0 0 none 0), .s (.i .i64 x2), .s (.i .i64 x3)]) ([.cells 28 [.arr .i8 81 x4, .arr .i8 16 x5, .one [.i .i8 x6]]]) ref05_Onl3d
theorem ref05_Onl3_step (f : Nat) (x0 x1 : Int) (x2 x3 : Int) (x4 x5 : List Int) (x6 : Int) : ref05_Onl3r (f + 1) x0 x1 x2 x3 x4 x5 x6 = ref05_Onl3s (ref05_Onl3r f) x0 x1 x2 x3 x4 x5 x6 := by kernel_rfl
theorem ref05_Onl3_eq : ∀ f, ref05_Onl3r f = ref05_Onl3 f
 | 0 => rfl
 | f + 1 => by funext x0 x1 x2 x3 x4 x5 x6; rw [ref05_Onl3_step, ref05_Onl3_eq f]; rfl
theorem ref05_Ons3 : LoopSound Tryz.prog ref05_Onc 0 (loopOf Tryz.f54 3) :=
 loopSound_by mixed ref05_Onc_ok (AllP.of (l' := []) (by kernel_rfl) trivial) (q := 3) (kin := [1, 2, 3, 7, 8]) (kout := [7]) (by kernel_rfl) (by kernel_rfl) fun vs objs K r h => by
  replace h : ref05_Onp3 vs objs K = some r := h
  unfold ref05_Onp3 at h
  split at h
  ·skip
   obtain ⟨t, h1, h2⟩ := ob_ok h
   rw [← ref05_Onl3_eq] at h1
   refine ⟨_, ref05_Onl3d, t, many, h1, fun e vs' objs' hd => ?_⟩
   unfold ref05_Onl3d at hd
   split at hd
   ·skip
    cases hd
    exact h2
   ·cases hd
  ·cases h
noncomputable def ref05_Ond : V → List Obj → Option (Int) := fun v objs => match v, objs with
 | .s (.i .i64 y0), [] => some (y0)
 | _, _ => none
theorem ref05_On_eq (x0 x1 : List Int) (x2 x3 x4 : Int) : fnE ref05_Onc Tryz.f54 ([.agg [.arr .i8 81 x0, .arr .i8 16 x1, .one [.i .i8 x2]], .s (.i .i64 x3), .s (.i .i64 x4)]) ([]) ref05_Ond = ref05_On x0 x1 x2 x3 x4 := by kernel_rfl
noncomputable def ref05_Ona {R : Type} (o : Orc) (vs : List V) (objs : List Obj) (K : Bool → V → List Obj → Option R) : Option R := match vs, objs with
 | [.agg [.arr .i8 81 x0, .arr .i8 16 x1, .one [.i .i8 x2]], .s (.i .i64 x3), .s (.i .i64 x4)], [] => ob (ref05_On x0 x1 x2 x3 x4) fun y0 => K false (.s (.i .i64 y0)) ([])
 | _, _ => o 54 vs objs K
noncomputable def ref05_Ono (o : Orc) : Orc := hook 54 (ref05_Ona o) o
theorem ref05_Ono_ok (o : Orc) (ho : OSound Tryz.prog o) : OSound Tryz.prog (ref05_Ono o) := hook_ok ho fun vs objs K r h => by
 unfold ref05_Ona at h
 split at h
 ·skip
  obtain ⟨t, h1, h2⟩ := ob_ok h
  refine anyOK_of mixed ref05_Onc_ok (fn := Tryz.f54) (b := (Tryz.f54).body.getD .skip) (by kernel_rfl) (by kernel_rfl) (by kernel_rfl) ((ref05_On_eq _ _ _ _ _).trans h1) (m := 0) rfl (AllP.of (l' := [loopOf Tryz.f54 3]) (by kernel_rfl) ⟨ref05_Ons3, trivial⟩) fun v objs' hd => ?_
  unfold ref05_Ond at hd
  split at hd
  ·skip
   cases hd
   exact h2
  ·cases hd
 ·exact ho _ _ _ _ _ h
noncomputable def ref05_alll3d : Ex → List V → List Obj → Option (Int) := fun e vs objs => match e, vs, objs with
 | .exit 0, [.s (.i .i64 y0)], [] => some (y0)
 | _, _, _ => none
noncomputable def ref05_allp3 {R : Type} (vs : List V) (objs : List Obj) (K : Ex → List V → List Obj → Option R) : Option R := match vs, objs with
 | [.s (.i .i64 x0), .s (.ptr 0 0 none 0), .s (.i .i64 x1), .s (.i .i64 x2)], [.cells 28 [.arr .i8 81 x3, .arr .i8 16 x4, .one [.i .i8 x5]]] => ob (ref05_alll3 many x0 x1 x2 x3 x4 x5) fun y0 => K (.exit 0) ([.s (.i .i64 y0)]) ([])
 | _, _ => none
noncomputable def ref05_alllp : {R : Type} → Nat → List V → List Obj → (Ex → List V → List Obj → Option R) → Option R := fun q vs objs K => bif Nat.beq q 3 then ref05_allp3 vs objs K else none
noncomputable def ref05_allc : Ctx := mkC 18 ((ref05_Ono oNil)) [(3, [1, 2, 5, 6], [5])] ref05_alllp
theorem ref05_allc_ok : CtxOK Tryz.prog ref05_allc := mkC_ok ((ref05_Ono_ok _ oNil_ok))
noncomputable def ref05_alll3r (f : Nat) (x0 x1 x2 : Int) (x3 x4 : List Int) (x5 : Int) : Option (Int) := lrun ref05_allc 0 [1, 2, 5, 6] [5] (loopOf Tryz.f50 3) f ([.s (.i .i64 x0), .s (.ptr 0 0 none 0), .s (.i .i64 x1), .s (.i .i64 x2)]) ([.cells 28 [.arr .i8 81 x3, .arr .i8 16 x4, .one [.i .i8 x5]]]) ref05_alll3d
theorem ref05_alll3_step (f : Nat) (x0 x1 x2 : Int) (x3 x4 : List Int) (x5 : Int) : ref05_alll3r (f + 1) x0 x1 x2 x3 x4 x5 = ref05_alll3s (ref05_alll3r f) x0 x1 x2 x3 x4 x5 := by kernel_rfl
theorem ref05_alll3_eq : ∀ f, ref05_alll3r f = ref05_alll3 f
 | 0 => rfl
 | f + 1 => by funext x0 x1 x2 x3 x4 x5; rw [ref05_alll3_step, ref05_alll3_eq f]; rfl
theorem ref05_alls3 : LoopSound Tryz.prog ref05_allc 0 (loopOf Tryz.f50 3) :=
 loopSound_by mixed ref05_allc_ok (AllP.of (l' := []) (by kernel_rfl) trivial) (q := 3) (kin := [1, 2, 5, 6]) (kout := [5]) (by kernel_rfl) (by kernel_rfl) fun vs objs K r h => by
  replace h : ref05_allp3 vs objs K = some r := h
  unfold ref05_allp3 at h
  split at h
  ·skip
   obtain ⟨t, h1, h2⟩ := ob_ok h
   rw [← ref05_alll3_eq] at h1
   refine ⟨_, ref05_alll3d, t, many, h1, fun e vs' objs' hd => ?_⟩
   unfold ref05_alll3d at hd
   split at hd
   ·skip
    cases hd
    exact h2
   ·cases hd
  ·cases h
noncomputable def ref05_alld : V → List Obj → Option (Int) := fun v objs => match v, objs with
 | .s (.i .i64 y0), [] => some (y0)
 | _, _ => none
theorem ref05_all_eq (x0 x1 : List Int) (x2 x3 : Int) : fnE ref05_allc Tryz.f50 ([.agg [.arr .i8 81 x0, .arr .i8 16 x1, .one [.i .i8 x2]], .s (.i .i64 x3)]) ([]) ref05_alld = ref05_all x0 x1 x2 x3 := by kernel_rfl
noncomputable def ref05_alla {R : Type} (o : Orc) (vs : List V) (objs : List Obj) (K : Bool → V → List Obj → Option R) : Option R := match vs, objs with
 | [.agg [.arr .i8 81 x0, .arr .i8 16 x1, .one [.i .i8 x2]], .s (.i .i64 x3)], [] => ob (ref05_all x0 x1 x2 x3) fun y0 => K false (.s (.i .i64 y0)) ([])
 | _, _ => o 50 vs objs K
noncomputable def ref05_allo (o : Orc) : Orc := hook 50 (ref05_alla o) o
theorem ref05_allo_ok (o : Orc) (ho : OSound Tryz.prog o) : OSound Tryz.prog (ref05_allo o) := hook_ok ho fun vs objs K r h => by
 unfold ref05_alla at h
 split at h
 ·skip
  obtain ⟨t, h1, h2⟩ := ob_ok h
  refine anyOK_of mixed ref05_allc_ok (fn := Tryz.f50) (b := (Tryz.f50).body.getD .skip) (by kernel_rfl) (by kernel_rfl) (by kernel_rfl) ((ref05_all_eq _ _ _ _).trans h1) (m := 0) rfl (AllP.of (l' := [loopOf Tryz.f50 3]) (by kernel_rfl) ⟨ref05_alls3, trivial⟩) fun v objs' hd => ?_
  unfold ref05_alld at hd
  split at hd
  ·skip
   cases hd
   exact h2
  ·cases hd
 ·exact ho _ _ _ _ _ h
noncomputable def ref02_Rawc : Ctx := mkC 18 (oNil) [] lpNil
theorem ref02_Rawc_ok : CtxOK Tryz.prog ref02_Rawc := mkC_ok (oNil_ok)
noncomputable def ref02_Rawd : V → List Obj → Option (Int) := fun v objs => match v, objs with
 | .s (.i .i64 y0), [] => some (y0)
 | _, _ => none
theorem ref02_Raw_eq (x0 : Int) : fnE ref02_Rawc Tryz.f63 ([.s (.i .i64 x0)]) ([]) ref02_Rawd = ref02_Raw x0 := by kernel_rfl
noncomputable def ref02_Rawa {R : Type} (o : Orc) (vs : List V) (objs : List Obj) (K : Bool → V → List Obj → Option R) : Option R := match vs, objs with
 | [.s (.i .i64 x0)], [] => ob (ref02_Raw x0) fun y0 => K false (.s (.i .i64 y0)) ([])
 | _, _ => o 63 vs objs K
noncomputable def ref02_Rawo (o : Orc) : Orc := hook 63 (ref02_Rawa o) o
theorem ref02_Rawo_ok (o : Orc) (ho : OSound Tryz.prog o) : OSound Tryz.prog (ref02_Rawo o) := hook_ok ho fun vs objs K r h => by
 unfold ref02_Rawa at h
 split at h
 ·skip
  obtain ⟨t, h1, h2⟩ := ob_ok h
  refine anyOK_of mixed ref02_Rawc_ok (fn := Tryz.f63) (b := (Tryz.f63).body.getD .skip) (by kernel_rfl) (by kernel_rfl) (by kernel_rfl) ((ref02_Raw_eq _).trans h1) (m := 0) rfl (AllP.of (l' := []) (by kernel_rfl) trivial) fun v objs' hd => ?_
  unfold ref02_Rawd at hd
  split at hd
  ·skip
   cases hd
   exact h2
  ·cases hd
 ·exact ho _ _ _ _ _ h
noncomputable def ref05_Countl3d : Ex → List V → List Obj → Option (Int × Int × List Int × List Int × Int) := fun e vs objs => match e, vs, objs with
 | .exit 0, [.s (.i .i64 y0), .s (.ptr 0 0 none 0), .s (.i .i64 y1)], [.cells 28 [.arr .i8 81 y2, .arr .i8 16 y3, .one [.i .i8 y4]]] => some (y0, y1, y2, y3, y4)
 | _, _, _ => none
noncomputable def ref05_Countp3 {R : Type} (vs : List V) (objs : List Obj) (K : Ex → List V → List Obj → Option R) : Option R := match vs, objs with
 | [.s (.i .i64 x0), .s (.ptr 0 0 none 0), .s (.i .i64 x1), .s (.i .i64 x2)], [.cells 28 [.arr .i8 81 x3, .arr .i8 16 x4, .one [.i .i8 x5]]] => ob (ref05_Countl3 many x0 x1 x2 x3 x4 x5) fun z => K (.exit 0) ([.s (.i .i64 (z.1)), .s (.ptr 0 0 none 0), .s (.i .i64 (z.2.1))]) ([.cells 28 [.arr .i8 81 (z.2.2.1), .arr .i8 16 (z.2.2.2.1), .one [.i .i8 (z.2.2.2.2)]]])
 | _, _ => none
noncomputable def ref05_Countlp : {R : Type} → Nat → List V → List Obj → (Ex → List V → List Obj → Option R) → Option R := fun q vs objs K => bif Nat.beq q 3 then ref05_Countp3 vs objs K else none
noncomputable def ref05_Countc : Ctx := mkC 37 ((ref02_Rawo (ref02_Kindo oNil))) [(3, [1, 2, 5, 6], [1, 2, 5])] ref05_Countlp
theorem ref05_Countc_ok : CtxOK Tryz.prog ref05_Countc := mkC_ok ((ref02_Rawo_ok _ (ref02_Kindo_ok _ oNil_ok)))
noncomputable def ref05_Countl3r (f : Nat) (x0 x1 x2 : Int) (x3 x4 : List Int) (x5 : Int) : Option (Int × Int × List Int × List Int × Int) := lrun ref05_Countc 0 [1, 2, 5, 6] [1, 2, 5] (loopOf Tryz.f51 3) f ([.s (.i .i64 x0), .s (.ptr 0 0 none 0), .s (.i .i64 x1), .s (.i .i64 x2)]) ([.cells 28 [.arr .i8 81 x3, .arr .i8 16 x4, .one [.i .i8 x5]]]) ref05_Countl3d
theorem ref05_Countl3_step (f : Nat) (x0 x1 x2 : Int) (x3 x4 : List Int) (x5 : Int) : ref05_Countl3r (f + 1) x0 x1 x2 x3 x4 x5 = ref05_Countl3s (ref05_Countl3r f) x0 x1 x2 x3 x4 x5 := by kernel_rfl
theorem ref05_Countl3_eq : ∀ f, ref05_Countl3r f = ref05_Countl3 f
 | 0 => rfl
 | f + 1 => by funext x0 x1 x2 x3 x4 x5; rw [ref05_Countl3_step, ref05_Countl3_eq f]; rfl
theorem ref05_Counts3 : LoopSound Tryz.prog ref05_Countc 0 (loopOf Tryz.f51 3) :=
 loopSound_by mixed ref05_Countc_ok (AllP.of (l' := []) (by kernel_rfl) trivial) (q := 3) (kin := [1, 2, 5, 6]) (kout := [1, 2, 5]) (by kernel_rfl) (by kernel_rfl) fun vs objs K r h => by
  replace h : ref05_Countp3 vs objs K = some r := h
  unfold ref05_Countp3 at h
  split at h
  ·skip
   obtain ⟨t, h1, h2⟩ := ob_ok h
   rw [← ref05_Countl3_eq] at h1
   refine ⟨_, ref05_Countl3d, t, many, h1, fun e vs' objs' hd => ?_⟩
   unfold ref05_Countl3d at hd
   split at hd
   ·skip
    cases hd
    exact h2
   ·cases hd
  ·cases h
noncomputable def ref05_Countd : V → List Obj → Option (Int) := fun v objs => match v, objs with
 | .s (.i .i64 y0), [] => some (y0)
 | _, _ => none
theorem ref05_Count_eq (x0 x1 : List Int) (x2 x3 : Int) : fnE ref05_Countc Tryz.f51 ([.agg [.arr .i8 81 x0, .arr .i8 16 x1, .one [.i .i8 x2]], .s (.i .i64 x3)]) ([]) ref05_Countd = ref05_Count x0 x1 x2 x3 := by kernel_rfl
noncomputable def ref05_Counta {R : Type} (o : Orc) (vs : List V) (objs : List Obj) (K : Bool → V → List Obj → Option R) : Option R := match vs, objs with
 | [.agg [.arr .i8 81 x0, .arr .i8 16 x1, .one [.i .i8 x2]], .s (.i .i64 x3)], [] => ob (ref05_Count x0 x1 x2 x3) fun y0 => K false (.s (.i .i64 y0)) ([])
 | _, _ => o 51 vs objs K
noncomputable def ref05_Counto (o : Orc) : Orc := hook 51 (ref05_Counta o) o
theorem ref05_Counto_ok (o : Orc) (ho : OSound Tryz.prog o) : OSound Tryz.prog (ref05_Counto o) := hook_ok ho fun vs objs K r h => by
 unfold ref05_Counta at h
 split at h
 ·skip
  obtain ⟨t, h1, h2⟩ := ob_ok h
  refine anyOK_of mixed ref05_Countc_ok (fn := Tryz.f51) (b := (Tryz.f51).body.getD .skip) (by kernel_rfl) (by kernel_rfl) (by kernel_rfl) ((ref05_Count_eq _ _ _ _).trans h1) (m := 0) rfl (AllP.of (l' := [loopOf Tryz.f51 3]) (by kernel_rfl) ⟨ref05_Counts3, trivial⟩) fun v objs' hd => ?_
  unfold ref05_Countd at hd
  split at hd
  ·skip
   cases hd
   exact h2
  ·cases hd
 ·exact ho _ _ _ _ _ h
noncomputable def ref02_Totalc : Ctx := mkC 15 (oNil) [] lpNil
theorem ref02_Totalc_ok : CtxOK Tryz.prog ref02_Totalc := mkC_ok (oNil_ok)
noncomputable def ref02_Totald : V → List Obj → Option (Int) := fun v objs => match v, objs with
 | .s (.i .i64 y0), [] => some (y0)
 | _, _ => none
theorem ref02_Total_eq (x0 : Int) : fnE ref02_Totalc Tryz.f52 ([.s (.i .i64 x0)]) ([]) ref02_Totald = ref02_Total x0 := by kernel_rfl
noncomputable def ref02_Totala {R : Type} (o : Orc) (vs : List V) (objs : List Obj) (K : Bool → V → List Obj → Option R) : Option R := match vs, objs with
 | [.s (.i .i64 x0)], [] => ob (ref02_Total x0) fun y0 => K false (.s (.i .i64 y0)) ([])
 | _, _ => o 52 vs objs K
noncomputable def ref02_Totalo (o : Orc) : Orc := hook 52 (ref02_Totala o) o
theorem ref02_Totalo_ok (o : Orc) (ho : OSound Tryz.prog o) : OSound Tryz.prog (ref02_Totalo o) := hook_ok ho fun vs objs K r h => by
 unfold ref02_Totala at h
 split at h
 ·skip
  obtain ⟨t, h1, h2⟩ := ob_ok h
  refine anyOK_of mixed ref02_Totalc_ok (fn := Tryz.f52) (b := (Tryz.f52).body.getD .skip) (by kernel_rfl) (by kernel_rfl) (by kernel_rfl) ((ref02_Total_eq _).trans h1) (m := 0) rfl (AllP.of (l' := []) (by kernel_rfl) trivial) fun v objs' hd => ?_
  unfold ref02_Totald at hd
  split at hd
  ·skip
   cases hd
   exact h2
  ·cases hd
 ·exact ho _ _ _ _ _ h
noncomputable def ref02_Sidec : Ctx := mkC 8 ((ref02_Kindo oNil)) [] lpNil
theorem ref02_Sidec_ok : CtxOK Tryz.prog ref02_Sidec := mkC_ok ((ref02_Kindo_ok _ oNil_ok))
noncomputable def ref02_Sided : V → List Obj → Option (Int) := fun v objs => match v, objs with
 | .s (.i .i64 y0), [] => some (y0)
 | _, _ => none
theorem ref02_Side_eq (x0 : Int) : fnE ref02_Sidec Tryz.f38 ([.s (.i .i64 x0)]) ([]) ref02_Sided = ref02_Side x0 := by kernel_rfl
noncomputable def ref02_Sidea {R : Type} (o : Orc) (vs : List V) (objs : List Obj) (K : Bool → V → List Obj → Option R) : Option R := match vs, objs with
 | [.s (.i .i64 x0)], [] => ob (ref02_Side x0) fun y0 => K false (.s (.i .i64 y0)) ([])
 | _, _ => o 38 vs objs K
noncomputable def ref02_Sideo (o : Orc) : Orc := hook 38 (ref02_Sidea o) o
theorem ref02_Sideo_ok (o : Orc) (ho : OSound Tryz.prog o) : OSound Tryz.prog (ref02_Sideo o) := hook_ok ho fun vs objs K r h => by
 unfold ref02_Sidea at h
 split at h
 ·skip
  obtain ⟨t, h1, h2⟩ := ob_ok h
  refine anyOK_of mixed ref02_Sidec_ok (fn := Tryz.f38) (b := (Tryz.f38).body.getD .skip) (by kernel_rfl) (by kernel_rfl) (by kernel_rfl) ((ref02_Side_eq _).trans h1) (m := 0) rfl (AllP.of (l' := []) (by kernel_rfl) trivial) fun v objs' hd => ?_
  unfold ref02_Sided at hd
  split at hd
  ·skip
   cases hd
   exact h2
  ·cases hd
 ·exact ho _ _ _ _ _ h
noncomputable def ref03_Farc : Ctx := mkC 26 (oNil) [] lpNil
theorem ref03_Farc_ok : CtxOK Tryz.prog ref03_Farc := mkC_ok (oNil_ok)
noncomputable def ref03_Fard : V → List Obj → Option (Int) := fun v objs => match v, objs with
 | .s (.i .i64 y0), [] => some (y0)
 | _, _ => none
theorem ref03_Far_eq (x0 x1 : Int) : fnE ref03_Farc Tryz.f101 ([.s (.i .i64 x0), .s (.i .i64 x1)]) ([]) ref03_Fard = ref03_Far x0 x1 := by kernel_rfl
noncomputable def ref03_Fara {R : Type} (o : Orc) (vs : List V) (objs : List Obj) (K : Bool → V → List Obj → Option R) : Option R := match vs, objs with
 | [.s (.i .i64 x0), .s (.i .i64 x1)], [] => ob (ref03_Far x0 x1) fun y0 => K false (.s (.i .i64 y0)) ([])
 | _, _ => o 101 vs objs K
noncomputable def ref03_Faro (o : Orc) : Orc := hook 101 (ref03_Fara o) o
theorem ref03_Faro_ok (o : Orc) (ho : OSound Tryz.prog o) : OSound Tryz.prog (ref03_Faro o) := hook_ok ho fun vs objs K r h => by
 unfold ref03_Fara at h
 split at h
 ·skip
  obtain ⟨t, h1, h2⟩ := ob_ok h
  refine anyOK_of mixed ref03_Farc_ok (fn := Tryz.f101) (b := (Tryz.f101).body.getD .skip) (by kernel_rfl) (by kernel_rfl) (by kernel_rfl) ((ref03_Far_eq _ _).trans h1) (m := 0) rfl (AllP.of (l' := []) (by kernel_rfl) trivial) fun v objs' hd => ?_
  unfold ref03_Fard at hd
  split at hd
  ·skip
   cases hd
   exact h2
  ·cases hd
 ·exact ho _ _ _ _ _ h
noncomputable def ref03_Deadc : Ctx := mkC 35 ((ref02_Kindo (ref03_Faro (ref02_Sideo oNil)))) [] lpNil
theorem ref03_Deadc_ok : CtxOK Tryz.prog ref03_Deadc := mkC_ok ((ref02_Kindo_ok _ (ref03_Faro_ok _ (ref02_Sideo_ok _ oNil_ok))))
noncomputable def ref03_Deadd : V → List Obj → Option (Bool) := fun v objs => match v, objs with
 | .s (.b y0), [] => some (y0)
 | _, _ => none
theorem ref03_Dead_eq (x0 x1 : Int) : fnE ref03_Deadc Tryz.f53 ([.s (.i .i64 x0), .s (.i .i64 x1)]) ([]) ref03_Deadd = ref03_Dead x0 x1 := by kernel_rfl
noncomputable def ref03_Deada {R : Type} (o : Orc) (vs : List V) (objs : List Obj) (K : Bool → V → List Obj → Option R) : Option R := match vs, objs with
 | [.s (.i .i64 x0), .s (.i .i64 x1)], [] => ob (ref03_Dead x0 x1) fun y0 => K false (.s (.b y0)) ([])
 | _, _ => o 53 vs objs K
noncomputable def ref03_Deado (o : Orc) : Orc := hook 53 (ref03_Deada o) o
theorem ref03_Deado_ok (o : Orc) (ho : OSound Tryz.prog o) : OSound Tryz.prog (ref03_Deado o) := hook_ok ho fun vs objs K r h => by
 unfold ref03_Deada at h
 split at h
 ·skip
  obtain ⟨t, h1, h2⟩ := ob_ok h
  refine anyOK_of mixed ref03_Deadc_ok (fn := Tryz.f53) (b := (Tryz.f53).body.getD .skip) (by kernel_rfl) (by kernel_rfl) (by kernel_rfl) ((ref03_Dead_eq _ _).trans h1) (m := 0) rfl (AllP.of (l' := []) (by kernel_rfl) trivial) fun v objs' hd => ?_
  unfold ref03_Deadd at hd
  split at hd
  ·skip
   cases hd
   exact h2
  ·cases hd
 ·exact ho _ _ _ _ _ h
end Go.Kk.KkMS
