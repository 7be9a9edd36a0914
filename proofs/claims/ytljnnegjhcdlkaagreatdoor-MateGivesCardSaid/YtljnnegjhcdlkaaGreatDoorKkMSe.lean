/- Printed by a tool of this project (KkGen): the program's functions come to the plain ones. -/
import Derived.Test.YtljnnegjhcdlkaaGreatDoorKkMSd
namespace Go.Kk.KkMS
open Go.Proofs Go.Kk.Pl
set_option maxRecDepth 100000
set_option maxHeartbeats 4000000
noncomputable def deed_Game_Keyc : Ctx := mkC 7 (oNil) [] lpNil
theorem deed_Game_Keyc_ok : CtxOK Tryz.prog deed_Game_Keyc := mkC_ok (oNil_ok)
noncomputable def deed_Game_Keyd : V → List Obj → Option (Int) := fun v objs => match v, objs with
 | .s (.i .u64 y0), [] => some (y0)
 | _, _ => none
theorem deed_Game_Key_eq (x0 : Int) (x1 : Nat) (x2 x3 : List Int) (x4 : Int) (x5 x6 : List (List Int)) (x7 : Nat) (x8 : List (List Int)) : fnE deed_Game_Keyc Tryz.f20 ([.s (.ptr 0 0 none 0)]) ([.rcells 50 [.one [.ptr 1 0 none 0, .i .u64 x0, .sl 2 0 x1 true]], .rcells 56 [.arr .i8 81 x2, .arr .i8 16 x3, .one [.i .i8 x4], .rows [.i .u64, .i .u64] 32 x5, .rows [.i .u64, .i .u64] 2 x6], .sli 92 true (.rows [.i .i64, .i .i64, .i .i64, .b, .i .i8, .i .i8] x7 x8)]) (pureD 3 deed_Game_Keyd) = deed_Game_Key x0 x1 x2 x3 x4 x5 x6 x7 x8 := by kernel_rfl
noncomputable def deed_Game_Keya {R : Type} (o : Orc) (vs : List V) (objs : List Obj) (K : Bool → V → List Obj → Option R) : Option R := match vs, List.map Obj.toRO objs with
 | [.s (.ptr 0 0 none 0)], [.rcells 50 [.one [.ptr 1 0 none 0, .i .u64 x0, .sl 2 0 x1 true]], .rcells 56 [.arr .i8 81 x2, .arr .i8 16 x3, .one [.i .i8 x4], .rows [.i .u64, .i .u64] 32 x5, .rows [.i .u64, .i .u64] 2 x6], .sli 92 true (.rows [.i .i64, .i .i64, .i .i64, .b, .i .i8, .i .i8] x7 x8)] => ob (deed_Game_Key x0 x1 x2 x3 x4 x5 x6 x7 x8) fun y0 => K true (.s (.i .u64 y0)) ([])
 | _, _ => o 20 vs objs K
noncomputable def deed_Game_Keyo (o : Orc) : Orc := hook 20 (deed_Game_Keya o) o
theorem deed_Game_Keyo_ok (o : Orc) (ho : OSound Tryz.prog o) : OSound Tryz.prog (deed_Game_Keyo o) := hook_ok ho fun vs objs K r h => by
 unfold deed_Game_Keya at h
 split at h
 ·skip
  have hq : List.map Obj.toRO objs = _ := (by rename_i hq; first | exact hq | assumption)
  obtain ⟨t, h1, h2⟩ := ob_ok h
  refine purOK_by mixed deed_Game_Keyc_ok (m := 3) (fn := Tryz.f20) (b := (Tryz.f20).body.getD .skip) (by kernel_rfl) (by kernel_rfl) (by kernel_rfl) hq (by kernel_rfl) (by kernel_rfl) (AllP.of (l' := []) (by kernel_rfl) trivial) ((deed_Game_Key_eq _ _ _ _ _ _ _ _ _).trans h1) fun v objs' hd => ?_
  unfold deed_Game_Keyd at hd
  split at hd
  ·skip
   cases hd
   exact h2
  ·cases hd
 ·exact ho _ _ _ _ _ h
noncomputable def deed_Game_Lenc : Ctx := mkC 8 (oNil) [] lpNil
theorem deed_Game_Lenc_ok : CtxOK Tryz.prog deed_Game_Lenc := mkC_ok (oNil_ok)
noncomputable def deed_Game_Lend : V → List Obj → Option (Int) := fun v objs => match v, objs with
 | .s (.i .i64 y0), [] => some (y0)
 | _, _ => none
theorem deed_Game_Len_eq (x0 : Int) (x1 : Nat) (x2 x3 : List Int) (x4 : Int) (x5 x6 : List (List Int)) (x7 : Nat) (x8 : List (List Int)) : fnE deed_Game_Lenc Tryz.f22 ([.s (.ptr 0 0 none 0)]) ([.rcells 50 [.one [.ptr 1 0 none 0, .i .u64 x0, .sl 2 0 x1 true]], .rcells 56 [.arr .i8 81 x2, .arr .i8 16 x3, .one [.i .i8 x4], .rows [.i .u64, .i .u64] 32 x5, .rows [.i .u64, .i .u64] 2 x6], .sli 92 true (.rows [.i .i64, .i .i64, .i .i64, .b, .i .i8, .i .i8] x7 x8)]) (pureD 3 deed_Game_Lend) = deed_Game_Len x0 x1 x2 x3 x4 x5 x6 x7 x8 := by kernel_rfl
noncomputable def deed_Game_Lena {R : Type} (o : Orc) (vs : List V) (objs : List Obj) (K : Bool → V → List Obj → Option R) : Option R := match vs, List.map Obj.toRO objs with
 | [.s (.ptr 0 0 none 0)], [.rcells 50 [.one [.ptr 1 0 none 0, .i .u64 x0, .sl 2 0 x1 true]], .rcells 56 [.arr .i8 81 x2, .arr .i8 16 x3, .one [.i .i8 x4], .rows [.i .u64, .i .u64] 32 x5, .rows [.i .u64, .i .u64] 2 x6], .sli 92 true (.rows [.i .i64, .i .i64, .i .i64, .b, .i .i8, .i .i8] x7 x8)] => ob (deed_Game_Len x0 x1 x2 x3 x4 x5 x6 x7 x8) fun y0 => K true (.s (.i .i64 y0)) ([])
 | _, _ => o 22 vs objs K
noncomputable def deed_Game_Leno (o : Orc) : Orc := hook 22 (deed_Game_Lena o) o
theorem deed_Game_Leno_ok (o : Orc) (ho : OSound Tryz.prog o) : OSound Tryz.prog (deed_Game_Leno o) := hook_ok ho fun vs objs K r h => by
 unfold deed_Game_Lena at h
 split at h
 ·skip
  have hq : List.map Obj.toRO objs = _ := (by rename_i hq; first | exact hq | assumption)
  obtain ⟨t, h1, h2⟩ := ob_ok h
  refine purOK_by mixed deed_Game_Lenc_ok (m := 3) (fn := Tryz.f22) (b := (Tryz.f22).body.getD .skip) (by kernel_rfl) (by kernel_rfl) (by kernel_rfl) hq (by kernel_rfl) (by kernel_rfl) (AllP.of (l' := []) (by kernel_rfl) trivial) ((deed_Game_Len_eq _ _ _ _ _ _ _ _ _).trans h1) fun v objs' hd => ?_
  unfold deed_Game_Lend at hd
  split at hd
  ·skip
   cases hd
   exact h2
  ·cases hd
 ·exact ho _ _ _ _ _ h
noncomputable def law12_MateGivesc : Ctx := mkC 58 ((ref08_InChecko (deed_Aftero (deed_Game_Leno (mate_Gives_v1o (deed_Game_Keyo (deed_Newo (ref08_Checko (law12_mates_v1o oNil))))))))) [] lpNil
theorem law12_MateGivesc_ok : CtxOK Tryz.prog law12_MateGivesc := mkC_ok ((ref08_InChecko_ok _ (deed_Aftero_ok _ (deed_Game_Leno_ok _ (mate_Gives_v1o_ok _ (deed_Game_Keyo_ok _ (deed_Newo_ok _ (ref08_Checko_ok _ (law12_mates_v1o_ok _ oNil_ok)))))))))
noncomputable def law12_MateGivesd : V → List Obj → Option (Bool) := fun v objs => match v, objs with
 | .s (.b y0), [] => some (y0)
 | _, _ => none
theorem law12_MateGives_eq (x0 x1 : List Int) (x2 x3 : Int) (x4 x5 : Int) (x6 : Bool) : fnE law12_MateGivesc Tryz.f5 ([.agg [.arr .i8 81 x0, .arr .i8 16 x1, .one [.i .i8 x2]], .agg [.one [.i .i64 x3, .i .i64 x4, .i .i64 x5, .b x6]]]) ([]) law12_MateGivesd = law12_MateGives x0 x1 x2 x3 x4 x5 x6 := by kernel_rfl
noncomputable def law12_MateGivesa {R : Type} (o : Orc) (vs : List V) (objs : List Obj) (K : Bool → V → List Obj → Option R) : Option R := match vs, objs with
 | [.agg [.arr .i8 81 x0, .arr .i8 16 x1, .one [.i .i8 x2]], .agg [.one [.i .i64 x3, .i .i64 x4, .i .i64 x5, .b x6]]], [] => ob (law12_MateGives x0 x1 x2 x3 x4 x5 x6) fun y0 => K false (.s (.b y0)) ([])
 | _, _ => o 5 vs objs K
noncomputable def law12_MateGiveso (o : Orc) : Orc := hook 5 (law12_MateGivesa o) o
theorem law12_MateGives_ok {vs : List V} {objs : List Obj} (x0 x1 : List Int) (x2 x3 : Int) (x4 x5 : Int) (x6 : Bool) {R : Type} {K : Bool → V → List Obj → Option R} {r : R} (hv : vs = [.agg [.arr .i8 81 x0, .arr .i8 16 x1, .one [.i .i8 x2]], .agg [.one [.i .i64 x3, .i .i64 x4, .i .i64 x5, .b x6]]]) (ho : objs = []) (h : ob (law12_MateGives x0 x1 x2 x3 x4 x5 x6) (fun y0 => K false (.s (.b y0)) ([])) = some r) :
  ∃ p v objs', K p v objs' = some r ∧ AnyOK Tryz.prog 5 vs objs p v objs' := by
 subst hv
 subst ho
 obtain ⟨t, h1, h2⟩ := ob_ok h
 refine anyOK_of mixed law12_MateGivesc_ok (fn := Tryz.f5) (b := (Tryz.f5).body.getD .skip) (by kernel_rfl) (by kernel_rfl) (by kernel_rfl) ((law12_MateGives_eq _ _ _ _ _ _ _).trans h1) (m := 0) rfl (AllP.of (l' := []) (by kernel_rfl) trivial) fun v objs' hd => ?_
 unfold law12_MateGivesd at hd
 split at hd
 ·skip
  cases hd
  exact h2
 ·cases hd
theorem law12_MateGiveso_ok (o : Orc) (ho : OSound Tryz.prog o) : OSound Tryz.prog (law12_MateGiveso o) := hook_ok ho fun vs objs K r h => by
 unfold law12_MateGivesa at h
 split at h
 ·skip
  obtain ⟨t, h1, h2⟩ := ob_ok h
  refine anyOK_of mixed law12_MateGivesc_ok (fn := Tryz.f5) (b := (Tryz.f5).body.getD .skip) (by kernel_rfl) (by kernel_rfl) (by kernel_rfl) ((law12_MateGives_eq _ _ _ _ _ _ _).trans h1) (m := 0) rfl (AllP.of (l' := []) (by kernel_rfl) trivial) fun v objs' hd => ?_
  unfold law12_MateGivesd at hd
  split at hd
  ·skip
   cases hd
   exact h2
  ·cases hd
 ·exact ho _ _ _ _ _ h
end Go.Kk.KkMS
