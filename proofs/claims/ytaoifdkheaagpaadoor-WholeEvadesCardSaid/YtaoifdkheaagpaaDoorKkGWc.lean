/- Printed by a tool of this project (KkGen): the program's functions come to the plain ones. -/
import Derived.Test.YtaoifdkheaagpaaDoorKkGWb
namespace Go.Kk.KkGW
open Go.Proofs Go.Kk.Pl
set_option maxRecDepth 100000
set_option maxHeartbeats 4000000
noncomputable def mate_Stuckc : Ctx := mkC 7 ((legal_Allo oNil)) [] lpNil
theorem mate_Stuckc_ok : CtxOK Tryd.prog mate_Stuckc := mkC_ok ((legal_Allo_ok _ oNil_ok))
noncomputable def mate_Stuckd : V → List Obj → Option (Bool × List Int × List Int × Int × List (List Int) × List (List Int)) := fun v objs => match v, objs with
  | V.s (S.b y0), [Obj.cells 81 [Seg.arr IntKind.i8 81 y1, Seg.arr IntKind.i8 16 y2, Seg.one [S.i IntKind.i8 y3], Seg.rows [.i .u64, .i .u64] 32 y4, Seg.rows [.i .u64, .i .u64] 2 y5]] => some (y0, y1, y2, y3, y4, y5)
  | _, _ => none
theorem mate_Stuck_eq (x0 x1 : List Int) (x2 : Int) (x3 x4 : List (List Int)) : fnE mate_Stuckc Tryd.f52 ([V.s (S.ptr 0 0 none 0)]) ([Obj.cells 81 [Seg.arr IntKind.i8 81 x0, Seg.arr IntKind.i8 16 x1, Seg.one [S.i IntKind.i8 x2], Seg.rows [.i .u64, .i .u64] 32 x3, Seg.rows [.i .u64, .i .u64] 2 x4]]) mate_Stuckd = mate_Stuck x0 x1 x2 x3 x4 := by kernel_rfl
noncomputable def mate_Stucka {R : Type} (o : Orc) (vs : List V) (objs : List Obj) (K : Bool → V → List Obj → Option R) : Option R := match vs, objs with
  | [V.s (S.ptr 0 0 none 0)], [Obj.cells 81 [Seg.arr IntKind.i8 81 x0, Seg.arr IntKind.i8 16 x1, Seg.one [S.i IntKind.i8 x2], Seg.rows [.i .u64, .i .u64] 32 x3, Seg.rows [.i .u64, .i .u64] 2 x4]] => ob (mate_Stuck x0 x1 x2 x3 x4) fun z => K false (V.s (S.b (z.1))) ([Obj.cells 81 [Seg.arr IntKind.i8 81 (z.2.1), Seg.arr IntKind.i8 16 (z.2.2.1), Seg.one [S.i IntKind.i8 (z.2.2.2.1)], Seg.rows [.i .u64, .i .u64] 32 (z.2.2.2.2.1), Seg.rows [.i .u64, .i .u64] 2 (z.2.2.2.2.2)]])
  | _, _ => o 52 vs objs K
noncomputable def mate_Stucko (o : Orc) : Orc := hook 52 (mate_Stucka o) o
theorem mate_Stucko_ok (o : Orc) (ho : OSound Tryd.prog o) : OSound Tryd.prog (mate_Stucko o) := hook_ok ho fun vs objs K r h => by
  unfold mate_Stucka at h
  split at h
  · skip
    obtain ⟨t, h1, h2⟩ := ob_ok h
    refine anyOK_of mixed mate_Stuckc_ok (fn := Tryd.f52) (b := (Tryd.f52).body.getD .skip) (by kernel_rfl) (by kernel_rfl) (by kernel_rfl) ((mate_Stuck_eq _ _ _ _ _).trans h1) (m := 1) rfl (AllP.of (l' := []) (by kernel_rfl) trivial) fun v objs' hd => ?_
    unfold mate_Stuckd at hd
    split at hd
    · skip
      cases hd
      exact h2
    · cases hd
  · exact ho _ _ _ _ _ h
noncomputable def mate_Matedc : Ctx := mkC 15 ((mate_Stucko (attack_InChecko oNil))) [] lpNil
theorem mate_Matedc_ok : CtxOK Tryd.prog mate_Matedc := mkC_ok ((mate_Stucko_ok _ (attack_InChecko_ok _ oNil_ok)))
noncomputable def mate_Matedd : V → List Obj → Option (Bool × List Int × List Int × Int × List (List Int) × List (List Int)) := fun v objs => match v, objs with
  | V.s (S.b y0), [Obj.cells 81 [Seg.arr IntKind.i8 81 y1, Seg.arr IntKind.i8 16 y2, Seg.one [S.i IntKind.i8 y3], Seg.rows [.i .u64, .i .u64] 32 y4, Seg.rows [.i .u64, .i .u64] 2 y5]] => some (y0, y1, y2, y3, y4, y5)
  | _, _ => none
theorem mate_Mated_eq (x0 x1 : List Int) (x2 : Int) (x3 x4 : List (List Int)) : fnE mate_Matedc Tryd.f12 ([V.s (S.ptr 0 0 none 0)]) ([Obj.cells 81 [Seg.arr IntKind.i8 81 x0, Seg.arr IntKind.i8 16 x1, Seg.one [S.i IntKind.i8 x2], Seg.rows [.i .u64, .i .u64] 32 x3, Seg.rows [.i .u64, .i .u64] 2 x4]]) mate_Matedd = mate_Mated x0 x1 x2 x3 x4 := by kernel_rfl
noncomputable def mate_Mateda {R : Type} (o : Orc) (vs : List V) (objs : List Obj) (K : Bool → V → List Obj → Option R) : Option R := match vs, objs with
  | [V.s (S.ptr 0 0 none 0)], [Obj.cells 81 [Seg.arr IntKind.i8 81 x0, Seg.arr IntKind.i8 16 x1, Seg.one [S.i IntKind.i8 x2], Seg.rows [.i .u64, .i .u64] 32 x3, Seg.rows [.i .u64, .i .u64] 2 x4]] => ob (mate_Mated x0 x1 x2 x3 x4) fun z => K false (V.s (S.b (z.1))) ([Obj.cells 81 [Seg.arr IntKind.i8 81 (z.2.1), Seg.arr IntKind.i8 16 (z.2.2.1), Seg.one [S.i IntKind.i8 (z.2.2.2.1)], Seg.rows [.i .u64, .i .u64] 32 (z.2.2.2.2.1), Seg.rows [.i .u64, .i .u64] 2 (z.2.2.2.2.2)]])
  | _, _ => o 12 vs objs K
noncomputable def mate_Matedo (o : Orc) : Orc := hook 12 (mate_Mateda o) o
theorem mate_Matedo_ok (o : Orc) (ho : OSound Tryd.prog o) : OSound Tryd.prog (mate_Matedo o) := hook_ok ho fun vs objs K r h => by
  unfold mate_Mateda at h
  split at h
  · skip
    obtain ⟨t, h1, h2⟩ := ob_ok h
    refine anyOK_of mixed mate_Matedc_ok (fn := Tryd.f12) (b := (Tryd.f12).body.getD .skip) (by kernel_rfl) (by kernel_rfl) (by kernel_rfl) ((mate_Mated_eq _ _ _ _ _).trans h1) (m := 1) rfl (AllP.of (l' := []) (by kernel_rfl) trivial) fun v objs' hd => ?_
    unfold mate_Matedd at hd
    split at hd
    · skip
      cases hd
      exact h2
    · cases hd
  · exact ho _ _ _ _ _ h
noncomputable def gen_Allc : Ctx := mkC 10 ((gen_Dropso (gen_Boardo (set_Allo oNil)))) [] lpNil
theorem gen_Allc_ok : CtxOK Tryd.prog gen_Allc := mkC_ok ((gen_Dropso_ok _ (gen_Boardo_ok _ (set_Allo_ok _ oNil_ok))))
noncomputable def gen_Alld : V → List Obj → Option (Nat × Nat × List (List Int)) := fun v objs => match v, objs with
  | V.s (S.sl 1 0 y0 true), [Obj.sli 40 false (Seg.rows [.i .i64, .i .i64, .i .i64, .b] y1 y2)] => some (y0, y1, y2)
  | _, _ => none
theorem gen_All_eq (x0 x1 : List Int) (x2 : Int) (x3 x4 : List (List Int)) : fnE gen_Allc Tryd.f15 ([V.s (S.ptr 0 0 none 0)]) ([Obj.rcells 81 [Seg.arr IntKind.i8 81 x0, Seg.arr IntKind.i8 16 x1, Seg.one [S.i IntKind.i8 x2], Seg.rows [.i .u64, .i .u64] 32 x3, Seg.rows [.i .u64, .i .u64] 2 x4]]) (pureD 1 gen_Alld) = gen_All x0 x1 x2 x3 x4 := by kernel_rfl
noncomputable def gen_Alla {R : Type} (o : Orc) (vs : List V) (objs : List Obj) (K : Bool → V → List Obj → Option R) : Option R := match vs, List.map Obj.toRO objs with
  | [V.s (S.ptr 0 0 none 0)], [Obj.rcells 81 [Seg.arr IntKind.i8 81 x0, Seg.arr IntKind.i8 16 x1, Seg.one [S.i IntKind.i8 x2], Seg.rows [.i .u64, .i .u64] 32 x3, Seg.rows [.i .u64, .i .u64] 2 x4]] => ob (gen_All x0 x1 x2 x3 x4) fun z => K true (V.s (S.sl 1 0 (z.1) true)) ([Obj.sli 40 false (Seg.rows [.i .i64, .i .i64, .i .i64, .b] (z.2.1) (z.2.2))])
  | _, _ => o 15 vs objs K
noncomputable def gen_Allo (o : Orc) : Orc := hook 15 (gen_Alla o) o
theorem gen_Allo_ok (o : Orc) (ho : OSound Tryd.prog o) : OSound Tryd.prog (gen_Allo o) := hook_ok ho fun vs objs K r h => by
  unfold gen_Alla at h
  split at h
  · skip
    have hq : List.map Obj.toRO objs = _ := (by rename_i hq; first | exact hq | assumption)
    obtain ⟨t, h1, h2⟩ := ob_ok h
    refine purOK_by mixed gen_Allc_ok (m := 1) (fn := Tryd.f15) (b := (Tryd.f15).body.getD .skip) (by kernel_rfl) (by kernel_rfl) (by kernel_rfl) hq (by kernel_rfl) (by kernel_rfl) (AllP.of (l' := []) (by kernel_rfl) trivial) ((gen_All_eq _ _ _ _ _).trans h1) fun v objs' hd => ?_
    unfold gen_Alld at hd
    split at hd
    · skip
      cases hd
      exact h2
    · cases hd
  · exact ho _ _ _ _ _ h
noncomputable def piece_Rawc : Ctx := mkC 13 ((piece_Ofo oNil)) [] lpNil
theorem piece_Rawc_ok : CtxOK Tryd.prog piece_Rawc := mkC_ok ((piece_Ofo_ok _ oNil_ok))
noncomputable def piece_Rawd : V → List Obj → Option (Int) := fun v objs => match v, objs with
  | V.s (S.i IntKind.i64 y0), [] => some (y0)
  | _, _ => none
theorem piece_Raw_eq (x0 : Int) : fnE piece_Rawc Tryd.f98 ([V.s (S.i IntKind.i64 x0)]) ([]) piece_Rawd = piece_Raw x0 := by kernel_rfl
noncomputable def piece_Rawa {R : Type} (o : Orc) (vs : List V) (objs : List Obj) (K : Bool → V → List Obj → Option R) : Option R := match vs, objs with
  | [V.s (S.i IntKind.i64 x0)], [] => ob (piece_Raw x0) fun y0 => K false (V.s (S.i IntKind.i64 y0)) ([])
  | _, _ => o 98 vs objs K
noncomputable def piece_Rawo (o : Orc) : Orc := hook 98 (piece_Rawa o) o
theorem piece_Rawo_ok (o : Orc) (ho : OSound Tryd.prog o) : OSound Tryd.prog (piece_Rawo o) := hook_ok ho fun vs objs K r h => by
  unfold piece_Rawa at h
  split at h
  · skip
    obtain ⟨t, h1, h2⟩ := ob_ok h
    refine anyOK_of mixed piece_Rawc_ok (fn := Tryd.f98) (b := (Tryd.f98).body.getD .skip) (by kernel_rfl) (by kernel_rfl) (by kernel_rfl) ((piece_Raw_eq _).trans h1) (m := 0) rfl (AllP.of (l' := []) (by kernel_rfl) trivial) fun v objs' hd => ?_
    unfold piece_Rawd at hd
    split at hd
    · skip
      cases hd
      exact h2
    · cases hd
  · exact ho _ _ _ _ _ h
noncomputable def piece_Totalc : Ctx := mkC 15 (oNil) [] lpNil
theorem piece_Totalc_ok : CtxOK Tryd.prog piece_Totalc := mkC_ok (oNil_ok)
noncomputable def piece_Totald : V → List Obj → Option (Int) := fun v objs => match v, objs with
  | V.s (S.i IntKind.i64 y0), [] => some (y0)
  | _, _ => none
theorem piece_Total_eq (x0 : Int) : fnE piece_Totalc Tryd.f99 ([V.s (S.i IntKind.i64 x0)]) ([]) piece_Totald = piece_Total x0 := by kernel_rfl
noncomputable def piece_Totala {R : Type} (o : Orc) (vs : List V) (objs : List Obj) (K : Bool → V → List Obj → Option R) : Option R := match vs, objs with
  | [V.s (S.i IntKind.i64 x0)], [] => ob (piece_Total x0) fun y0 => K false (V.s (S.i IntKind.i64 y0)) ([])
  | _, _ => o 99 vs objs K
noncomputable def piece_Totalo (o : Orc) : Orc := hook 99 (piece_Totala o) o
theorem piece_Totalo_ok (o : Orc) (ho : OSound Tryd.prog o) : OSound Tryd.prog (piece_Totalo o) := hook_ok ho fun vs objs K r h => by
  unfold piece_Totala at h
  split at h
  · skip
    obtain ⟨t, h1, h2⟩ := ob_ok h
    refine anyOK_of mixed piece_Totalc_ok (fn := Tryd.f99) (b := (Tryd.f99).body.getD .skip) (by kernel_rfl) (by kernel_rfl) (by kernel_rfl) ((piece_Total_eq _).trans h1) (m := 0) rfl (AllP.of (l' := []) (by kernel_rfl) trivial) fun v objs' hd => ?_
    unfold piece_Totald at hd
    split at hd
    · skip
      cases hd
      exact h2
    · cases hd
  · exact ho _ _ _ _ _ h
noncomputable def board_filesl2d : Ex → List V → List Obj → Option ((Int × List Int × List Int × Int) ⊕ (List Int × List Int × Int)) := fun e vs objs => match e, vs, objs with
  | Ex.ret, [V.s (S.ptr 0 0 none 0), V.s (S.i IntKind.i64 y0)], [Obj.cells 28 [Seg.arr IntKind.i8 81 y1, Seg.arr IntKind.i8 16 y2, Seg.one [S.i IntKind.i8 y3]]] => some (Sum.inl (y0, y1, y2, y3))
  | Ex.exit 0, [V.s (S.ptr 0 0 none 0), V.s S.bad], [Obj.cells 28 [Seg.arr IntKind.i8 81 y0, Seg.arr IntKind.i8 16 y1, Seg.one [S.i IntKind.i8 y2]]] => some (Sum.inr (y0, y1, y2))
  | _, _, _ => none
noncomputable def board_filesl12d : Ex → List V → List Obj → Option ((Int × Int × List Int × List Int × Int × List (List Int) × List (List Int)) ⊕ (Int × List Int × List Int × Int × List (List Int) × List (List Int))) := fun e vs objs => match e, vs, objs with
  | Ex.ret, [V.s (S.i IntKind.i64 y0), V.s (S.ptr 0 0 none 0), V.s (S.i IntKind.i64 y1)], [Obj.cells 81 [Seg.arr IntKind.i8 81 y2, Seg.arr IntKind.i8 16 y3, Seg.one [S.i IntKind.i8 y4], Seg.rows [.i .u64, .i .u64] 32 y5, Seg.rows [.i .u64, .i .u64] 2 y6]] => some (Sum.inl (y0, y1, y2, y3, y4, y5, y6))
  | Ex.exit 4, [V.s S.bad, V.s (S.ptr 0 0 none 0), V.s (S.i IntKind.i64 y0)], [Obj.cells 81 [Seg.arr IntKind.i8 81 y1, Seg.arr IntKind.i8 16 y2, Seg.one [S.i IntKind.i8 y3], Seg.rows [.i .u64, .i .u64] 32 y4, Seg.rows [.i .u64, .i .u64] 2 y5]] => some (Sum.inr (y0, y1, y2, y3, y4, y5))
  | _, _, _ => none
noncomputable def board_filesl9d : Ex → List V → List Obj → Option ((Int) ⊕ (Unit)) := fun e vs objs => match e, vs, objs with
  | Ex.ret, [V.s (S.i IntKind.i64 y0)], [] => some (Sum.inl (y0))
  | Ex.exit 2, [V.s S.bad], [] => some (Sum.inr ())
  | _, _, _ => none
noncomputable def board_filesp2 {R : Type} (vs : List V) (objs : List Obj) (K : Ex → List V → List Obj → Option R) : Option R := match vs, objs with
  | [V.s (S.ptr 0 0 none 0), V.agg [Seg.arr IntKind.i8 81 x0], V.s (S.i IntKind.i64 x1)], [Obj.cells 28 [Seg.arr IntKind.i8 81 x2, Seg.arr IntKind.i8 16 x3, Seg.one [S.i IntKind.i8 x4]]] => ob (board_filesl2 many x0 x1 x2 x3 x4) fun t0 => sw t0 (fun z => K (Ex.ret) ([V.s (S.ptr 0 0 none 0), V.s (S.i IntKind.i64 (z.1))]) ([Obj.cells 28 [Seg.arr IntKind.i8 81 (z.2.1), Seg.arr IntKind.i8 16 (z.2.2.1), Seg.one [S.i IntKind.i8 (z.2.2.2)]]])) (fun z => K (Ex.exit 0) ([V.s (S.ptr 0 0 none 0), V.s S.bad]) ([Obj.cells 28 [Seg.arr IntKind.i8 81 (z.1), Seg.arr IntKind.i8 16 (z.2.1), Seg.one [S.i IntKind.i8 (z.2.2)]]]))
  | _, _ => none
noncomputable def board_filesp12 {R : Type} (vs : List V) (objs : List Obj) (K : Ex → List V → List Obj → Option R) : Option R := match vs, objs with
  | [V.s (S.ptr 0 0 none 0), V.s (S.i IntKind.i64 x0), V.s (S.i IntKind.i64 x1), V.s (S.i IntKind.i64 x2)], [Obj.cells 81 [Seg.arr IntKind.i8 81 x3, Seg.arr IntKind.i8 16 x4, Seg.one [S.i IntKind.i8 x5], Seg.rows [.i .u64, .i .u64] 32 x6, Seg.rows [.i .u64, .i .u64] 2 x7]] => ob (board_filesl12 many x0 x1 x2 x3 x4 x5 x6 x7) fun t0 => sw t0 (fun z => K (Ex.ret) ([V.s (S.i IntKind.i64 (z.1)), V.s (S.ptr 0 0 none 0), V.s (S.i IntKind.i64 (z.2.1))]) ([Obj.cells 81 [Seg.arr IntKind.i8 81 (z.2.2.1), Seg.arr IntKind.i8 16 (z.2.2.2.1), Seg.one [S.i IntKind.i8 (z.2.2.2.2.1)], Seg.rows [.i .u64, .i .u64] 32 (z.2.2.2.2.2.1), Seg.rows [.i .u64, .i .u64] 2 (z.2.2.2.2.2.2)]])) (fun z => K (Ex.exit 4) ([V.s S.bad, V.s (S.ptr 0 0 none 0), V.s (S.i IntKind.i64 (z.1))]) ([Obj.cells 81 [Seg.arr IntKind.i8 81 (z.2.1), Seg.arr IntKind.i8 16 (z.2.2.1), Seg.one [S.i IntKind.i8 (z.2.2.2.1)], Seg.rows [.i .u64, .i .u64] 32 (z.2.2.2.2.1), Seg.rows [.i .u64, .i .u64] 2 (z.2.2.2.2.2)]]))
  | _, _ => none
noncomputable def board_filesp9 {R : Type} (vs : List V) (objs : List Obj) (K : Ex → List V → List Obj → Option R) : Option R := match vs, objs with
  | [V.s (S.ptr 0 0 none 0), V.s (S.i IntKind.i64 x0)], [Obj.cells 81 [Seg.arr IntKind.i8 81 x1, Seg.arr IntKind.i8 16 x2, Seg.one [S.i IntKind.i8 x3], Seg.rows [.i .u64, .i .u64] 32 x4, Seg.rows [.i .u64, .i .u64] 2 x5]] => ob (board_filesl9 many x0 x1 x2 x3 x4 x5) fun t0 => sw t0 (fun y0 => K (Ex.ret) ([V.s (S.i IntKind.i64 y0)]) ([])) (fun _ => K (Ex.exit 2) ([V.s S.bad]) ([]))
  | _, _ => none
noncomputable def board_fileslp : {R : Type} → Nat → List V → List Obj → (Ex → List V → List Obj → Option R) → Option R := fun q vs objs K => bif Nat.beq q 2 then board_filesp2 vs objs K else bif Nat.beq q 12 then board_filesp12 vs objs K else bif Nat.beq q 9 then board_filesp9 vs objs K else none
noncomputable def board_filesc : Ctx := mkC 36 ((set_Counto (set_Ando (set_InFileo (board_Ofo (board_Newo (step_Deado oNil))))))) [(2, [1, 9, 10], [1, 2]), (9, [5, 20], [2]), (12, [5, 6, 20, 23], [2, 5, 20])] board_fileslp
theorem board_filesc_ok : CtxOK Tryd.prog board_filesc := mkC_ok ((set_Counto_ok _ (set_Ando_ok _ (set_InFileo_ok _ (board_Ofo_ok _ (board_Newo_ok _ (step_Deado_ok _ oNil_ok)))))))
noncomputable def board_filesl2r (f : Nat) (x0 : List Int) (x1 : Int) (x2 x3 : List Int) (x4 : Int) : Option ((Int × List Int × List Int × Int) ⊕ (List Int × List Int × Int)) := lrun board_filesc 0 [1, 9, 10] [1, 2] (loopOf Tryd.f100 2) f ([V.s (S.ptr 0 0 none 0), V.agg [Seg.arr IntKind.i8 81 x0], V.s (S.i IntKind.i64 x1)]) ([Obj.cells 28 [Seg.arr IntKind.i8 81 x2, Seg.arr IntKind.i8 16 x3, Seg.one [S.i IntKind.i8 x4]]]) board_filesl2d
theorem board_filesl2_step (f : Nat) (x0 : List Int) (x1 : Int) (x2 x3 : List Int) (x4 : Int) : board_filesl2r (f + 1) x0 x1 x2 x3 x4 = board_filesl2s (board_filesl2r f) x0 x1 x2 x3 x4 := by kernel_rfl
theorem board_filesl2_eq : ∀ f, board_filesl2r f = board_filesl2 f
  | 0 => rfl
  | f + 1 => by funext x0 x1 x2 x3 x4; rw [board_filesl2_step, board_filesl2_eq f]; rfl
noncomputable def board_filesl12r (f : Nat) (x0 x1 x2 : Int) (x3 x4 : List Int) (x5 : Int) (x6 x7 : List (List Int)) : Option ((Int × Int × List Int × List Int × Int × List (List Int) × List (List Int)) ⊕ (Int × List Int × List Int × Int × List (List Int) × List (List Int))) := lrun board_filesc 0 [5, 6, 20, 23] [2, 5, 20] (loopOf Tryd.f100 12) f ([V.s (S.ptr 0 0 none 0), V.s (S.i IntKind.i64 x0), V.s (S.i IntKind.i64 x1), V.s (S.i IntKind.i64 x2)]) ([Obj.cells 81 [Seg.arr IntKind.i8 81 x3, Seg.arr IntKind.i8 16 x4, Seg.one [S.i IntKind.i8 x5], Seg.rows [.i .u64, .i .u64] 32 x6, Seg.rows [.i .u64, .i .u64] 2 x7]]) board_filesl12d
theorem board_filesl12_step (f : Nat) (x0 x1 x2 : Int) (x3 x4 : List Int) (x5 : Int) (x6 x7 : List (List Int)) : board_filesl12r (f + 1) x0 x1 x2 x3 x4 x5 x6 x7 = board_filesl12s (board_filesl12r f) x0 x1 x2 x3 x4 x5 x6 x7 := by kernel_rfl
theorem board_filesl12_eq : ∀ f, board_filesl12r f = board_filesl12 f
  | 0 => rfl
  | f + 1 => by funext x0 x1 x2 x3 x4 x5 x6 x7; rw [board_filesl12_step, board_filesl12_eq f]; rfl
noncomputable def board_filesl9r (f : Nat) (x0 : Int) (x1 x2 : List Int) (x3 : Int) (x4 x5 : List (List Int)) : Option ((Int) ⊕ (Unit)) := lrun board_filesc 0 [5, 20] [2] (loopOf Tryd.f100 9) f ([V.s (S.ptr 0 0 none 0), V.s (S.i IntKind.i64 x0)]) ([Obj.cells 81 [Seg.arr IntKind.i8 81 x1, Seg.arr IntKind.i8 16 x2, Seg.one [S.i IntKind.i8 x3], Seg.rows [.i .u64, .i .u64] 32 x4, Seg.rows [.i .u64, .i .u64] 2 x5]]) board_filesl9d
theorem board_filesl9_step (f : Nat) (x0 : Int) (x1 x2 : List Int) (x3 : Int) (x4 x5 : List (List Int)) : board_filesl9r (f + 1) x0 x1 x2 x3 x4 x5 = board_filesl9s (board_filesl9r f) x0 x1 x2 x3 x4 x5 := by kernel_rfl
theorem board_filesl9_eq : ∀ f, board_filesl9r f = board_filesl9 f
  | 0 => rfl
  | f + 1 => by funext x0 x1 x2 x3 x4 x5; rw [board_filesl9_step, board_filesl9_eq f]; rfl
theorem board_filess2 : LoopSound Tryd.prog board_filesc 0 (loopOf Tryd.f100 2) :=
  loopSound_by mixed board_filesc_ok (AllP.of (l' := []) (by kernel_rfl) trivial) (q := 2) (kin := [1, 9, 10]) (kout := [1, 2]) (by kernel_rfl) (by kernel_rfl) fun vs objs K r h => by
    replace h : board_filesp2 vs objs K = some r := h
    unfold board_filesp2 at h
    split at h
    · skip
      obtain ⟨t, h1, h2⟩ := ob_ok h
      rw [← board_filesl2_eq] at h1
      refine ⟨_, board_filesl2d, t, many, h1, fun e vs' objs' hd => ?_⟩
      unfold board_filesl2d at hd
      split at hd
      · skip
        cases hd
        exact h2
      · skip
        cases hd
        exact h2
      · cases hd
    · cases h
theorem board_filess12 : LoopSound Tryd.prog board_filesc 0 (loopOf Tryd.f100 12) :=
  loopSound_by mixed board_filesc_ok (AllP.of (l' := []) (by kernel_rfl) trivial) (q := 12) (kin := [5, 6, 20, 23]) (kout := [2, 5, 20]) (by kernel_rfl) (by kernel_rfl) fun vs objs K r h => by
    replace h : board_filesp12 vs objs K = some r := h
    unfold board_filesp12 at h
    split at h
    · skip
      obtain ⟨t, h1, h2⟩ := ob_ok h
      rw [← board_filesl12_eq] at h1
      refine ⟨_, board_filesl12d, t, many, h1, fun e vs' objs' hd => ?_⟩
      unfold board_filesl12d at hd
      split at hd
      · skip
        cases hd
        exact h2
      · skip
        cases hd
        exact h2
      · cases hd
    · cases h
theorem board_filess9 : LoopSound Tryd.prog board_filesc 0 (loopOf Tryd.f100 9) :=
  loopSound_by mixed board_filesc_ok (AllP.of (l' := [loopOf Tryd.f100 12]) (by kernel_rfl) ⟨board_filess12, trivial⟩) (q := 9) (kin := [5, 20]) (kout := [2]) (by kernel_rfl) (by kernel_rfl) fun vs objs K r h => by
    replace h : board_filesp9 vs objs K = some r := h
    unfold board_filesp9 at h
    split at h
    · skip
      obtain ⟨t, h1, h2⟩ := ob_ok h
      rw [← board_filesl9_eq] at h1
      refine ⟨_, board_filesl9d, t, many, h1, fun e vs' objs' hd => ?_⟩
      unfold board_filesl9d at hd
      split at hd
      · skip
        cases hd
        exact h2
      · skip
        cases hd
        exact h2
      · cases hd
    · cases h
noncomputable def board_filesd : V → List Obj → Option (Int) := fun v objs => match v, objs with
  | V.s (S.i IntKind.i64 y0), [] => some (y0)
  | _, _ => none
theorem board_files_eq (x0 x1 : List Int) (x2 : Int) : fnE board_filesc Tryd.f100 ([V.agg [Seg.arr IntKind.i8 81 x0, Seg.arr IntKind.i8 16 x1, Seg.one [S.i IntKind.i8 x2]]]) ([]) board_filesd = board_files x0 x1 x2 := by kernel_rfl
noncomputable def board_filesa {R : Type} (o : Orc) (vs : List V) (objs : List Obj) (K : Bool → V → List Obj → Option R) : Option R := match vs, objs with
  | [V.agg [Seg.arr IntKind.i8 81 x0, Seg.arr IntKind.i8 16 x1, Seg.one [S.i IntKind.i8 x2]]], [] => ob (board_files x0 x1 x2) fun y0 => K false (V.s (S.i IntKind.i64 y0)) ([])
  | _, _ => o 100 vs objs K
noncomputable def board_fileso (o : Orc) : Orc := hook 100 (board_filesa o) o
theorem board_fileso_ok (o : Orc) (ho : OSound Tryd.prog o) : OSound Tryd.prog (board_fileso o) := hook_ok ho fun vs objs K r h => by
  unfold board_filesa at h
  split at h
  · skip
    obtain ⟨t, h1, h2⟩ := ob_ok h
    refine anyOK_of mixed board_filesc_ok (fn := Tryd.f100) (b := (Tryd.f100).body.getD .skip) (by kernel_rfl) (by kernel_rfl) (by kernel_rfl) ((board_files_eq _ _ _).trans h1) (m := 0) rfl (AllP.of (l' := [loopOf Tryd.f100 2, loopOf Tryd.f100 9]) (by kernel_rfl) ⟨board_filess2, board_filess9, trivial⟩) fun v objs' hd => ?_
    unfold board_filesd at hd
    split at hd
    · skip
      cases hd
      exact h2
    · cases hd
  · exact ho _ _ _ _ _ h
noncomputable def board_Checkl6d : Ex → List V → List Obj → Option ((Int × List Int × List Int × Int × List Int × List Int) ⊕ (List Int × List Int × Int × List Int × List Int)) := fun e vs objs => match e, vs, objs with
  | Ex.ret, [V.s (S.ptr 0 0 none 0), V.s (S.i IntKind.i64 y0), V.s (S.ptr 1 0 none 0), V.s (S.ptr 2 0 none 0)], [Obj.cells 28 [Seg.arr IntKind.i8 81 y1, Seg.arr IntKind.i8 16 y2, Seg.one [S.i IntKind.i8 y3]], Obj.cells 83 [Seg.arr IntKind.i64 9 y4], Obj.cells 109 [Seg.arr IntKind.i64 2 y5]] => some (Sum.inl (y0, y1, y2, y3, y4, y5))
  | Ex.exit 0, [V.s (S.ptr 0 0 none 0), V.s S.bad, V.s (S.ptr 1 0 none 0), V.s (S.ptr 2 0 none 0)], [Obj.cells 28 [Seg.arr IntKind.i8 81 y0, Seg.arr IntKind.i8 16 y1, Seg.one [S.i IntKind.i8 y2]], Obj.cells 83 [Seg.arr IntKind.i64 9 y3], Obj.cells 109 [Seg.arr IntKind.i64 2 y4]] => some (Sum.inr (y0, y1, y2, y3, y4))
  | _, _, _ => none
noncomputable def board_Checkl20d : Ex → List V → List Obj → Option ((Int × List Int × Int × List Int × List Int × Int × List Int × List Int) ⊕ (List Int × Int × List Int × List Int × Int × List Int × List Int)) := fun e vs objs => match e, vs, objs with
  | Ex.ret, [V.s (S.ptr 0 0 none 0), V.s (S.i IntKind.i64 y0), V.s (S.ptr 1 0 none 0), V.s (S.ptr 2 0 none 0), V.agg [Seg.arr IntKind.i8 16 y1], V.s (S.i IntKind.i64 y2)], [Obj.cells 28 [Seg.arr IntKind.i8 81 y3, Seg.arr IntKind.i8 16 y4, Seg.one [S.i IntKind.i8 y5]], Obj.cells 83 [Seg.arr IntKind.i64 9 y6], Obj.cells 109 [Seg.arr IntKind.i64 2 y7]] => some (Sum.inl (y0, y1, y2, y3, y4, y5, y6, y7))
  | Ex.exit 9, [V.s (S.ptr 0 0 none 0), V.s S.bad, V.s (S.ptr 1 0 none 0), V.s (S.ptr 2 0 none 0), V.agg [Seg.arr IntKind.i8 16 y0], V.s (S.i IntKind.i64 y1)], [Obj.cells 28 [Seg.arr IntKind.i8 81 y2, Seg.arr IntKind.i8 16 y3, Seg.one [S.i IntKind.i8 y4]], Obj.cells 83 [Seg.arr IntKind.i64 9 y5], Obj.cells 109 [Seg.arr IntKind.i64 2 y6]] => some (Sum.inr (y0, y1, y2, y3, y4, y5, y6))
  | _, _, _ => none
noncomputable def board_Checkl17d : Ex → List V → List Obj → Option ((Int × List Int × List Int × Int × List Int × List Int) ⊕ (List Int × List Int × Int × List Int × List Int)) := fun e vs objs => match e, vs, objs with
  | Ex.ret, [V.s (S.ptr 0 0 none 0), V.s (S.i IntKind.i64 y0), V.s (S.ptr 1 0 none 0), V.s (S.ptr 2 0 none 0)], [Obj.cells 28 [Seg.arr IntKind.i8 81 y1, Seg.arr IntKind.i8 16 y2, Seg.one [S.i IntKind.i8 y3]], Obj.cells 83 [Seg.arr IntKind.i64 9 y4], Obj.cells 109 [Seg.arr IntKind.i64 2 y5]] => some (Sum.inl (y0, y1, y2, y3, y4, y5))
  | Ex.exit 7, [V.s (S.ptr 0 0 none 0), V.s S.bad, V.s (S.ptr 1 0 none 0), V.s (S.ptr 2 0 none 0)], [Obj.cells 28 [Seg.arr IntKind.i8 81 y0, Seg.arr IntKind.i8 16 y1, Seg.one [S.i IntKind.i8 y2]], Obj.cells 83 [Seg.arr IntKind.i64 9 y3], Obj.cells 109 [Seg.arr IntKind.i64 2 y4]] => some (Sum.inr (y0, y1, y2, y3, y4))
  | _, _, _ => none
noncomputable def board_Checkl30d : Ex → List V → List Obj → Option ((Int × List Int × List Int × Int) ⊕ (List Int × List Int × Int)) := fun e vs objs => match e, vs, objs with
  | Ex.ret, [V.s (S.ptr 0 0 none 0), V.s (S.i IntKind.i64 y0)], [Obj.cells 28 [Seg.arr IntKind.i8 81 y1, Seg.arr IntKind.i8 16 y2, Seg.one [S.i IntKind.i8 y3]]] => some (Sum.inl (y0, y1, y2, y3))
  | Ex.exit 11, [V.s (S.ptr 0 0 none 0), V.s S.bad], [Obj.cells 28 [Seg.arr IntKind.i8 81 y0, Seg.arr IntKind.i8 16 y1, Seg.one [S.i IntKind.i8 y2]]] => some (Sum.inr (y0, y1, y2))
  | _, _, _ => none
noncomputable def board_Checkp6 {R : Type} (vs : List V) (objs : List Obj) (K : Ex → List V → List Obj → Option R) : Option R := match vs, objs with
  | [V.s (S.ptr 0 0 none 0), V.s (S.ptr 1 0 none 0), V.s (S.ptr 2 0 none 0), V.agg [Seg.arr IntKind.i8 81 x0], V.s (S.i IntKind.i64 x1)], [Obj.cells 28 [Seg.arr IntKind.i8 81 x2, Seg.arr IntKind.i8 16 x3, Seg.one [S.i IntKind.i8 x4]], Obj.cells 83 [Seg.arr IntKind.i64 9 x5], Obj.cells 109 [Seg.arr IntKind.i64 2 x6]] => ob (board_Checkl6 many x0 x1 x2 x3 x4 x5 x6) fun t0 => sw t0 (fun z => K (Ex.ret) ([V.s (S.ptr 0 0 none 0), V.s (S.i IntKind.i64 (z.1)), V.s (S.ptr 1 0 none 0), V.s (S.ptr 2 0 none 0)]) ([Obj.cells 28 [Seg.arr IntKind.i8 81 (z.2.1), Seg.arr IntKind.i8 16 (z.2.2.1), Seg.one [S.i IntKind.i8 (z.2.2.2.1)]], Obj.cells 83 [Seg.arr IntKind.i64 9 (z.2.2.2.2.1)], Obj.cells 109 [Seg.arr IntKind.i64 2 (z.2.2.2.2.2)]])) (fun z => K (Ex.exit 0) ([V.s (S.ptr 0 0 none 0), V.s S.bad, V.s (S.ptr 1 0 none 0), V.s (S.ptr 2 0 none 0)]) ([Obj.cells 28 [Seg.arr IntKind.i8 81 (z.1), Seg.arr IntKind.i8 16 (z.2.1), Seg.one [S.i IntKind.i8 (z.2.2.1)]], Obj.cells 83 [Seg.arr IntKind.i64 9 (z.2.2.2.1)], Obj.cells 109 [Seg.arr IntKind.i64 2 (z.2.2.2.2)]]))
  | _, _ => none
noncomputable def board_Checkp20 {R : Type} (vs : List V) (objs : List Obj) (K : Ex → List V → List Obj → Option R) : Option R := match vs, objs with
  | [V.s (S.ptr 0 0 none 0), V.s (S.ptr 1 0 none 0), V.s (S.ptr 2 0 none 0), V.agg [Seg.arr IntKind.i8 16 x0], V.s (S.i IntKind.i64 x1), V.agg [Seg.arr IntKind.i8 8 x2], V.s (S.i IntKind.i64 x3)], [Obj.cells 28 [Seg.arr IntKind.i8 81 x4, Seg.arr IntKind.i8 16 x5, Seg.one [S.i IntKind.i8 x6]], Obj.cells 83 [Seg.arr IntKind.i64 9 x7], Obj.cells 109 [Seg.arr IntKind.i64 2 x8]] => ob (board_Checkl20 many x0 x1 x2 x3 x4 x5 x6 x7 x8) fun t0 => sw t0 (fun z => K (Ex.ret) ([V.s (S.ptr 0 0 none 0), V.s (S.i IntKind.i64 (z.1)), V.s (S.ptr 1 0 none 0), V.s (S.ptr 2 0 none 0), V.agg [Seg.arr IntKind.i8 16 (z.2.1)], V.s (S.i IntKind.i64 (z.2.2.1))]) ([Obj.cells 28 [Seg.arr IntKind.i8 81 (z.2.2.2.1), Seg.arr IntKind.i8 16 (z.2.2.2.2.1), Seg.one [S.i IntKind.i8 (z.2.2.2.2.2.1)]], Obj.cells 83 [Seg.arr IntKind.i64 9 (z.2.2.2.2.2.2.1)], Obj.cells 109 [Seg.arr IntKind.i64 2 (z.2.2.2.2.2.2.2)]])) (fun z => K (Ex.exit 9) ([V.s (S.ptr 0 0 none 0), V.s S.bad, V.s (S.ptr 1 0 none 0), V.s (S.ptr 2 0 none 0), V.agg [Seg.arr IntKind.i8 16 (z.1)], V.s (S.i IntKind.i64 (z.2.1))]) ([Obj.cells 28 [Seg.arr IntKind.i8 81 (z.2.2.1), Seg.arr IntKind.i8 16 (z.2.2.2.1), Seg.one [S.i IntKind.i8 (z.2.2.2.2.1)]], Obj.cells 83 [Seg.arr IntKind.i64 9 (z.2.2.2.2.2.1)], Obj.cells 109 [Seg.arr IntKind.i64 2 (z.2.2.2.2.2.2)]]))
  | _, _ => none
noncomputable def board_Checkp17 {R : Type} (vs : List V) (objs : List Obj) (K : Ex → List V → List Obj → Option R) : Option R := match vs, objs with
  | [V.s (S.ptr 0 0 none 0), V.s (S.ptr 1 0 none 0), V.s (S.ptr 2 0 none 0), V.agg [Seg.arr IntKind.i8 16 x0], V.s (S.i IntKind.i64 x1)], [Obj.cells 28 [Seg.arr IntKind.i8 81 x2, Seg.arr IntKind.i8 16 x3, Seg.one [S.i IntKind.i8 x4]], Obj.cells 83 [Seg.arr IntKind.i64 9 x5], Obj.cells 109 [Seg.arr IntKind.i64 2 x6]] => ob (board_Checkl17 many x0 x1 x2 x3 x4 x5 x6) fun t0 => sw t0 (fun z => K (Ex.ret) ([V.s (S.ptr 0 0 none 0), V.s (S.i IntKind.i64 (z.1)), V.s (S.ptr 1 0 none 0), V.s (S.ptr 2 0 none 0)]) ([Obj.cells 28 [Seg.arr IntKind.i8 81 (z.2.1), Seg.arr IntKind.i8 16 (z.2.2.1), Seg.one [S.i IntKind.i8 (z.2.2.2.1)]], Obj.cells 83 [Seg.arr IntKind.i64 9 (z.2.2.2.2.1)], Obj.cells 109 [Seg.arr IntKind.i64 2 (z.2.2.2.2.2)]])) (fun z => K (Ex.exit 7) ([V.s (S.ptr 0 0 none 0), V.s S.bad, V.s (S.ptr 1 0 none 0), V.s (S.ptr 2 0 none 0)]) ([Obj.cells 28 [Seg.arr IntKind.i8 81 (z.1), Seg.arr IntKind.i8 16 (z.2.1), Seg.one [S.i IntKind.i8 (z.2.2.1)]], Obj.cells 83 [Seg.arr IntKind.i64 9 (z.2.2.2.1)], Obj.cells 109 [Seg.arr IntKind.i64 2 (z.2.2.2.2)]]))
  | _, _ => none
noncomputable def board_Checkp30 {R : Type} (vs : List V) (objs : List Obj) (K : Ex → List V → List Obj → Option R) : Option R := match vs, objs with
  | [V.s (S.ptr 0 0 none 0), V.s (S.ptr 1 0 none 0), V.s (S.i IntKind.i64 x0)], [Obj.cells 28 [Seg.arr IntKind.i8 81 x1, Seg.arr IntKind.i8 16 x2, Seg.one [S.i IntKind.i8 x3]], Obj.cells 83 [Seg.arr IntKind.i64 9 x4]] => ob (board_Checkl30 many x0 x1 x2 x3 x4) fun t0 => sw t0 (fun z => K (Ex.ret) ([V.s (S.ptr 0 0 none 0), V.s (S.i IntKind.i64 (z.1))]) ([Obj.cells 28 [Seg.arr IntKind.i8 81 (z.2.1), Seg.arr IntKind.i8 16 (z.2.2.1), Seg.one [S.i IntKind.i8 (z.2.2.2)]]])) (fun z => K (Ex.exit 11) ([V.s (S.ptr 0 0 none 0), V.s S.bad]) ([Obj.cells 28 [Seg.arr IntKind.i8 81 (z.1), Seg.arr IntKind.i8 16 (z.2.1), Seg.one [S.i IntKind.i8 (z.2.2)]]]))
  | _, _ => none
noncomputable def board_Checklp : {R : Type} → Nat → List V → List Obj → (Ex → List V → List Obj → Option R) → Option R := fun q vs objs K => bif Nat.beq q 6 then board_Checkp6 vs objs K else bif Nat.beq q 20 then board_Checkp20 vs objs K else bif Nat.beq q 17 then board_Checkp17 vs objs K else bif Nat.beq q 30 then board_Checkp30 vs objs K else none
noncomputable def board_Checkc : Ctx := mkC 98 ((board_fileso (piece_Totalo (piece_Rawo (piece_Sideo (piece_Kindo oNil)))))) [(6, [1, 3, 4, 22, 23], [1, 2, 3, 4]), (17, [1, 3, 4, 51, 52], [1, 2, 3, 4]), (20, [1, 3, 4, 51, 52, 55, 56], [1, 2, 3, 4, 51, 52]), (30, [1, 3, 12], [1, 2])] board_Checklp
theorem board_Checkc_ok : CtxOK Tryd.prog board_Checkc := mkC_ok ((board_fileso_ok _ (piece_Totalo_ok _ (piece_Rawo_ok _ (piece_Sideo_ok _ (piece_Kindo_ok _ oNil_ok))))))
noncomputable def board_Checkl6r (f : Nat) (x0 : List Int) (x1 : Int) (x2 x3 : List Int) (x4 : Int) (x5 x6 : List Int) : Option ((Int × List Int × List Int × Int × List Int × List Int) ⊕ (List Int × List Int × Int × List Int × List Int)) := lrun board_Checkc 0 [1, 3, 4, 22, 23] [1, 2, 3, 4] (loopOf Tryd.f60 6) f ([V.s (S.ptr 0 0 none 0), V.s (S.ptr 1 0 none 0), V.s (S.ptr 2 0 none 0), V.agg [Seg.arr IntKind.i8 81 x0], V.s (S.i IntKind.i64 x1)]) ([Obj.cells 28 [Seg.arr IntKind.i8 81 x2, Seg.arr IntKind.i8 16 x3, Seg.one [S.i IntKind.i8 x4]], Obj.cells 83 [Seg.arr IntKind.i64 9 x5], Obj.cells 109 [Seg.arr IntKind.i64 2 x6]]) board_Checkl6d
theorem board_Checkl6_step (f : Nat) (x0 : List Int) (x1 : Int) (x2 x3 : List Int) (x4 : Int) (x5 x6 : List Int) : board_Checkl6r (f + 1) x0 x1 x2 x3 x4 x5 x6 = board_Checkl6s (board_Checkl6r f) x0 x1 x2 x3 x4 x5 x6 := by kernel_rfl
theorem board_Checkl6_eq : ∀ f, board_Checkl6r f = board_Checkl6 f
  | 0 => rfl
  | f + 1 => by funext x0 x1 x2 x3 x4 x5 x6; rw [board_Checkl6_step, board_Checkl6_eq f]; rfl
noncomputable def board_Checkl20r (f : Nat) (x0 : List Int) (x1 : Int) (x2 : List Int) (x3 : Int) (x4 x5 : List Int) (x6 : Int) (x7 x8 : List Int) : Option ((Int × List Int × Int × List Int × List Int × Int × List Int × List Int) ⊕ (List Int × Int × List Int × List Int × Int × List Int × List Int)) := lrun board_Checkc 0 [1, 3, 4, 51, 52, 55, 56] [1, 2, 3, 4, 51, 52] (loopOf Tryd.f60 20) f ([V.s (S.ptr 0 0 none 0), V.s (S.ptr 1 0 none 0), V.s (S.ptr 2 0 none 0), V.agg [Seg.arr IntKind.i8 16 x0], V.s (S.i IntKind.i64 x1), V.agg [Seg.arr IntKind.i8 8 x2], V.s (S.i IntKind.i64 x3)]) ([Obj.cells 28 [Seg.arr IntKind.i8 81 x4, Seg.arr IntKind.i8 16 x5, Seg.one [S.i IntKind.i8 x6]], Obj.cells 83 [Seg.arr IntKind.i64 9 x7], Obj.cells 109 [Seg.arr IntKind.i64 2 x8]]) board_Checkl20d
theorem board_Checkl20_step (f : Nat) (x0 : List Int) (x1 : Int) (x2 : List Int) (x3 : Int) (x4 x5 : List Int) (x6 : Int) (x7 x8 : List Int) : board_Checkl20r (f + 1) x0 x1 x2 x3 x4 x5 x6 x7 x8 = board_Checkl20s (board_Checkl20r f) x0 x1 x2 x3 x4 x5 x6 x7 x8 := by kernel_rfl
theorem board_Checkl20_eq : ∀ f, board_Checkl20r f = board_Checkl20 f
  | 0 => rfl
  | f + 1 => by funext x0 x1 x2 x3 x4 x5 x6 x7 x8; rw [board_Checkl20_step, board_Checkl20_eq f]; rfl
noncomputable def board_Checkl17r (f : Nat) (x0 : List Int) (x1 : Int) (x2 x3 : List Int) (x4 : Int) (x5 x6 : List Int) : Option ((Int × List Int × List Int × Int × List Int × List Int) ⊕ (List Int × List Int × Int × List Int × List Int)) := lrun board_Checkc 0 [1, 3, 4, 51, 52] [1, 2, 3, 4] (loopOf Tryd.f60 17) f ([V.s (S.ptr 0 0 none 0), V.s (S.ptr 1 0 none 0), V.s (S.ptr 2 0 none 0), V.agg [Seg.arr IntKind.i8 16 x0], V.s (S.i IntKind.i64 x1)]) ([Obj.cells 28 [Seg.arr IntKind.i8 81 x2, Seg.arr IntKind.i8 16 x3, Seg.one [S.i IntKind.i8 x4]], Obj.cells 83 [Seg.arr IntKind.i64 9 x5], Obj.cells 109 [Seg.arr IntKind.i64 2 x6]]) board_Checkl17d
theorem board_Checkl17_step (f : Nat) (x0 : List Int) (x1 : Int) (x2 x3 : List Int) (x4 : Int) (x5 x6 : List Int) : board_Checkl17r (f + 1) x0 x1 x2 x3 x4 x5 x6 = board_Checkl17s (board_Checkl17r f) x0 x1 x2 x3 x4 x5 x6 := by kernel_rfl
theorem board_Checkl17_eq : ∀ f, board_Checkl17r f = board_Checkl17 f
  | 0 => rfl
  | f + 1 => by funext x0 x1 x2 x3 x4 x5 x6; rw [board_Checkl17_step, board_Checkl17_eq f]; rfl
noncomputable def board_Checkl30r (f : Nat) (x0 : Int) (x1 x2 : List Int) (x3 : Int) (x4 : List Int) : Option ((Int × List Int × List Int × Int) ⊕ (List Int × List Int × Int)) := lrun board_Checkc 0 [1, 3, 12] [1, 2] (loopOf Tryd.f60 30) f ([V.s (S.ptr 0 0 none 0), V.s (S.ptr 1 0 none 0), V.s (S.i IntKind.i64 x0)]) ([Obj.cells 28 [Seg.arr IntKind.i8 81 x1, Seg.arr IntKind.i8 16 x2, Seg.one [S.i IntKind.i8 x3]], Obj.cells 83 [Seg.arr IntKind.i64 9 x4]]) board_Checkl30d
theorem board_Checkl30_step (f : Nat) (x0 : Int) (x1 x2 : List Int) (x3 : Int) (x4 : List Int) : board_Checkl30r (f + 1) x0 x1 x2 x3 x4 = board_Checkl30s (board_Checkl30r f) x0 x1 x2 x3 x4 := by kernel_rfl
theorem board_Checkl30_eq : ∀ f, board_Checkl30r f = board_Checkl30 f
  | 0 => rfl
  | f + 1 => by funext x0 x1 x2 x3 x4; rw [board_Checkl30_step, board_Checkl30_eq f]; rfl
theorem board_Checks6 : LoopSound Tryd.prog board_Checkc 0 (loopOf Tryd.f60 6) :=
  loopSound_by mixed board_Checkc_ok (AllP.of (l' := []) (by kernel_rfl) trivial) (q := 6) (kin := [1, 3, 4, 22, 23]) (kout := [1, 2, 3, 4]) (by kernel_rfl) (by kernel_rfl) fun vs objs K r h => by
    replace h : board_Checkp6 vs objs K = some r := h
    unfold board_Checkp6 at h
    split at h
    · skip
      obtain ⟨t, h1, h2⟩ := ob_ok h
      rw [← board_Checkl6_eq] at h1
      refine ⟨_, board_Checkl6d, t, many, h1, fun e vs' objs' hd => ?_⟩
      unfold board_Checkl6d at hd
      split at hd
      · skip
        cases hd
        exact h2
      · skip
        cases hd
        exact h2
      · cases hd
    · cases h
theorem board_Checks20 : LoopSound Tryd.prog board_Checkc 0 (loopOf Tryd.f60 20) :=
  loopSound_by mixed board_Checkc_ok (AllP.of (l' := []) (by kernel_rfl) trivial) (q := 20) (kin := [1, 3, 4, 51, 52, 55, 56]) (kout := [1, 2, 3, 4, 51, 52]) (by kernel_rfl) (by kernel_rfl) fun vs objs K r h => by
    replace h : board_Checkp20 vs objs K = some r := h
    unfold board_Checkp20 at h
    split at h
    · skip
      obtain ⟨t, h1, h2⟩ := ob_ok h
      rw [← board_Checkl20_eq] at h1
      refine ⟨_, board_Checkl20d, t, many, h1, fun e vs' objs' hd => ?_⟩
      unfold board_Checkl20d at hd
      split at hd
      · skip
        cases hd
        exact h2
      · skip
        cases hd
        exact h2
      · cases hd
    · cases h
theorem board_Checks30 : LoopSound Tryd.prog board_Checkc 0 (loopOf Tryd.f60 30) :=
  loopSound_by mixed board_Checkc_ok (AllP.of (l' := []) (by kernel_rfl) trivial) (q := 30) (kin := [1, 3, 12]) (kout := [1, 2]) (by kernel_rfl) (by kernel_rfl) fun vs objs K r h => by
    replace h : board_Checkp30 vs objs K = some r := h
    unfold board_Checkp30 at h
    split at h
    · skip
      obtain ⟨t, h1, h2⟩ := ob_ok h
      rw [← board_Checkl30_eq] at h1
      refine ⟨_, board_Checkl30d, t, many, h1, fun e vs' objs' hd => ?_⟩
      unfold board_Checkl30d at hd
      split at hd
      · skip
        cases hd
        exact h2
      · skip
        cases hd
        exact h2
      · cases hd
    · cases h
theorem board_Checks17 : LoopSound Tryd.prog board_Checkc 0 (loopOf Tryd.f60 17) :=
  loopSound_by mixed board_Checkc_ok (AllP.of (l' := [loopOf Tryd.f60 20]) (by kernel_rfl) ⟨board_Checks20, trivial⟩) (q := 17) (kin := [1, 3, 4, 51, 52]) (kout := [1, 2, 3, 4]) (by kernel_rfl) (by kernel_rfl) fun vs objs K r h => by
    replace h : board_Checkp17 vs objs K = some r := h
    unfold board_Checkp17 at h
    split at h
    · skip
      obtain ⟨t, h1, h2⟩ := ob_ok h
      rw [← board_Checkl17_eq] at h1
      refine ⟨_, board_Checkl17d, t, many, h1, fun e vs' objs' hd => ?_⟩
      unfold board_Checkl17d at hd
      split at hd
      · skip
        cases hd
        exact h2
      · skip
        cases hd
        exact h2
      · cases hd
    · cases h
noncomputable def board_Checkd : V → List Obj → Option (Int) := fun v objs => match v, objs with
  | V.s (S.i IntKind.i64 y0), [] => some (y0)
  | _, _ => none
theorem board_Check_eq (x0 x1 : List Int) (x2 : Int) : fnE board_Checkc Tryd.f60 ([V.agg [Seg.arr IntKind.i8 81 x0, Seg.arr IntKind.i8 16 x1, Seg.one [S.i IntKind.i8 x2]]]) ([]) board_Checkd = board_Check x0 x1 x2 := by kernel_rfl
noncomputable def board_Checka {R : Type} (o : Orc) (vs : List V) (objs : List Obj) (K : Bool → V → List Obj → Option R) : Option R := match vs, objs with
  | [V.agg [Seg.arr IntKind.i8 81 x0, Seg.arr IntKind.i8 16 x1, Seg.one [S.i IntKind.i8 x2]]], [] => ob (board_Check x0 x1 x2) fun y0 => K false (V.s (S.i IntKind.i64 y0)) ([])
  | _, _ => o 60 vs objs K
noncomputable def board_Checko (o : Orc) : Orc := hook 60 (board_Checka o) o
theorem board_Checko_ok (o : Orc) (ho : OSound Tryd.prog o) : OSound Tryd.prog (board_Checko o) := hook_ok ho fun vs objs K r h => by
  unfold board_Checka at h
  split at h
  · skip
    obtain ⟨t, h1, h2⟩ := ob_ok h
    refine anyOK_of mixed board_Checkc_ok (fn := Tryd.f60) (b := (Tryd.f60).body.getD .skip) (by kernel_rfl) (by kernel_rfl) (by kernel_rfl) ((board_Check_eq _ _ _).trans h1) (m := 0) rfl (AllP.of (l' := [loopOf Tryd.f60 6, loopOf Tryd.f60 17, loopOf Tryd.f60 30]) (by kernel_rfl) ⟨board_Checks6, board_Checks17, board_Checks30, trivial⟩) fun v objs' hd => ?_
    unfold board_Checkd at hd
    split at hd
    · skip
      cases hd
      exact h2
    · cases hd
  · exact ho _ _ _ _ _ h
noncomputable def attack_Checkc : Ctx := mkC 16 ((attack_InChecko (board_Newo (board_Checko oNil)))) [] lpNil
theorem attack_Checkc_ok : CtxOK Tryd.prog attack_Checkc := mkC_ok ((attack_InChecko_ok _ (board_Newo_ok _ (board_Checko_ok _ oNil_ok))))
noncomputable def attack_Checkd : V → List Obj → Option (Int) := fun v objs => match v, objs with
  | V.s (S.i IntKind.i64 y0), [] => some (y0)
  | _, _ => none
theorem attack_Check_eq (x0 x1 : List Int) (x2 : Int) : fnE attack_Checkc Tryd.f16 ([V.agg [Seg.arr IntKind.i8 81 x0, Seg.arr IntKind.i8 16 x1, Seg.one [S.i IntKind.i8 x2]]]) ([]) attack_Checkd = attack_Check x0 x1 x2 := by kernel_rfl
noncomputable def attack_Checka {R : Type} (o : Orc) (vs : List V) (objs : List Obj) (K : Bool → V → List Obj → Option R) : Option R := match vs, objs with
  | [V.agg [Seg.arr IntKind.i8 81 x0, Seg.arr IntKind.i8 16 x1, Seg.one [S.i IntKind.i8 x2]]], [] => ob (attack_Check x0 x1 x2) fun y0 => K false (V.s (S.i IntKind.i64 y0)) ([])
  | _, _ => o 16 vs objs K
noncomputable def attack_Checko (o : Orc) : Orc := hook 16 (attack_Checka o) o
theorem attack_Checko_ok (o : Orc) (ho : OSound Tryd.prog o) : OSound Tryd.prog (attack_Checko o) := hook_ok ho fun vs objs K r h => by
  unfold attack_Checka at h
  split at h
  · skip
    obtain ⟨t, h1, h2⟩ := ob_ok h
    refine anyOK_of mixed attack_Checkc_ok (fn := Tryd.f16) (b := (Tryd.f16).body.getD .skip) (by kernel_rfl) (by kernel_rfl) (by kernel_rfl) ((attack_Check_eq _ _ _).trans h1) (m := 0) rfl (AllP.of (l' := []) (by kernel_rfl) trivial) fun v objs' hd => ?_
    unfold attack_Checkd at hd
    split at hd
    · skip
      cases hd
      exact h2
    · cases hd
  · exact ho _ _ _ _ _ h
noncomputable def key_mixc : Ctx := mkC 19 (oNil) [] lpNil
theorem key_mixc_ok : CtxOK Tryd.prog key_mixc := mkC_ok (oNil_ok)
noncomputable def key_mixd : V → List Obj → Option (Int) := fun v objs => match v, objs with
  | V.s (S.i IntKind.u64 y0), [] => some (y0)
  | _, _ => none
theorem key_mix_eq (x0 : Int) : fnE key_mixc Tryd.f125 ([V.s (S.i IntKind.u64 x0)]) ([]) key_mixd = key_mix x0 := by kernel_rfl
noncomputable def key_mixa {R : Type} (o : Orc) (vs : List V) (objs : List Obj) (K : Bool → V → List Obj → Option R) : Option R := match vs, objs with
  | [V.s (S.i IntKind.u64 x0)], [] => ob (key_mix x0) fun y0 => K false (V.s (S.i IntKind.u64 y0)) ([])
  | _, _ => o 125 vs objs K
noncomputable def key_mixo (o : Orc) : Orc := hook 125 (key_mixa o) o
theorem key_mixo_ok (o : Orc) (ho : OSound Tryd.prog o) : OSound Tryd.prog (key_mixo o) := hook_ok ho fun vs objs K r h => by
  unfold key_mixa at h
  split at h
  · skip
    obtain ⟨t, h1, h2⟩ := ob_ok h
    refine anyOK_of mixed key_mixc_ok (fn := Tryd.f125) (b := (Tryd.f125).body.getD .skip) (by kernel_rfl) (by kernel_rfl) (by kernel_rfl) ((key_mix_eq _).trans h1) (m := 0) rfl (AllP.of (l' := []) (by kernel_rfl) trivial) fun v objs' hd => ?_
    unfold key_mixd at hd
    split at hd
    · skip
      cases hd
      exact h2
    · cases hd
  · exact ho _ _ _ _ _ h
noncomputable def key_Piecec : Ctx := mkC 23 ((key_mixo (piece_Kindo oNil))) [] lpNil
theorem key_Piecec_ok : CtxOK Tryd.prog key_Piecec := mkC_ok ((key_mixo_ok _ (piece_Kindo_ok _ oNil_ok)))
noncomputable def key_Pieced : V → List Obj → Option (Int) := fun v objs => match v, objs with
  | V.s (S.i IntKind.u64 y0), [] => some (y0)
  | _, _ => none
theorem key_Piece_eq (x0 x1 : Int) : fnE key_Piecec Tryd.f116 ([V.s (S.i IntKind.i64 x0), V.s (S.i IntKind.i8 x1)]) ([]) key_Pieced = key_Piece x0 x1 := by kernel_rfl
noncomputable def key_Piecea {R : Type} (o : Orc) (vs : List V) (objs : List Obj) (K : Bool → V → List Obj → Option R) : Option R := match vs, objs with
  | [V.s (S.i IntKind.i64 x0), V.s (S.i IntKind.i8 x1)], [] => ob (key_Piece x0 x1) fun y0 => K false (V.s (S.i IntKind.u64 y0)) ([])
  | _, _ => o 116 vs objs K
noncomputable def key_Pieceo (o : Orc) : Orc := hook 116 (key_Piecea o) o
theorem key_Pieceo_ok (o : Orc) (ho : OSound Tryd.prog o) : OSound Tryd.prog (key_Pieceo o) := hook_ok ho fun vs objs K r h => by
  unfold key_Piecea at h
  split at h
  · skip
    obtain ⟨t, h1, h2⟩ := ob_ok h
    refine anyOK_of mixed key_Piecec_ok (fn := Tryd.f116) (b := (Tryd.f116).body.getD .skip) (by kernel_rfl) (by kernel_rfl) (by kernel_rfl) ((key_Piece_eq _ _).trans h1) (m := 0) rfl (AllP.of (l' := []) (by kernel_rfl) trivial) fun v objs' hd => ?_
    unfold key_Pieced at hd
    split at hd
    · skip
      cases hd
      exact h2
    · cases hd
  · exact ho _ _ _ _ _ h
noncomputable def key_Handc : Ctx := mkC 41 ((key_mixo oNil)) [] lpNil
theorem key_Handc_ok : CtxOK Tryd.prog key_Handc := mkC_ok ((key_mixo_ok _ oNil_ok))
noncomputable def key_Handd : V → List Obj → Option (Int) := fun v objs => match v, objs with
  | V.s (S.i IntKind.u64 y0), [] => some (y0)
  | _, _ => none
theorem key_Hand_eq (x0 x1 x2 : Int) : fnE key_Handc Tryd.f117 ([V.s (S.i IntKind.i64 x0), V.s (S.i IntKind.i64 x1), V.s (S.i IntKind.i64 x2)]) ([]) key_Handd = key_Hand x0 x1 x2 := by kernel_rfl
noncomputable def key_Handa {R : Type} (o : Orc) (vs : List V) (objs : List Obj) (K : Bool → V → List Obj → Option R) : Option R := match vs, objs with
  | [V.s (S.i IntKind.i64 x0), V.s (S.i IntKind.i64 x1), V.s (S.i IntKind.i64 x2)], [] => ob (key_Hand x0 x1 x2) fun y0 => K false (V.s (S.i IntKind.u64 y0)) ([])
  | _, _ => o 117 vs objs K
noncomputable def key_Hando (o : Orc) : Orc := hook 117 (key_Handa o) o
theorem key_Hando_ok (o : Orc) (ho : OSound Tryd.prog o) : OSound Tryd.prog (key_Hando o) := hook_ok ho fun vs objs K r h => by
  unfold key_Handa at h
  split at h
  · skip
    obtain ⟨t, h1, h2⟩ := ob_ok h
    refine anyOK_of mixed key_Handc_ok (fn := Tryd.f117) (b := (Tryd.f117).body.getD .skip) (by kernel_rfl) (by kernel_rfl) (by kernel_rfl) ((key_Hand_eq _ _ _).trans h1) (m := 0) rfl (AllP.of (l' := []) (by kernel_rfl) trivial) fun v objs' hd => ?_
    unfold key_Handd at hd
    split at hd
    · skip
      cases hd
      exact h2
    · cases hd
  · exact ho _ _ _ _ _ h
noncomputable def key_Sidec : Ctx := mkC 2 ((key_mixo oNil)) [] lpNil
theorem key_Sidec_ok : CtxOK Tryd.prog key_Sidec := mkC_ok ((key_mixo_ok _ oNil_ok))
noncomputable def key_Sided : V → List Obj → Option (Int) := fun v objs => match v, objs with
  | V.s (S.i IntKind.u64 y0), [] => some (y0)
  | _, _ => none
theorem key_Side_eq : fnE key_Sidec Tryd.f118 ([]) ([]) key_Sided = key_Side  := by kernel_rfl
noncomputable def key_Sidea {R : Type} (o : Orc) (vs : List V) (objs : List Obj) (K : Bool → V → List Obj → Option R) : Option R := match vs, objs with
  | [], [] => ob (key_Side ) fun y0 => K false (V.s (S.i IntKind.u64 y0)) ([])
  | _, _ => o 118 vs objs K
noncomputable def key_Sideo (o : Orc) : Orc := hook 118 (key_Sidea o) o
theorem key_Sideo_ok (o : Orc) (ho : OSound Tryd.prog o) : OSound Tryd.prog (key_Sideo o) := hook_ok ho fun vs objs K r h => by
  unfold key_Sidea at h
  split at h
  · skip
    obtain ⟨t, h1, h2⟩ := ob_ok h
    refine anyOK_of mixed key_Sidec_ok (fn := Tryd.f118) (b := (Tryd.f118).body.getD .skip) (by kernel_rfl) (by kernel_rfl) (by kernel_rfl) ((key_Side_eq).trans h1) (m := 0) rfl (AllP.of (l' := []) (by kernel_rfl) trivial) fun v objs' hd => ?_
    unfold key_Sided at hd
    split at hd
    · skip
      cases hd
      exact h2
    · cases hd
  · exact ho _ _ _ _ _ h
noncomputable def key_Ofl3d : Ex → List V → List Obj → Option (Int × List Int × List Int × Int) := fun e vs objs => match e, vs, objs with
  | Ex.exit 0, [V.s (S.ptr 0 0 none 0), V.s (S.i IntKind.u64 y0)], [Obj.cells 28 [Seg.arr IntKind.i8 81 y1, Seg.arr IntKind.i8 16 y2, Seg.one [S.i IntKind.i8 y3]]] => some (y0, y1, y2, y3)
  | _, _, _ => none
noncomputable def key_Ofl11d : Ex → List V → List Obj → Option (Int × List Int × Int × List Int × List Int × Int) := fun e vs objs => match e, vs, objs with
  | Ex.exit 4, [V.s (S.ptr 0 0 none 0), V.s (S.i IntKind.u64 y0), V.agg [Seg.arr IntKind.i8 16 y1], V.s (S.i IntKind.i64 y2)], [Obj.cells 28 [Seg.arr IntKind.i8 81 y3, Seg.arr IntKind.i8 16 y4, Seg.one [S.i IntKind.i8 y5]]] => some (y0, y1, y2, y3, y4, y5)
  | _, _, _ => none
noncomputable def key_Ofl8d : Ex → List V → List Obj → Option (Int × List Int × List Int × Int) := fun e vs objs => match e, vs, objs with
  | Ex.exit 2, [V.s (S.ptr 0 0 none 0), V.s (S.i IntKind.u64 y0)], [Obj.cells 28 [Seg.arr IntKind.i8 81 y1, Seg.arr IntKind.i8 16 y2, Seg.one [S.i IntKind.i8 y3]]] => some (y0, y1, y2, y3)
  | _, _, _ => none
noncomputable def key_Ofp3 {R : Type} (vs : List V) (objs : List Obj) (K : Ex → List V → List Obj → Option R) : Option R := match vs, objs with
  | [V.s (S.ptr 0 0 none 0), V.s (S.i IntKind.u64 x0), V.agg [Seg.arr IntKind.i8 81 x1], V.s (S.i IntKind.i64 x2)], [Obj.cells 28 [Seg.arr IntKind.i8 81 x3, Seg.arr IntKind.i8 16 x4, Seg.one [S.i IntKind.i8 x5]]] => ob (key_Ofl3 many x0 x1 x2 x3 x4 x5) fun z => K (Ex.exit 0) ([V.s (S.ptr 0 0 none 0), V.s (S.i IntKind.u64 (z.1))]) ([Obj.cells 28 [Seg.arr IntKind.i8 81 (z.2.1), Seg.arr IntKind.i8 16 (z.2.2.1), Seg.one [S.i IntKind.i8 (z.2.2.2)]]])
  | _, _ => none
noncomputable def key_Ofp11 {R : Type} (vs : List V) (objs : List Obj) (K : Ex → List V → List Obj → Option R) : Option R := match vs, objs with
  | [V.s (S.ptr 0 0 none 0), V.s (S.i IntKind.u64 x0), V.s (S.i IntKind.i64 x1), V.agg [Seg.arr IntKind.i8 16 x2], V.s (S.i IntKind.i64 x3), V.agg [Seg.arr IntKind.i8 8 x4], V.s (S.i IntKind.i64 x5)], [Obj.cells 28 [Seg.arr IntKind.i8 81 x6, Seg.arr IntKind.i8 16 x7, Seg.one [S.i IntKind.i8 x8]]] => ob (key_Ofl11 many x0 x1 x2 x3 x4 x5 x6 x7 x8) fun z => K (Ex.exit 4) ([V.s (S.ptr 0 0 none 0), V.s (S.i IntKind.u64 (z.1)), V.agg [Seg.arr IntKind.i8 16 (z.2.1)], V.s (S.i IntKind.i64 (z.2.2.1))]) ([Obj.cells 28 [Seg.arr IntKind.i8 81 (z.2.2.2.1), Seg.arr IntKind.i8 16 (z.2.2.2.2.1), Seg.one [S.i IntKind.i8 (z.2.2.2.2.2)]]])
  | _, _ => none
noncomputable def key_Ofp8 {R : Type} (vs : List V) (objs : List Obj) (K : Ex → List V → List Obj → Option R) : Option R := match vs, objs with
  | [V.s (S.ptr 0 0 none 0), V.s (S.i IntKind.u64 x0), V.agg [Seg.arr IntKind.i8 16 x1], V.s (S.i IntKind.i64 x2)], [Obj.cells 28 [Seg.arr IntKind.i8 81 x3, Seg.arr IntKind.i8 16 x4, Seg.one [S.i IntKind.i8 x5]]] => ob (key_Ofl8 many x0 x1 x2 x3 x4 x5) fun z => K (Ex.exit 2) ([V.s (S.ptr 0 0 none 0), V.s (S.i IntKind.u64 (z.1))]) ([Obj.cells 28 [Seg.arr IntKind.i8 81 (z.2.1), Seg.arr IntKind.i8 16 (z.2.2.1), Seg.one [S.i IntKind.i8 (z.2.2.2)]]])
  | _, _ => none
noncomputable def key_Oflp : {R : Type} → Nat → List V → List Obj → (Ex → List V → List Obj → Option R) → Option R := fun q vs objs K => bif Nat.beq q 3 then key_Ofp3 vs objs K else bif Nat.beq q 11 then key_Ofp11 vs objs K else bif Nat.beq q 8 then key_Ofp8 vs objs K else none
noncomputable def key_Ofc : Ctx := mkC 49 ((key_Sideo (key_Hando (key_Pieceo oNil)))) [(3, [1, 3, 11, 12], [1, 3]), (8, [1, 3, 23, 24], [1, 3]), (11, [1, 3, 6, 23, 24, 28, 29], [1, 3, 23, 24])] key_Oflp
theorem key_Ofc_ok : CtxOK Tryd.prog key_Ofc := mkC_ok ((key_Sideo_ok _ (key_Hando_ok _ (key_Pieceo_ok _ oNil_ok))))
noncomputable def key_Ofl3r (f : Nat) (x0 : Int) (x1 : List Int) (x2 : Int) (x3 x4 : List Int) (x5 : Int) : Option (Int × List Int × List Int × Int) := lrun key_Ofc 0 [1, 3, 11, 12] [1, 3] (loopOf Tryd.f101 3) f ([V.s (S.ptr 0 0 none 0), V.s (S.i IntKind.u64 x0), V.agg [Seg.arr IntKind.i8 81 x1], V.s (S.i IntKind.i64 x2)]) ([Obj.cells 28 [Seg.arr IntKind.i8 81 x3, Seg.arr IntKind.i8 16 x4, Seg.one [S.i IntKind.i8 x5]]]) key_Ofl3d
theorem key_Ofl3_step (f : Nat) (x0 : Int) (x1 : List Int) (x2 : Int) (x3 x4 : List Int) (x5 : Int) : key_Ofl3r (f + 1) x0 x1 x2 x3 x4 x5 = key_Ofl3s (key_Ofl3r f) x0 x1 x2 x3 x4 x5 := by kernel_rfl
theorem key_Ofl3_eq : ∀ f, key_Ofl3r f = key_Ofl3 f
  | 0 => rfl
  | f + 1 => by funext x0 x1 x2 x3 x4 x5; rw [key_Ofl3_step, key_Ofl3_eq f]; rfl
noncomputable def key_Ofl11r (f : Nat) (x0 x1 : Int) (x2 : List Int) (x3 : Int) (x4 : List Int) (x5 : Int) (x6 x7 : List Int) (x8 : Int) : Option (Int × List Int × Int × List Int × List Int × Int) := lrun key_Ofc 0 [1, 3, 6, 23, 24, 28, 29] [1, 3, 23, 24] (loopOf Tryd.f101 11) f ([V.s (S.ptr 0 0 none 0), V.s (S.i IntKind.u64 x0), V.s (S.i IntKind.i64 x1), V.agg [Seg.arr IntKind.i8 16 x2], V.s (S.i IntKind.i64 x3), V.agg [Seg.arr IntKind.i8 8 x4], V.s (S.i IntKind.i64 x5)]) ([Obj.cells 28 [Seg.arr IntKind.i8 81 x6, Seg.arr IntKind.i8 16 x7, Seg.one [S.i IntKind.i8 x8]]]) key_Ofl11d
theorem key_Ofl11_step (f : Nat) (x0 x1 : Int) (x2 : List Int) (x3 : Int) (x4 : List Int) (x5 : Int) (x6 x7 : List Int) (x8 : Int) : key_Ofl11r (f + 1) x0 x1 x2 x3 x4 x5 x6 x7 x8 = key_Ofl11s (key_Ofl11r f) x0 x1 x2 x3 x4 x5 x6 x7 x8 := by kernel_rfl
theorem key_Ofl11_eq : ∀ f, key_Ofl11r f = key_Ofl11 f
  | 0 => rfl
  | f + 1 => by funext x0 x1 x2 x3 x4 x5 x6 x7 x8; rw [key_Ofl11_step, key_Ofl11_eq f]; rfl
noncomputable def key_Ofl8r (f : Nat) (x0 : Int) (x1 : List Int) (x2 : Int) (x3 x4 : List Int) (x5 : Int) : Option (Int × List Int × List Int × Int) := lrun key_Ofc 0 [1, 3, 23, 24] [1, 3] (loopOf Tryd.f101 8) f ([V.s (S.ptr 0 0 none 0), V.s (S.i IntKind.u64 x0), V.agg [Seg.arr IntKind.i8 16 x1], V.s (S.i IntKind.i64 x2)]) ([Obj.cells 28 [Seg.arr IntKind.i8 81 x3, Seg.arr IntKind.i8 16 x4, Seg.one [S.i IntKind.i8 x5]]]) key_Ofl8d
theorem key_Ofl8_step (f : Nat) (x0 : Int) (x1 : List Int) (x2 : Int) (x3 x4 : List Int) (x5 : Int) : key_Ofl8r (f + 1) x0 x1 x2 x3 x4 x5 = key_Ofl8s (key_Ofl8r f) x0 x1 x2 x3 x4 x5 := by kernel_rfl
theorem key_Ofl8_eq : ∀ f, key_Ofl8r f = key_Ofl8 f
  | 0 => rfl
  | f + 1 => by funext x0 x1 x2 x3 x4 x5; rw [key_Ofl8_step, key_Ofl8_eq f]; rfl
theorem key_Ofs3 : LoopSound Tryd.prog key_Ofc 0 (loopOf Tryd.f101 3) :=
  loopSound_by mixed key_Ofc_ok (AllP.of (l' := []) (by kernel_rfl) trivial) (q := 3) (kin := [1, 3, 11, 12]) (kout := [1, 3]) (by kernel_rfl) (by kernel_rfl) fun vs objs K r h => by
    replace h : key_Ofp3 vs objs K = some r := h
    unfold key_Ofp3 at h
    split at h
    · skip
      obtain ⟨t, h1, h2⟩ := ob_ok h
      rw [← key_Ofl3_eq] at h1
      refine ⟨_, key_Ofl3d, t, many, h1, fun e vs' objs' hd => ?_⟩
      unfold key_Ofl3d at hd
      split at hd
      · skip
        cases hd
        exact h2
      · cases hd
    · cases h
theorem key_Ofs11 : LoopSound Tryd.prog key_Ofc 0 (loopOf Tryd.f101 11) :=
  loopSound_by mixed key_Ofc_ok (AllP.of (l' := []) (by kernel_rfl) trivial) (q := 11) (kin := [1, 3, 6, 23, 24, 28, 29]) (kout := [1, 3, 23, 24]) (by kernel_rfl) (by kernel_rfl) fun vs objs K r h => by
    replace h : key_Ofp11 vs objs K = some r := h
    unfold key_Ofp11 at h
    split at h
    · skip
      obtain ⟨t, h1, h2⟩ := ob_ok h
      rw [← key_Ofl11_eq] at h1
      refine ⟨_, key_Ofl11d, t, many, h1, fun e vs' objs' hd => ?_⟩
      unfold key_Ofl11d at hd
      split at hd
      · skip
        cases hd
        exact h2
      · cases hd
    · cases h
theorem key_Ofs8 : LoopSound Tryd.prog key_Ofc 0 (loopOf Tryd.f101 8) :=
  loopSound_by mixed key_Ofc_ok (AllP.of (l' := [loopOf Tryd.f101 11]) (by kernel_rfl) ⟨key_Ofs11, trivial⟩) (q := 8) (kin := [1, 3, 23, 24]) (kout := [1, 3]) (by kernel_rfl) (by kernel_rfl) fun vs objs K r h => by
    replace h : key_Ofp8 vs objs K = some r := h
    unfold key_Ofp8 at h
    split at h
    · skip
      obtain ⟨t, h1, h2⟩ := ob_ok h
      rw [← key_Ofl8_eq] at h1
      refine ⟨_, key_Ofl8d, t, many, h1, fun e vs' objs' hd => ?_⟩
      unfold key_Ofl8d at hd
      split at hd
      · skip
        cases hd
        exact h2
      · cases hd
    · cases h
noncomputable def key_Ofd : V → List Obj → Option (Int) := fun v objs => match v, objs with
  | V.s (S.i IntKind.u64 y0), [] => some (y0)
  | _, _ => none
theorem key_Of_eq (x0 x1 : List Int) (x2 : Int) : fnE key_Ofc Tryd.f101 ([V.agg [Seg.arr IntKind.i8 81 x0, Seg.arr IntKind.i8 16 x1, Seg.one [S.i IntKind.i8 x2]]]) ([]) key_Ofd = key_Of x0 x1 x2 := by kernel_rfl
noncomputable def key_Ofa {R : Type} (o : Orc) (vs : List V) (objs : List Obj) (K : Bool → V → List Obj → Option R) : Option R := match vs, objs with
  | [V.agg [Seg.arr IntKind.i8 81 x0, Seg.arr IntKind.i8 16 x1, Seg.one [S.i IntKind.i8 x2]]], [] => ob (key_Of x0 x1 x2) fun y0 => K false (V.s (S.i IntKind.u64 y0)) ([])
  | _, _ => o 101 vs objs K
noncomputable def key_Ofo (o : Orc) : Orc := hook 101 (key_Ofa o) o
theorem key_Ofo_ok (o : Orc) (ho : OSound Tryd.prog o) : OSound Tryd.prog (key_Ofo o) := hook_ok ho fun vs objs K r h => by
  unfold key_Ofa at h
  split at h
  · skip
    obtain ⟨t, h1, h2⟩ := ob_ok h
    refine anyOK_of mixed key_Ofc_ok (fn := Tryd.f101) (b := (Tryd.f101).body.getD .skip) (by kernel_rfl) (by kernel_rfl) (by kernel_rfl) ((key_Of_eq _ _ _).trans h1) (m := 0) rfl (AllP.of (l' := [loopOf Tryd.f101 3, loopOf Tryd.f101 8]) (by kernel_rfl) ⟨key_Ofs3, key_Ofs8, trivial⟩) fun v objs' hd => ?_
    unfold key_Ofd at hd
    split at hd
    · skip
      cases hd
      exact h2
    · cases hd
  · exact ho _ _ _ _ _ h
noncomputable def deed_Newc : Ctx := mkC 14 ((key_Ofo (board_Newo oNil))) [] lpNil
theorem deed_Newc_ok : CtxOK Tryd.prog deed_Newc := mkC_ok ((key_Ofo_ok _ (board_Newo_ok _ oNil_ok)))
noncomputable def deed_Newd : V → List Obj → Option (Int × Nat × List Int × List Int × Int × List (List Int) × List (List Int) × Nat × List (List Int)) := fun v objs => match v, objs with
  | V.s (S.ptr 0 0 none 0), [Obj.cells 95 [Seg.one [S.ptr 1 0 none 0, S.i IntKind.u64 y0, S.sl 2 0 y1 true]], Obj.cells 81 [Seg.arr IntKind.i8 81 y2, Seg.arr IntKind.i8 16 y3, Seg.one [S.i IntKind.i8 y4], Seg.rows [.i .u64, .i .u64] 32 y5, Seg.rows [.i .u64, .i .u64] 2 y6], Obj.sli 112 false (Seg.rows [.i .i64, .i .i64, .i .i64, .b, .i .i8, .i .i8] y7 y8)] => some (y0, y1, y2, y3, y4, y5, y6, y7, y8)
  | _, _ => none
theorem deed_New_eq (x0 x1 : List Int) (x2 : Int) : fnE deed_Newc Tryd.f63 ([V.agg [Seg.arr IntKind.i8 81 x0, Seg.arr IntKind.i8 16 x1, Seg.one [S.i IntKind.i8 x2]]]) ([]) deed_Newd = deed_New x0 x1 x2 := by kernel_rfl
noncomputable def deed_Newa {R : Type} (o : Orc) (vs : List V) (objs : List Obj) (K : Bool → V → List Obj → Option R) : Option R := match vs, objs with
  | [V.agg [Seg.arr IntKind.i8 81 x0, Seg.arr IntKind.i8 16 x1, Seg.one [S.i IntKind.i8 x2]]], [] => ob (deed_New x0 x1 x2) fun z => K false (V.s (S.ptr 0 0 none 0)) ([Obj.cells 95 [Seg.one [S.ptr 1 0 none 0, S.i IntKind.u64 (z.1), S.sl 2 0 (z.2.1) true]], Obj.cells 81 [Seg.arr IntKind.i8 81 (z.2.2.1), Seg.arr IntKind.i8 16 (z.2.2.2.1), Seg.one [S.i IntKind.i8 (z.2.2.2.2.1)], Seg.rows [.i .u64, .i .u64] 32 (z.2.2.2.2.2.1), Seg.rows [.i .u64, .i .u64] 2 (z.2.2.2.2.2.2.1)], Obj.sli 112 false (Seg.rows [.i .i64, .i .i64, .i .i64, .b, .i .i8, .i .i8] (z.2.2.2.2.2.2.2.1) (z.2.2.2.2.2.2.2.2))])
  | _, _ => o 63 vs objs K
noncomputable def deed_Newo (o : Orc) : Orc := hook 63 (deed_Newa o) o
theorem deed_Newo_ok (o : Orc) (ho : OSound Tryd.prog o) : OSound Tryd.prog (deed_Newo o) := hook_ok ho fun vs objs K r h => by
  unfold deed_Newa at h
  split at h
  · skip
    obtain ⟨t, h1, h2⟩ := ob_ok h
    refine anyOK_of mixed deed_Newc_ok (fn := Tryd.f63) (b := (Tryd.f63).body.getD .skip) (by kernel_rfl) (by kernel_rfl) (by kernel_rfl) ((deed_New_eq _ _ _).trans h1) (m := 0) rfl (AllP.of (l' := []) (by kernel_rfl) trivial) fun v objs' hd => ?_
    unfold deed_Newd at hd
    split at hd
    · skip
      cases hd
      exact h2
    · cases hd
  · exact ho _ _ _ _ _ h
noncomputable def move_Checkc : Ctx := mkC 48 (oNil) [] lpNil
theorem move_Checkc_ok : CtxOK Tryd.prog move_Checkc := mkC_ok (oNil_ok)
noncomputable def move_Checkd : V → List Obj → Option (Int) := fun v objs => match v, objs with
  | V.s (S.i IntKind.i64 y0), [] => some (y0)
  | _, _ => none
theorem move_Check_eq (x0 x1 x2 : Int) (x3 : Bool) : fnE move_Checkc Tryd.f119 ([V.agg [Seg.one [S.i IntKind.i64 x0, S.i IntKind.i64 x1, S.i IntKind.i64 x2, S.b x3]]]) ([]) move_Checkd = move_Check x0 x1 x2 x3 := by kernel_rfl
noncomputable def move_Checka {R : Type} (o : Orc) (vs : List V) (objs : List Obj) (K : Bool → V → List Obj → Option R) : Option R := match vs, objs with
  | [V.agg [Seg.one [S.i IntKind.i64 x0, S.i IntKind.i64 x1, S.i IntKind.i64 x2, S.b x3]]], [] => ob (move_Check x0 x1 x2 x3) fun y0 => K false (V.s (S.i IntKind.i64 y0)) ([])
  | _, _ => o 119 vs objs K
noncomputable def move_Checko (o : Orc) : Orc := hook 119 (move_Checka o) o
theorem move_Checko_ok (o : Orc) (ho : OSound Tryd.prog o) : OSound Tryd.prog (move_Checko o) := hook_ok ho fun vs objs K r h => by
  unfold move_Checka at h
  split at h
  · skip
    obtain ⟨t, h1, h2⟩ := ob_ok h
    refine anyOK_of mixed move_Checkc_ok (fn := Tryd.f119) (b := (Tryd.f119).body.getD .skip) (by kernel_rfl) (by kernel_rfl) (by kernel_rfl) ((move_Check_eq _ _ _ _).trans h1) (m := 0) rfl (AllP.of (l' := []) (by kernel_rfl) trivial) fun v objs' hd => ?_
    unfold move_Checkd at hd
    split at hd
    · skip
      cases hd
      exact h2
    · cases hd
  · exact ho _ _ _ _ _ h
noncomputable def deed_Game_Canc : Ctx := mkC 104 ((piece_Upo (piece_Kindo (piece_Sideo (board_Ato (board_Hando (move_Checko oNil))))))) [] lpNil
theorem deed_Game_Canc_ok : CtxOK Tryd.prog deed_Game_Canc := mkC_ok ((piece_Upo_ok _ (piece_Kindo_ok _ (piece_Sideo_ok _ (board_Ato_ok _ (board_Hando_ok _ (move_Checko_ok _ oNil_ok)))))))
noncomputable def deed_Game_Cand : V → List Obj → Option (Bool) := fun v objs => match v, objs with
  | V.s (S.b y0), [] => some (y0)
  | _, _ => none
theorem deed_Game_Can_eq (x0 x1 x2 : Int) (x3 : Bool) (x4 : Int) (x5 : Nat) (x6 x7 : List Int) (x8 : Int) (x9 x10 : List (List Int)) (x11 : Nat) (x12 : List (List Int)) : fnE deed_Game_Canc Tryd.f102 ([V.s (S.ptr 0 0 none 0), V.agg [Seg.one [S.i IntKind.i64 x0, S.i IntKind.i64 x1, S.i IntKind.i64 x2, S.b x3]]]) ([Obj.rcells 95 [Seg.one [S.ptr 1 0 none 0, S.i IntKind.u64 x4, S.sl 2 0 x5 true]], Obj.rcells 81 [Seg.arr IntKind.i8 81 x6, Seg.arr IntKind.i8 16 x7, Seg.one [S.i IntKind.i8 x8], Seg.rows [.i .u64, .i .u64] 32 x9, Seg.rows [.i .u64, .i .u64] 2 x10], Obj.sli 112 true (Seg.rows [.i .i64, .i .i64, .i .i64, .b, .i .i8, .i .i8] x11 x12)]) (pureD 3 deed_Game_Cand) = deed_Game_Can x0 x1 x2 x3 x4 x5 x6 x7 x8 x9 x10 x11 x12 := by kernel_rfl
noncomputable def deed_Game_Cana {R : Type} (o : Orc) (vs : List V) (objs : List Obj) (K : Bool → V → List Obj → Option R) : Option R := match vs, List.map Obj.toRO objs with
  | [V.s (S.ptr 0 0 none 0), V.agg [Seg.one [S.i IntKind.i64 x0, S.i IntKind.i64 x1, S.i IntKind.i64 x2, S.b x3]]], [Obj.rcells 95 [Seg.one [S.ptr 1 0 none 0, S.i IntKind.u64 x4, S.sl 2 0 x5 true]], Obj.rcells 81 [Seg.arr IntKind.i8 81 x6, Seg.arr IntKind.i8 16 x7, Seg.one [S.i IntKind.i8 x8], Seg.rows [.i .u64, .i .u64] 32 x9, Seg.rows [.i .u64, .i .u64] 2 x10], Obj.sli 112 true (Seg.rows [.i .i64, .i .i64, .i .i64, .b, .i .i8, .i .i8] x11 x12)] => ob (deed_Game_Can x0 x1 x2 x3 x4 x5 x6 x7 x8 x9 x10 x11 x12) fun y0 => K true (V.s (S.b y0)) ([])
  | _, _ => o 102 vs objs K
noncomputable def deed_Game_Cano (o : Orc) : Orc := hook 102 (deed_Game_Cana o) o
theorem deed_Game_Cano_ok (o : Orc) (ho : OSound Tryd.prog o) : OSound Tryd.prog (deed_Game_Cano o) := hook_ok ho fun vs objs K r h => by
  unfold deed_Game_Cana at h
  split at h
  · skip
    have hq : List.map Obj.toRO objs = _ := (by rename_i hq; first | exact hq | assumption)
    obtain ⟨t, h1, h2⟩ := ob_ok h
    refine purOK_by mixed deed_Game_Canc_ok (m := 3) (fn := Tryd.f102) (b := (Tryd.f102).body.getD .skip) (by kernel_rfl) (by kernel_rfl) (by kernel_rfl) hq (by kernel_rfl) (by kernel_rfl) (AllP.of (l' := []) (by kernel_rfl) trivial) ((deed_Game_Can_eq _ _ _ _ _ _ _ _ _ _ _ _ _).trans h1) fun v objs' hd => ?_
    unfold deed_Game_Cand at hd
    split at hd
    · skip
      cases hd
      exact h2
    · cases hd
  · exact ho _ _ _ _ _ h
noncomputable def deed_Game_handc : Ctx := mkC 54 ((key_Hando (board_Hando oNil))) [] lpNil
theorem deed_Game_handc_ok : CtxOK Tryd.prog deed_Game_handc := mkC_ok ((key_Hando_ok _ (board_Hando_ok _ oNil_ok)))
noncomputable def deed_Game_handd : V → List Obj → Option (Int × Nat × List Int × List Int × Int × List (List Int) × List (List Int) × Nat × List (List Int)) := fun v objs => match v, objs with
  | V.tup [], [Obj.cells 95 [Seg.one [S.ptr 1 0 none 0, S.i IntKind.u64 y0, S.sl 2 0 y1 true]], Obj.cells 81 [Seg.arr IntKind.i8 81 y2, Seg.arr IntKind.i8 16 y3, Seg.one [S.i IntKind.i8 y4], Seg.rows [.i .u64, .i .u64] 32 y5, Seg.rows [.i .u64, .i .u64] 2 y6], Obj.sli 112 false (Seg.rows [.i .i64, .i .i64, .i .i64, .b, .i .i8, .i .i8] y7 y8)] => some (y0, y1, y2, y3, y4, y5, y6, y7, y8)
  | _, _ => none
theorem deed_Game_hand_eq (x0 x1 : Int) (x2 x3 : Int) (x4 : Nat) (x5 x6 : List Int) (x7 : Int) (x8 x9 : List (List Int)) (x10 : Nat) (x11 : List (List Int)) : fnE deed_Game_handc Tryd.f103 ([V.s (S.ptr 0 0 none 0), V.s (S.i IntKind.i64 x0), V.s (S.i IntKind.i64 x1), V.s (S.i IntKind.i64 x2)]) ([Obj.cells 95 [Seg.one [S.ptr 1 0 none 0, S.i IntKind.u64 x3, S.sl 2 0 x4 true]], Obj.cells 81 [Seg.arr IntKind.i8 81 x5, Seg.arr IntKind.i8 16 x6, Seg.one [S.i IntKind.i8 x7], Seg.rows [.i .u64, .i .u64] 32 x8, Seg.rows [.i .u64, .i .u64] 2 x9], Obj.sli 112 false (Seg.rows [.i .i64, .i .i64, .i .i64, .b, .i .i8, .i .i8] x10 x11)]) deed_Game_handd = deed_Game_hand x0 x1 x2 x3 x4 x5 x6 x7 x8 x9 x10 x11 := by kernel_rfl
noncomputable def deed_Game_handa {R : Type} (o : Orc) (vs : List V) (objs : List Obj) (K : Bool → V → List Obj → Option R) : Option R := match vs, objs with
  | [V.s (S.ptr 0 0 none 0), V.s (S.i IntKind.i64 x0), V.s (S.i IntKind.i64 x1), V.s (S.i IntKind.i64 x2)], [Obj.cells 95 [Seg.one [S.ptr 1 0 none 0, S.i IntKind.u64 x3, S.sl 2 0 x4 true]], Obj.cells 81 [Seg.arr IntKind.i8 81 x5, Seg.arr IntKind.i8 16 x6, Seg.one [S.i IntKind.i8 x7], Seg.rows [.i .u64, .i .u64] 32 x8, Seg.rows [.i .u64, .i .u64] 2 x9], Obj.sli 112 false (Seg.rows [.i .i64, .i .i64, .i .i64, .b, .i .i8, .i .i8] x10 x11)] => ob (deed_Game_hand x0 x1 x2 x3 x4 x5 x6 x7 x8 x9 x10 x11) fun z => K false (V.tup []) ([Obj.cells 95 [Seg.one [S.ptr 1 0 none 0, S.i IntKind.u64 (z.1), S.sl 2 0 (z.2.1) true]], Obj.cells 81 [Seg.arr IntKind.i8 81 (z.2.2.1), Seg.arr IntKind.i8 16 (z.2.2.2.1), Seg.one [S.i IntKind.i8 (z.2.2.2.2.1)], Seg.rows [.i .u64, .i .u64] 32 (z.2.2.2.2.2.1), Seg.rows [.i .u64, .i .u64] 2 (z.2.2.2.2.2.2.1)], Obj.sli 112 false (Seg.rows [.i .i64, .i .i64, .i .i64, .b, .i .i8, .i .i8] (z.2.2.2.2.2.2.2.1) (z.2.2.2.2.2.2.2.2))])
  | _, _ => o 103 vs objs K
noncomputable def deed_Game_hando (o : Orc) : Orc := hook 103 (deed_Game_handa o) o
theorem deed_Game_hando_ok (o : Orc) (ho : OSound Tryd.prog o) : OSound Tryd.prog (deed_Game_hando o) := hook_ok ho fun vs objs K r h => by
  unfold deed_Game_handa at h
  split at h
  · skip
    obtain ⟨t, h1, h2⟩ := ob_ok h
    refine anyOK_of mixed deed_Game_handc_ok (fn := Tryd.f103) (b := (Tryd.f103).body.getD .skip) (by kernel_rfl) (by kernel_rfl) (by kernel_rfl) ((deed_Game_hand_eq _ _ _ _ _ _ _ _ _ _ _ _).trans h1) (m := 3) rfl (AllP.of (l' := []) (by kernel_rfl) trivial) fun v objs' hd => ?_
    unfold deed_Game_handd at hd
    split at hd
    · skip
      cases hd
      exact h2
    · cases hd
  · exact ho _ _ _ _ _ h
noncomputable def deed_Game_putc : Ctx := mkC 32 ((board_Puto (key_Pieceo (board_Ato oNil)))) [] lpNil
theorem deed_Game_putc_ok : CtxOK Tryd.prog deed_Game_putc := mkC_ok ((board_Puto_ok _ (key_Pieceo_ok _ (board_Ato_ok _ oNil_ok))))
noncomputable def deed_Game_putd : V → List Obj → Option (Int × Nat × List Int × List Int × Int × List (List Int) × List (List Int) × Nat × List (List Int)) := fun v objs => match v, objs with
  | V.tup [], [Obj.cells 95 [Seg.one [S.ptr 1 0 none 0, S.i IntKind.u64 y0, S.sl 2 0 y1 true]], Obj.cells 81 [Seg.arr IntKind.i8 81 y2, Seg.arr IntKind.i8 16 y3, Seg.one [S.i IntKind.i8 y4], Seg.rows [.i .u64, .i .u64] 32 y5, Seg.rows [.i .u64, .i .u64] 2 y6], Obj.sli 112 false (Seg.rows [.i .i64, .i .i64, .i .i64, .b, .i .i8, .i .i8] y7 y8)] => some (y0, y1, y2, y3, y4, y5, y6, y7, y8)
  | _, _ => none
theorem deed_Game_put_eq (x0 x1 x2 : Int) (x3 : Nat) (x4 x5 : List Int) (x6 : Int) (x7 x8 : List (List Int)) (x9 : Nat) (x10 : List (List Int)) : fnE deed_Game_putc Tryd.f104 ([V.s (S.ptr 0 0 none 0), V.s (S.i IntKind.i64 x0), V.s (S.i IntKind.i8 x1)]) ([Obj.cells 95 [Seg.one [S.ptr 1 0 none 0, S.i IntKind.u64 x2, S.sl 2 0 x3 true]], Obj.cells 81 [Seg.arr IntKind.i8 81 x4, Seg.arr IntKind.i8 16 x5, Seg.one [S.i IntKind.i8 x6], Seg.rows [.i .u64, .i .u64] 32 x7, Seg.rows [.i .u64, .i .u64] 2 x8], Obj.sli 112 false (Seg.rows [.i .i64, .i .i64, .i .i64, .b, .i .i8, .i .i8] x9 x10)]) deed_Game_putd = deed_Game_put x0 x1 x2 x3 x4 x5 x6 x7 x8 x9 x10 := by kernel_rfl
noncomputable def deed_Game_puta {R : Type} (o : Orc) (vs : List V) (objs : List Obj) (K : Bool → V → List Obj → Option R) : Option R := match vs, objs with
  | [V.s (S.ptr 0 0 none 0), V.s (S.i IntKind.i64 x0), V.s (S.i IntKind.i8 x1)], [Obj.cells 95 [Seg.one [S.ptr 1 0 none 0, S.i IntKind.u64 x2, S.sl 2 0 x3 true]], Obj.cells 81 [Seg.arr IntKind.i8 81 x4, Seg.arr IntKind.i8 16 x5, Seg.one [S.i IntKind.i8 x6], Seg.rows [.i .u64, .i .u64] 32 x7, Seg.rows [.i .u64, .i .u64] 2 x8], Obj.sli 112 false (Seg.rows [.i .i64, .i .i64, .i .i64, .b, .i .i8, .i .i8] x9 x10)] => ob (deed_Game_put x0 x1 x2 x3 x4 x5 x6 x7 x8 x9 x10) fun z => K false (V.tup []) ([Obj.cells 95 [Seg.one [S.ptr 1 0 none 0, S.i IntKind.u64 (z.1), S.sl 2 0 (z.2.1) true]], Obj.cells 81 [Seg.arr IntKind.i8 81 (z.2.2.1), Seg.arr IntKind.i8 16 (z.2.2.2.1), Seg.one [S.i IntKind.i8 (z.2.2.2.2.1)], Seg.rows [.i .u64, .i .u64] 32 (z.2.2.2.2.2.1), Seg.rows [.i .u64, .i .u64] 2 (z.2.2.2.2.2.2.1)], Obj.sli 112 false (Seg.rows [.i .i64, .i .i64, .i .i64, .b, .i .i8, .i .i8] (z.2.2.2.2.2.2.2.1) (z.2.2.2.2.2.2.2.2))])
  | _, _ => o 104 vs objs K
noncomputable def deed_Game_puto (o : Orc) : Orc := hook 104 (deed_Game_puta o) o
theorem deed_Game_puto_ok (o : Orc) (ho : OSound Tryd.prog o) : OSound Tryd.prog (deed_Game_puto o) := hook_ok ho fun vs objs K r h => by
  unfold deed_Game_puta at h
  split at h
  · skip
    obtain ⟨t, h1, h2⟩ := ob_ok h
    refine anyOK_of mixed deed_Game_putc_ok (fn := Tryd.f104) (b := (Tryd.f104).body.getD .skip) (by kernel_rfl) (by kernel_rfl) (by kernel_rfl) ((deed_Game_put_eq _ _ _ _ _ _ _ _ _ _ _).trans h1) (m := 3) rfl (AllP.of (l' := []) (by kernel_rfl) trivial) fun v objs' hd => ?_
    unfold deed_Game_putd at hd
    split at hd
    · skip
      cases hd
      exact h2
    · cases hd
  · exact ho _ _ _ _ _ h
noncomputable def deed_Game_turnc : Ctx := mkC 26 ((key_Sideo oNil)) [] lpNil
theorem deed_Game_turnc_ok : CtxOK Tryd.prog deed_Game_turnc := mkC_ok ((key_Sideo_ok _ oNil_ok))
noncomputable def deed_Game_turnd : V → List Obj → Option (Int × Nat × List Int × List Int × Int × List (List Int) × List (List Int) × Nat × List (List Int)) := fun v objs => match v, objs with
  | V.tup [], [Obj.cells 95 [Seg.one [S.ptr 1 0 none 0, S.i IntKind.u64 y0, S.sl 2 0 y1 true]], Obj.cells 81 [Seg.arr IntKind.i8 81 y2, Seg.arr IntKind.i8 16 y3, Seg.one [S.i IntKind.i8 y4], Seg.rows [.i .u64, .i .u64] 32 y5, Seg.rows [.i .u64, .i .u64] 2 y6], Obj.sli 112 false (Seg.rows [.i .i64, .i .i64, .i .i64, .b, .i .i8, .i .i8] y7 y8)] => some (y0, y1, y2, y3, y4, y5, y6, y7, y8)
  | _, _ => none
theorem deed_Game_turn_eq (x0 : Int) (x1 : Nat) (x2 x3 : List Int) (x4 : Int) (x5 x6 : List (List Int)) (x7 : Nat) (x8 : List (List Int)) : fnE deed_Game_turnc Tryd.f105 ([V.s (S.ptr 0 0 none 0)]) ([Obj.cells 95 [Seg.one [S.ptr 1 0 none 0, S.i IntKind.u64 x0, S.sl 2 0 x1 true]], Obj.cells 81 [Seg.arr IntKind.i8 81 x2, Seg.arr IntKind.i8 16 x3, Seg.one [S.i IntKind.i8 x4], Seg.rows [.i .u64, .i .u64] 32 x5, Seg.rows [.i .u64, .i .u64] 2 x6], Obj.sli 112 false (Seg.rows [.i .i64, .i .i64, .i .i64, .b, .i .i8, .i .i8] x7 x8)]) deed_Game_turnd = deed_Game_turn x0 x1 x2 x3 x4 x5 x6 x7 x8 := by kernel_rfl
noncomputable def deed_Game_turna {R : Type} (o : Orc) (vs : List V) (objs : List Obj) (K : Bool → V → List Obj → Option R) : Option R := match vs, objs with
  | [V.s (S.ptr 0 0 none 0)], [Obj.cells 95 [Seg.one [S.ptr 1 0 none 0, S.i IntKind.u64 x0, S.sl 2 0 x1 true]], Obj.cells 81 [Seg.arr IntKind.i8 81 x2, Seg.arr IntKind.i8 16 x3, Seg.one [S.i IntKind.i8 x4], Seg.rows [.i .u64, .i .u64] 32 x5, Seg.rows [.i .u64, .i .u64] 2 x6], Obj.sli 112 false (Seg.rows [.i .i64, .i .i64, .i .i64, .b, .i .i8, .i .i8] x7 x8)] => ob (deed_Game_turn x0 x1 x2 x3 x4 x5 x6 x7 x8) fun z => K false (V.tup []) ([Obj.cells 95 [Seg.one [S.ptr 1 0 none 0, S.i IntKind.u64 (z.1), S.sl 2 0 (z.2.1) true]], Obj.cells 81 [Seg.arr IntKind.i8 81 (z.2.2.1), Seg.arr IntKind.i8 16 (z.2.2.2.1), Seg.one [S.i IntKind.i8 (z.2.2.2.2.1)], Seg.rows [.i .u64, .i .u64] 32 (z.2.2.2.2.2.1), Seg.rows [.i .u64, .i .u64] 2 (z.2.2.2.2.2.2.1)], Obj.sli 112 false (Seg.rows [.i .i64, .i .i64, .i .i64, .b, .i .i8, .i .i8] (z.2.2.2.2.2.2.2.1) (z.2.2.2.2.2.2.2.2))])
  | _, _ => o 105 vs objs K
noncomputable def deed_Game_turno (o : Orc) : Orc := hook 105 (deed_Game_turna o) o
theorem deed_Game_turno_ok (o : Orc) (ho : OSound Tryd.prog o) : OSound Tryd.prog (deed_Game_turno o) := hook_ok ho fun vs objs K r h => by
  unfold deed_Game_turna at h
  split at h
  · skip
    obtain ⟨t, h1, h2⟩ := ob_ok h
    refine anyOK_of mixed deed_Game_turnc_ok (fn := Tryd.f105) (b := (Tryd.f105).body.getD .skip) (by kernel_rfl) (by kernel_rfl) (by kernel_rfl) ((deed_Game_turn_eq _ _ _ _ _ _ _ _ _).trans h1) (m := 3) rfl (AllP.of (l' := []) (by kernel_rfl) trivial) fun v objs' hd => ?_
    unfold deed_Game_turnd at hd
    split at hd
    · skip
      cases hd
      exact h2
    · cases hd
  · exact ho _ _ _ _ _ h
noncomputable def deed_Game_Makec : Ctx := mkC 97 ((piece_Rawo (piece_Upo (piece_Kindo (deed_Game_turno (deed_Game_puto (deed_Game_hando (piece_Ofo (board_Ato (deed_Game_Cano oNil)))))))))) [] lpNil
theorem deed_Game_Makec_ok : CtxOK Tryd.prog deed_Game_Makec := mkC_ok ((piece_Rawo_ok _ (piece_Upo_ok _ (piece_Kindo_ok _ (deed_Game_turno_ok _ (deed_Game_puto_ok _ (deed_Game_hando_ok _ (piece_Ofo_ok _ (board_Ato_ok _ (deed_Game_Cano_ok _ oNil_ok))))))))))
noncomputable def deed_Game_Maked : V → List Obj → Option ((Bool × Int × Nat × List Int × List Int × Int × List (List Int) × List (List Int) × Nat × List (List Int)) ⊕ (Bool × Int × Nat × List Int × List Int × Int × List (List Int) × List (List Int) × Nat × List (List Int))) := fun v objs => match v, objs with
  | V.s (S.b y0), [Obj.cells 95 [Seg.one [S.ptr 1 0 none 0, S.i IntKind.u64 y1, S.sl 2 0 y2 true]], Obj.cells 81 [Seg.arr IntKind.i8 81 y3, Seg.arr IntKind.i8 16 y4, Seg.one [S.i IntKind.i8 y5], Seg.rows [.i .u64, .i .u64] 32 y6, Seg.rows [.i .u64, .i .u64] 2 y7], Obj.sli 112 false (Seg.rows [.i .i64, .i .i64, .i .i64, .b, .i .i8, .i .i8] y8 y9)] => some (Sum.inl (y0, y1, y2, y3, y4, y5, y6, y7, y8, y9))
  | V.s (S.b y0), [Obj.cells 95 [Seg.one [S.ptr 1 0 none 0, S.i IntKind.u64 y1, S.sl 3 0 y2 true]], Obj.cells 81 [Seg.arr IntKind.i8 81 y3, Seg.arr IntKind.i8 16 y4, Seg.one [S.i IntKind.i8 y5], Seg.rows [.i .u64, .i .u64] 32 y6, Seg.rows [.i .u64, .i .u64] 2 y7], Obj.dead, Obj.sli 112 false (Seg.rows [.i .i64, .i .i64, .i .i64, .b, .i .i8, .i .i8] y8 y9)] => some (Sum.inr (y0, y1, y2, y3, y4, y5, y6, y7, y8, y9))
  | _, _ => none
theorem deed_Game_Make_eq (x0 x1 x2 : Int) (x3 : Bool) (x4 : Int) (x5 : Nat) (x6 x7 : List Int) (x8 : Int) (x9 x10 : List (List Int)) (x11 : Nat) (x12 : List (List Int)) : fnE deed_Game_Makec Tryd.f64 ([V.s (S.ptr 0 0 none 0), V.agg [Seg.one [S.i IntKind.i64 x0, S.i IntKind.i64 x1, S.i IntKind.i64 x2, S.b x3]]]) ([Obj.cells 95 [Seg.one [S.ptr 1 0 none 0, S.i IntKind.u64 x4, S.sl 2 0 x5 true]], Obj.cells 81 [Seg.arr IntKind.i8 81 x6, Seg.arr IntKind.i8 16 x7, Seg.one [S.i IntKind.i8 x8], Seg.rows [.i .u64, .i .u64] 32 x9, Seg.rows [.i .u64, .i .u64] 2 x10], Obj.sli 112 false (Seg.rows [.i .i64, .i .i64, .i .i64, .b, .i .i8, .i .i8] x11 x12)]) deed_Game_Maked = deed_Game_Make x0 x1 x2 x3 x4 x5 x6 x7 x8 x9 x10 x11 x12 := by kernel_rfl
noncomputable def deed_Game_Makea {R : Type} (o : Orc) (vs : List V) (objs : List Obj) (K : Bool → V → List Obj → Option R) : Option R := match vs, objs with
  | [V.s (S.ptr 0 0 none 0), V.agg [Seg.one [S.i IntKind.i64 x0, S.i IntKind.i64 x1, S.i IntKind.i64 x2, S.b x3]]], [Obj.cells 95 [Seg.one [S.ptr 1 0 none 0, S.i IntKind.u64 x4, S.sl 2 0 x5 true]], Obj.cells 81 [Seg.arr IntKind.i8 81 x6, Seg.arr IntKind.i8 16 x7, Seg.one [S.i IntKind.i8 x8], Seg.rows [.i .u64, .i .u64] 32 x9, Seg.rows [.i .u64, .i .u64] 2 x10], Obj.sli 112 false (Seg.rows [.i .i64, .i .i64, .i .i64, .b, .i .i8, .i .i8] x11 x12)] => ob (deed_Game_Make x0 x1 x2 x3 x4 x5 x6 x7 x8 x9 x10 x11 x12) fun t0 => sw t0 (fun z => K false (V.s (S.b (z.1))) ([Obj.cells 95 [Seg.one [S.ptr 1 0 none 0, S.i IntKind.u64 (z.2.1), S.sl 2 0 (z.2.2.1) true]], Obj.cells 81 [Seg.arr IntKind.i8 81 (z.2.2.2.1), Seg.arr IntKind.i8 16 (z.2.2.2.2.1), Seg.one [S.i IntKind.i8 (z.2.2.2.2.2.1)], Seg.rows [.i .u64, .i .u64] 32 (z.2.2.2.2.2.2.1), Seg.rows [.i .u64, .i .u64] 2 (z.2.2.2.2.2.2.2.1)], Obj.sli 112 false (Seg.rows [.i .i64, .i .i64, .i .i64, .b, .i .i8, .i .i8] (z.2.2.2.2.2.2.2.2.1) (z.2.2.2.2.2.2.2.2.2))])) (fun z => K false (V.s (S.b (z.1))) ([Obj.cells 95 [Seg.one [S.ptr 1 0 none 0, S.i IntKind.u64 (z.2.1), S.sl 3 0 (z.2.2.1) true]], Obj.cells 81 [Seg.arr IntKind.i8 81 (z.2.2.2.1), Seg.arr IntKind.i8 16 (z.2.2.2.2.1), Seg.one [S.i IntKind.i8 (z.2.2.2.2.2.1)], Seg.rows [.i .u64, .i .u64] 32 (z.2.2.2.2.2.2.1), Seg.rows [.i .u64, .i .u64] 2 (z.2.2.2.2.2.2.2.1)], Obj.dead, Obj.sli 112 false (Seg.rows [.i .i64, .i .i64, .i .i64, .b, .i .i8, .i .i8] (z.2.2.2.2.2.2.2.2.1) (z.2.2.2.2.2.2.2.2.2))]))
  | _, _ => o 64 vs objs K
noncomputable def deed_Game_Makeo (o : Orc) : Orc := hook 64 (deed_Game_Makea o) o
theorem deed_Game_Makeo_ok (o : Orc) (ho : OSound Tryd.prog o) : OSound Tryd.prog (deed_Game_Makeo o) := hook_ok ho fun vs objs K r h => by
  unfold deed_Game_Makea at h
  split at h
  · skip
    obtain ⟨t, h1, h2⟩ := ob_ok h
    refine anyOK_of mixed deed_Game_Makec_ok (fn := Tryd.f64) (b := (Tryd.f64).body.getD .skip) (by kernel_rfl) (by kernel_rfl) (by kernel_rfl) ((deed_Game_Make_eq _ _ _ _ _ _ _ _ _ _ _ _ _).trans h1) (m := 3) rfl (AllP.of (l' := []) (by kernel_rfl) trivial) fun v objs' hd => ?_
    unfold deed_Game_Maked at hd
    split at hd
    · skip
      cases hd
      exact h2
    · skip
      cases hd
      exact h2
    · cases hd
  · exact ho _ _ _ _ _ h
noncomputable def deed_Afterc : Ctx := mkC 21 ((deed_Game_Makeo (deed_Newo oNil))) [] lpNil
theorem deed_Afterc_ok : CtxOK Tryd.prog deed_Afterc := mkC_ok ((deed_Game_Makeo_ok _ (deed_Newo_ok _ oNil_ok)))
noncomputable def deed_Afterd : V → List Obj → Option (List Int × List Int × Int × Bool) := fun v objs => match v, objs with
  | V.tup [W.agg [Seg.arr IntKind.i8 81 y0, Seg.arr IntKind.i8 16 y1, Seg.one [S.i IntKind.i8 y2]], W.s (S.b y3)], [] => some (y0, y1, y2, y3)
  | _, _ => none
theorem deed_After_eq (x0 x1 : List Int) (x2 x3 : Int) (x4 x5 : Int) (x6 : Bool) : fnE deed_Afterc Tryd.f19 ([V.agg [Seg.arr IntKind.i8 81 x0, Seg.arr IntKind.i8 16 x1, Seg.one [S.i IntKind.i8 x2]], V.agg [Seg.one [S.i IntKind.i64 x3, S.i IntKind.i64 x4, S.i IntKind.i64 x5, S.b x6]]]) ([]) deed_Afterd = deed_After x0 x1 x2 x3 x4 x5 x6 := by kernel_rfl
noncomputable def deed_Aftera {R : Type} (o : Orc) (vs : List V) (objs : List Obj) (K : Bool → V → List Obj → Option R) : Option R := match vs, objs with
  | [V.agg [Seg.arr IntKind.i8 81 x0, Seg.arr IntKind.i8 16 x1, Seg.one [S.i IntKind.i8 x2]], V.agg [Seg.one [S.i IntKind.i64 x3, S.i IntKind.i64 x4, S.i IntKind.i64 x5, S.b x6]]], [] => ob (deed_After x0 x1 x2 x3 x4 x5 x6) fun z => K false (V.tup [W.agg [Seg.arr IntKind.i8 81 (z.1), Seg.arr IntKind.i8 16 (z.2.1), Seg.one [S.i IntKind.i8 (z.2.2.1)]], W.s (S.b (z.2.2.2))]) ([])
  | _, _ => o 19 vs objs K
noncomputable def deed_Aftero (o : Orc) : Orc := hook 19 (deed_Aftera o) o
theorem deed_Aftero_ok (o : Orc) (ho : OSound Tryd.prog o) : OSound Tryd.prog (deed_Aftero o) := hook_ok ho fun vs objs K r h => by
  unfold deed_Aftera at h
  split at h
  · skip
    obtain ⟨t, h1, h2⟩ := ob_ok h
    refine anyOK_of mixed deed_Afterc_ok (fn := Tryd.f19) (b := (Tryd.f19).body.getD .skip) (by kernel_rfl) (by kernel_rfl) (by kernel_rfl) ((deed_After_eq _ _ _ _ _ _ _).trans h1) (m := 0) rfl (AllP.of (l' := []) (by kernel_rfl) trivial) fun v objs' hd => ?_
    unfold deed_Afterd at hd
    split at hd
    · skip
      cases hd
      exact h2
    · cases hd
  · exact ho _ _ _ _ _ h
end Go.Kk.KkGW
