/- Printed by a tool of this project (KkGen): the program's functions come to the plain ones. -/
import Derived.Test.YtaoifdkheaagpaaDoorProg
import Derived.Test.YtaoifdkheaagpaaDoorKkB
import Derived.Test.YtaoifdkheaagpaaDoorKkPl
namespace Go.Kk.KkGP
open Go.Proofs Go.Kk.Pl
set_option maxRecDepth 100000
set_option maxHeartbeats 4000000
def tab : Tab := [(1, .sc (.f)),
  (2, .sc (.i .i64)),
  (3, .sc (.i .i64)),
  (4, .sc (.b)),
  (5, .sc (.i .u8)),
  (6, .sc (.i .u8)),
  (7, .st [.one [.i .i64, .i .i64, .b, .i .u8]] [(0, 0, 2), (0, 1, 3), (0, 2, 4), (0, 3, 6)]),
  (8, .st [.one [.i .i64, .i .i64, .b, .i .u8]] [(0, 0, 2), (0, 1, 3), (0, 2, 4), (0, 3, 6)]),
  (9, .sc (.str)),
  (10, .sc (.str)),
  (11, .sc (.str)),
  (12, .sc (.i .u64)),
  (13, .st [.one [.str, .i .u64]] [(0, 0, 9), (0, 1, 12)]),
  (14, .st [.one [.str, .i .u64]] [(0, 0, 9), (0, 1, 12)]),
  (15, .sc (.p)),
  (16, .sc (.p)),
  (17, .sc (.p)),
  (18, .st [.one [.p]] [(0, 0, 17)]),
  (19, .st [.one [.p]] [(0, 0, 17)]),
  (21, .sc (.i .i32)),
  (22, .sc (.i .i8)),
  (23, .sc (.i .i8)),
  (24, .ar 81 1 23 (.arr .i8 81)),
  (25, .ar 8 1 22 (.arr .i8 8)),
  (26, .ar 2 8 25 (.arr .i8 16)),
  (27, .st [.arr .i8 81, .arr .i8 16, .one [.i .i8]] [(0, 0, 24), (1, 0, 26), (2, 0, 22)]),
  (28, .st [.arr .i8 81, .arr .i8 16, .one [.i .i8]] [(0, 0, 24), (1, 0, 26), (2, 0, 22)]),
  (29, .sc (.f)),
  (30, .sc (.p)),
  (31, .sc (.f)),
  (32, .sc (.f)),
  (33, .sc (.sl 40)),
  (34, .sc (.f)),
  (35, .sc (.i .i64)),
  (36, .sc (.f)),
  (37, .sc (.f)),
  (38, .sc (.m 40 4)),
  (39, .st [.one [.i .i64, .i .i64, .i .i64, .b]] [(0, 0, 3), (0, 1, 3), (0, 2, 3), (0, 3, 4)]),
  (40, .st [.one [.i .i64, .i .i64, .i .i64, .b]] [(0, 0, 3), (0, 1, 3), (0, 2, 3), (0, 3, 4)]),
  (42, .sc (.f)),
  (43, .sc (.f)),
  (44, .sc (.f)),
  (45, .sc (.f)),
  (46, .sc (.f)),
  (47, .sc (.f)),
  (48, .sc (.f)),
  (50, .sc (.f)),
  (51, .sc (.f)),
  (52, .sc (.f)),
  (53, .sc (.f)),
  (54, .sc (.f)),
  (55, .sc (.i .u64)),
  (56, .st [.one [.i .u64, .i .u64]] [(0, 0, 55), (0, 1, 55)]),
  (57, .st [.one [.i .u64, .i .u64]] [(0, 0, 55), (0, 1, 55)]),
  (58, .sc (.f)),
  (59, .sc (.f)),
  (60, .sc (.f)),
  (61, .sc (.f)),
  (62, .sc (.f)),
  (63, .sc (.f)),
  (64, .sc (.f)),
  (65, .sc (.f)),
  (66, .sc (.f)),
  (67, .sc (.f)),
  (68, .sc (.sl 3)),
  (69, .sc (.f)),
  (70, .sc (.f)),
  (71, .ar 81 1 4 (.barr 81)),
  (72, .sc (.f)),
  (73, .sc (.m 3 57)),
  (74, .sc (.f)),
  (76, .sc (.f)),
  (77, .sc (.f)),
  (78, .ar 32 1 57 (.rows [.i .u64, .i .u64] 32)),
  (79, .ar 2 1 57 (.rows [.i .u64, .i .u64] 2)),
  (80, .st [.arr .i8 81, .arr .i8 16, .one [.i .i8], .rows [.i .u64, .i .u64] 32, .rows [.i .u64, .i .u64] 2] [(0, 0, 28), (3, 0, 78), (4, 0, 79)]),
  (81, .st [.arr .i8 81, .arr .i8 16, .one [.i .i8], .rows [.i .u64, .i .u64] 32, .rows [.i .u64, .i .u64] 2] [(0, 0, 28), (3, 0, 78), (4, 0, 79)]),
  (82, .sc (.f)),
  (83, .ar 9 1 3 (.arr .i64 9)),
  (84, .sc (.f)),
  (85, .sc (.f)),
  (86, .st [.one [.p, .i .i64, .i .i64, .i .u64, .i .u64, .m 3 57, .b]] [(0, 0, 30), (0, 1, 3), (0, 2, 3), (0, 3, 57), (0, 5, 73), (0, 6, 4)]),
  (87, .st [.one [.p, .i .i64, .i .i64, .i .u64, .i .u64, .m 3 57, .b]] [(0, 0, 30), (0, 1, 3), (0, 2, 3), (0, 3, 57), (0, 5, 73), (0, 6, 4)]),
  (88, .sc (.f)),
  (89, .sc (.f)),
  (90, .sc (.p)),
  (91, .sc (.f)),
  (92, .sc (.i .u64)),
  (93, .sc (.sl 112)),
  (94, .st [.one [.p, .i .u64, .sl 112]] [(0, 0, 30), (0, 1, 92), (0, 2, 93)]),
  (95, .st [.one [.p, .i .u64, .sl 112]] [(0, 0, 30), (0, 1, 92), (0, 2, 93)]),
  (96, .sc (.f)),
  (97, .sc (.f)),
  (98, .sc (.f)),
  (99, .sc (.f)),
  (100, .sc (.f)),
  (101, .sc (.f)),
  (102, .sc (.f)),
  (103, .sc (.f)),
  (104, .sc (.f)),
  (105, .sc (.f)),
  (106, .sc (.f)),
  (107, .sc (.f)),
  (108, .sc (.f)),
  (109, .ar 2 1 3 (.arr .i64 2)),
  (110, .sc (.f)),
  (111, .st [.one [.i .i64, .i .i64, .i .i64, .b, .i .i8, .i .i8]] [(0, 0, 40), (0, 4, 23), (0, 5, 23)]),
  (112, .st [.one [.i .i64, .i .i64, .i .i64, .b, .i .i8, .i .i8]] [(0, 0, 40), (0, 4, 23), (0, 5, 23)]),
  (113, .sc (.f)),
  (114, .sc (.f)),
  (115, .sc (.f)),
  (116, .sc (.sl 119)),
  (117, .sc (.f)),
  (118, .st [.one [.i .i64, .i .i64]] [(0, 0, 3), (0, 1, 3)]),
  (119, .st [.one [.i .i64, .i .i64]] [(0, 0, 3), (0, 1, 3)]),
  (120, .sc (.f)),
  (121, .sc (.f)),
  (122, .sc (.i .u64)),
  (123, .sc (.f)),
  (124, .sc (.f)),
  (125, .sc (.f)),
  (126, .sc (.f)),
  (127, .sc (.f)),
  (128, .ar 64 1 5 (.arr .u8 64)),
  (129, .sc (.f)),
  (130, .sc (.f)),
  (131, .st [.one [.p, .p, .p, .str]] [(0, 0, 17), (0, 1, 17), (0, 2, 17), (0, 3, 9)]),
  (132, .st [.one [.p, .p, .p, .str]] [(0, 0, 17), (0, 1, 17), (0, 2, 17), (0, 3, 9)]),
  (136, .sc (.i .u32)),
  (137, .sc (.i .u8)),
  (138, .sc (.i .u8)),
  (139, .sc (.f)),
  (140, .sc (.p)),
  (141, .sc (.i .i32)),
  (142, .sc (.i .i32)),
  (143, .st [.one [.i .u64, .i .u64, .i .u32, .i .u8, .i .u8, .i .u8, .i .u8, .f, .p, .i .i32, .i .i32]] [(0, 0, 12), (0, 1, 12), (0, 2, 136), (0, 3, 137), (0, 4, 5), (0, 5, 5), (0, 6, 138), (0, 7, 139), (0, 8, 140), (0, 9, 141), (0, 10, 142)]),
  (144, .st [.one [.i .u64, .i .u64, .i .u32, .i .u8, .i .u8, .i .u8, .i .u8, .f, .p, .i .i32, .i .i32]] [(0, 0, 12), (0, 1, 12), (0, 2, 136), (0, 3, 137), (0, 4, 5), (0, 5, 5), (0, 6, 138), (0, 7, 139), (0, 8, 140), (0, 9, 141), (0, 10, 142)])]
def eqs : List TypeId := [3, 24, 26, 28, 40, 57, 71, 119, 109]
def bytes : List (TypeId × Nat) := [(40, 32), (3, 8), (112, 40), (119, 16)]
theorem mixed : Tryd.prog.follows .mixedOrders = true := by kernel_rfl
theorem tab_ok : ∀ t L, Tab.get tab t = some L → LayOK Tryd.prog tab t L := tabB_ok (P := Tryd.prog) (tab := tab) (l := tab) (by kernel_rfl)
theorem eqs_ok : ∀ t L, memT t eqs = true → Tab.get tab t = some L → ∃ f ck, f ≤ 10000 ∧ tyCK Tryd.prog f t = some ck ∧ cksOf L.segTs = some ck ∧ Tryd.prog.eqGuardType Tryd.prog.depth t = false := eqsB_ok (P := Tryd.prog) (tab := tab) (l := eqs) (by kernel_rfl)
theorem bytes_ok : ∀ t n, byN t bytes = some n → ∃ i, Tryd.prog.info? t = some i ∧ i.bytes = n := bytesB_ok (P := Tryd.prog) (l := bytes) (by kernel_rfl)
def mkC (nt : Nat) (orc : Orc) (keeps : List (Nat × List Nat × List Nat)) (lp : {R : Type} → Nat → List V → List Obj → (Ex → List V → List Obj → Option R) → Option R) : Ctx := { tab := tab, eqs := eqs, bytes := bytes, nt := nt, orc := orc, keeps := keeps, lp := lp }
theorem mkC_ok {nt : Nat} {orc : Orc} {keeps : List (Nat × List Nat × List Nat)} {lp : {R : Type} → Nat → List V → List Obj → (Ex → List V → List Obj → Option R) → Option R} (h : OSound Tryd.prog orc) : CtxOK Tryd.prog (mkC nt orc keeps lp) := ⟨tab_ok, h, eqs_ok, bytes_ok, fun _ _ _ => rfl⟩
noncomputable def set_bitc : Ctx := mkC 21 (oNil) [] lpNil
theorem set_bitc_ok : CtxOK Tryd.prog set_bitc := mkC_ok (oNil_ok)
noncomputable def set_bitd : V → List Obj → Option (Int × Int) := fun v objs => match v, objs with
  | V.agg [Seg.one [S.i IntKind.u64 y0, S.i IntKind.u64 y1]], [] => some (y0, y1)
  | _, _ => none
theorem set_bit_eq (x0 : Int) : fnE set_bitc Tryd.f87 ([V.s (S.i IntKind.i64 x0)]) ([]) set_bitd = set_bit x0 := by kernel_rfl
noncomputable def set_bita {R : Type} (o : Orc) (vs : List V) (objs : List Obj) (K : Bool → V → List Obj → Option R) : Option R := match vs, objs with
  | [V.s (S.i IntKind.i64 x0)], [] => ob (set_bit x0) fun z => K false (V.agg [Seg.one [S.i IntKind.u64 (z.1), S.i IntKind.u64 (z.2)]]) ([])
  | _, _ => o 87 vs objs K
noncomputable def set_bito (o : Orc) : Orc := hook 87 (set_bita o) o
theorem set_bito_ok (o : Orc) (ho : OSound Tryd.prog o) : OSound Tryd.prog (set_bito o) := hook_ok ho fun vs objs K r h => by
  unfold set_bita at h
  split at h
  · skip
    obtain ⟨t, h1, h2⟩ := ob_ok h
    refine anyOK_of mixed set_bitc_ok (fn := Tryd.f87) (b := (Tryd.f87).body.getD .skip) (by kernel_rfl) (by kernel_rfl) (by kernel_rfl) ((set_bit_eq _).trans h1) (m := 0) rfl (AllP.of (l' := []) (by kernel_rfl) trivial) fun v objs' hd => ?_
    unfold set_bitd at hd
    split at hd
    · skip
      cases hd
      exact h2
    · cases hd
  · exact ho _ _ _ _ _ h
noncomputable def set_Minusc : Ctx := mkC 16 (oNil) [] lpNil
theorem set_Minusc_ok : CtxOK Tryd.prog set_Minusc := mkC_ok (oNil_ok)
noncomputable def set_Minusd : V → List Obj → Option (Int × Int) := fun v objs => match v, objs with
  | V.agg [Seg.one [S.i IntKind.u64 y0, S.i IntKind.u64 y1]], [] => some (y0, y1)
  | _, _ => none
theorem set_Minus_eq (x0 x1 : Int) (x2 x3 : Int) : fnE set_Minusc Tryd.f49 ([V.agg [Seg.one [S.i IntKind.u64 x0, S.i IntKind.u64 x1]], V.agg [Seg.one [S.i IntKind.u64 x2, S.i IntKind.u64 x3]]]) ([]) set_Minusd = set_Minus x0 x1 x2 x3 := by kernel_rfl
noncomputable def set_Minusa {R : Type} (o : Orc) (vs : List V) (objs : List Obj) (K : Bool → V → List Obj → Option R) : Option R := match vs, objs with
  | [V.agg [Seg.one [S.i IntKind.u64 x0, S.i IntKind.u64 x1]], V.agg [Seg.one [S.i IntKind.u64 x2, S.i IntKind.u64 x3]]], [] => ob (set_Minus x0 x1 x2 x3) fun z => K false (V.agg [Seg.one [S.i IntKind.u64 (z.1), S.i IntKind.u64 (z.2)]]) ([])
  | _, _ => o 49 vs objs K
noncomputable def set_Minuso (o : Orc) : Orc := hook 49 (set_Minusa o) o
theorem set_Minuso_ok (o : Orc) (ho : OSound Tryd.prog o) : OSound Tryd.prog (set_Minuso o) := hook_ok ho fun vs objs K r h => by
  unfold set_Minusa at h
  split at h
  · skip
    obtain ⟨t, h1, h2⟩ := ob_ok h
    refine anyOK_of mixed set_Minusc_ok (fn := Tryd.f49) (b := (Tryd.f49).body.getD .skip) (by kernel_rfl) (by kernel_rfl) (by kernel_rfl) ((set_Minus_eq _ _ _ _).trans h1) (m := 0) rfl (AllP.of (l' := []) (by kernel_rfl) trivial) fun v objs' hd => ?_
    unfold set_Minusd at hd
    split at hd
    · skip
      cases hd
      exact h2
    · cases hd
  · exact ho _ _ _ _ _ h
noncomputable def set_Withoutc : Ctx := mkC 9 ((set_Minuso (set_bito oNil))) [] lpNil
theorem set_Withoutc_ok : CtxOK Tryd.prog set_Withoutc := mkC_ok ((set_Minuso_ok _ (set_bito_ok _ oNil_ok)))
noncomputable def set_Withoutd : V → List Obj → Option (Int × Int) := fun v objs => match v, objs with
  | V.agg [Seg.one [S.i IntKind.u64 y0, S.i IntKind.u64 y1]], [] => some (y0, y1)
  | _, _ => none
theorem set_Without_eq (x0 x1 x2 : Int) : fnE set_Withoutc Tryd.f96 ([V.agg [Seg.one [S.i IntKind.u64 x0, S.i IntKind.u64 x1]], V.s (S.i IntKind.i64 x2)]) ([]) set_Withoutd = set_Without x0 x1 x2 := by kernel_rfl
noncomputable def set_Withouta {R : Type} (o : Orc) (vs : List V) (objs : List Obj) (K : Bool → V → List Obj → Option R) : Option R := match vs, objs with
  | [V.agg [Seg.one [S.i IntKind.u64 x0, S.i IntKind.u64 x1]], V.s (S.i IntKind.i64 x2)], [] => ob (set_Without x0 x1 x2) fun z => K false (V.agg [Seg.one [S.i IntKind.u64 (z.1), S.i IntKind.u64 (z.2)]]) ([])
  | _, _ => o 96 vs objs K
noncomputable def set_Withouto (o : Orc) : Orc := hook 96 (set_Withouta o) o
theorem set_Withouto_ok (o : Orc) (ho : OSound Tryd.prog o) : OSound Tryd.prog (set_Withouto o) := hook_ok ho fun vs objs K r h => by
  unfold set_Withouta at h
  split at h
  · skip
    obtain ⟨t, h1, h2⟩ := ob_ok h
    refine anyOK_of mixed set_Withoutc_ok (fn := Tryd.f96) (b := (Tryd.f96).body.getD .skip) (by kernel_rfl) (by kernel_rfl) (by kernel_rfl) ((set_Without_eq _ _ _).trans h1) (m := 0) rfl (AllP.of (l' := []) (by kernel_rfl) trivial) fun v objs' hd => ?_
    unfold set_Withoutd at hd
    split at hd
    · skip
      cases hd
      exact h2
    · cases hd
  · exact ho _ _ _ _ _ h
noncomputable def piece_Kindc : Ctx := mkC 28 (oNil) [] lpNil
theorem piece_Kindc_ok : CtxOK Tryd.prog piece_Kindc := mkC_ok (oNil_ok)
noncomputable def piece_Kindd : V → List Obj → Option (Int) := fun v objs => match v, objs with
  | V.s (S.i IntKind.i64 y0), [] => some (y0)
  | _, _ => none
theorem piece_Kind_eq (x0 : Int) : fnE piece_Kindc Tryd.f75 ([V.s (S.i IntKind.i8 x0)]) ([]) piece_Kindd = piece_Kind x0 := by kernel_rfl
noncomputable def piece_Kinda {R : Type} (o : Orc) (vs : List V) (objs : List Obj) (K : Bool → V → List Obj → Option R) : Option R := match vs, objs with
  | [V.s (S.i IntKind.i8 x0)], [] => ob (piece_Kind x0) fun y0 => K false (V.s (S.i IntKind.i64 y0)) ([])
  | _, _ => o 75 vs objs K
noncomputable def piece_Kindo (o : Orc) : Orc := hook 75 (piece_Kinda o) o
theorem piece_Kindo_ok (o : Orc) (ho : OSound Tryd.prog o) : OSound Tryd.prog (piece_Kindo o) := hook_ok ho fun vs objs K r h => by
  unfold piece_Kinda at h
  split at h
  · skip
    obtain ⟨t, h1, h2⟩ := ob_ok h
    refine anyOK_of mixed piece_Kindc_ok (fn := Tryd.f75) (b := (Tryd.f75).body.getD .skip) (by kernel_rfl) (by kernel_rfl) (by kernel_rfl) ((piece_Kind_eq _).trans h1) (m := 0) rfl (AllP.of (l' := []) (by kernel_rfl) trivial) fun v objs' hd => ?_
    unfold piece_Kindd at hd
    split at hd
    · skip
      cases hd
      exact h2
    · cases hd
  · exact ho _ _ _ _ _ h
noncomputable def piece_Sidec : Ctx := mkC 10 ((piece_Kindo oNil)) [] lpNil
theorem piece_Sidec_ok : CtxOK Tryd.prog piece_Sidec := mkC_ok ((piece_Kindo_ok _ oNil_ok))
noncomputable def piece_Sided : V → List Obj → Option (Int) := fun v objs => match v, objs with
  | V.s (S.i IntKind.i64 y0), [] => some (y0)
  | _, _ => none
theorem piece_Side_eq (x0 : Int) : fnE piece_Sidec Tryd.f77 ([V.s (S.i IntKind.i8 x0)]) ([]) piece_Sided = piece_Side x0 := by kernel_rfl
noncomputable def piece_Sidea {R : Type} (o : Orc) (vs : List V) (objs : List Obj) (K : Bool → V → List Obj → Option R) : Option R := match vs, objs with
  | [V.s (S.i IntKind.i8 x0)], [] => ob (piece_Side x0) fun y0 => K false (V.s (S.i IntKind.i64 y0)) ([])
  | _, _ => o 77 vs objs K
noncomputable def piece_Sideo (o : Orc) : Orc := hook 77 (piece_Sidea o) o
theorem piece_Sideo_ok (o : Orc) (ho : OSound Tryd.prog o) : OSound Tryd.prog (piece_Sideo o) := hook_ok ho fun vs objs K r h => by
  unfold piece_Sidea at h
  split at h
  · skip
    obtain ⟨t, h1, h2⟩ := ob_ok h
    refine anyOK_of mixed piece_Sidec_ok (fn := Tryd.f77) (b := (Tryd.f77).body.getD .skip) (by kernel_rfl) (by kernel_rfl) (by kernel_rfl) ((piece_Side_eq _).trans h1) (m := 0) rfl (AllP.of (l' := []) (by kernel_rfl) trivial) fun v objs' hd => ?_
    unfold piece_Sided at hd
    split at hd
    · skip
      cases hd
      exact h2
    · cases hd
  · exact ho _ _ _ _ _ h
noncomputable def set_Orc : Ctx := mkC 16 (oNil) [] lpNil
theorem set_Orc_ok : CtxOK Tryd.prog set_Orc := mkC_ok (oNil_ok)
noncomputable def set_Ord : V → List Obj → Option (Int × Int) := fun v objs => match v, objs with
  | V.agg [Seg.one [S.i IntKind.u64 y0, S.i IntKind.u64 y1]], [] => some (y0, y1)
  | _, _ => none
theorem set_Or_eq (x0 x1 : Int) (x2 x3 : Int) : fnE set_Orc Tryd.f89 ([V.agg [Seg.one [S.i IntKind.u64 x0, S.i IntKind.u64 x1]], V.agg [Seg.one [S.i IntKind.u64 x2, S.i IntKind.u64 x3]]]) ([]) set_Ord = set_Or x0 x1 x2 x3 := by kernel_rfl
noncomputable def set_Ora {R : Type} (o : Orc) (vs : List V) (objs : List Obj) (K : Bool → V → List Obj → Option R) : Option R := match vs, objs with
  | [V.agg [Seg.one [S.i IntKind.u64 x0, S.i IntKind.u64 x1]], V.agg [Seg.one [S.i IntKind.u64 x2, S.i IntKind.u64 x3]]], [] => ob (set_Or x0 x1 x2 x3) fun z => K false (V.agg [Seg.one [S.i IntKind.u64 (z.1), S.i IntKind.u64 (z.2)]]) ([])
  | _, _ => o 89 vs objs K
noncomputable def set_Oro (o : Orc) : Orc := hook 89 (set_Ora o) o
theorem set_Oro_ok (o : Orc) (ho : OSound Tryd.prog o) : OSound Tryd.prog (set_Oro o) := hook_ok ho fun vs objs K r h => by
  unfold set_Ora at h
  split at h
  · skip
    obtain ⟨t, h1, h2⟩ := ob_ok h
    refine anyOK_of mixed set_Orc_ok (fn := Tryd.f89) (b := (Tryd.f89).body.getD .skip) (by kernel_rfl) (by kernel_rfl) (by kernel_rfl) ((set_Or_eq _ _ _ _).trans h1) (m := 0) rfl (AllP.of (l' := []) (by kernel_rfl) trivial) fun v objs' hd => ?_
    unfold set_Ord at hd
    split at hd
    · skip
      cases hd
      exact h2
    · cases hd
  · exact ho _ _ _ _ _ h
noncomputable def set_Withc : Ctx := mkC 9 ((set_Oro (set_bito oNil))) [] lpNil
theorem set_Withc_ok : CtxOK Tryd.prog set_Withc := mkC_ok ((set_Oro_ok _ (set_bito_ok _ oNil_ok)))
noncomputable def set_Withd : V → List Obj → Option (Int × Int) := fun v objs => match v, objs with
  | V.agg [Seg.one [S.i IntKind.u64 y0, S.i IntKind.u64 y1]], [] => some (y0, y1)
  | _, _ => none
theorem set_With_eq (x0 x1 x2 : Int) : fnE set_Withc Tryd.f86 ([V.agg [Seg.one [S.i IntKind.u64 x0, S.i IntKind.u64 x1]], V.s (S.i IntKind.i64 x2)]) ([]) set_Withd = set_With x0 x1 x2 := by kernel_rfl
noncomputable def set_Witha {R : Type} (o : Orc) (vs : List V) (objs : List Obj) (K : Bool → V → List Obj → Option R) : Option R := match vs, objs with
  | [V.agg [Seg.one [S.i IntKind.u64 x0, S.i IntKind.u64 x1]], V.s (S.i IntKind.i64 x2)], [] => ob (set_With x0 x1 x2) fun z => K false (V.agg [Seg.one [S.i IntKind.u64 (z.1), S.i IntKind.u64 (z.2)]]) ([])
  | _, _ => o 86 vs objs K
noncomputable def set_Witho (o : Orc) : Orc := hook 86 (set_Witha o) o
theorem set_Witho_ok (o : Orc) (ho : OSound Tryd.prog o) : OSound Tryd.prog (set_Witho o) := hook_ok ho fun vs objs K r h => by
  unfold set_Witha at h
  split at h
  · skip
    obtain ⟨t, h1, h2⟩ := ob_ok h
    refine anyOK_of mixed set_Withc_ok (fn := Tryd.f86) (b := (Tryd.f86).body.getD .skip) (by kernel_rfl) (by kernel_rfl) (by kernel_rfl) ((set_With_eq _ _ _).trans h1) (m := 0) rfl (AllP.of (l' := []) (by kernel_rfl) trivial) fun v objs' hd => ?_
    unfold set_Withd at hd
    split at hd
    · skip
      cases hd
      exact h2
    · cases hd
  · exact ho _ _ _ _ _ h
noncomputable def board_Putc : Ctx := mkC 90 ((set_Witho (piece_Kindo (piece_Sideo (set_Withouto oNil))))) [] lpNil
theorem board_Putc_ok : CtxOK Tryd.prog board_Putc := mkC_ok ((set_Witho_ok _ (piece_Kindo_ok _ (piece_Sideo_ok _ (set_Withouto_ok _ oNil_ok)))))
noncomputable def board_Putd : V → List Obj → Option (List Int × List Int × Int × List (List Int) × List (List Int)) := fun v objs => match v, objs with
  | V.tup [], [Obj.cells 81 [Seg.arr IntKind.i8 81 y0, Seg.arr IntKind.i8 16 y1, Seg.one [S.i IntKind.i8 y2], Seg.rows [.i .u64, .i .u64] 32 y3, Seg.rows [.i .u64, .i .u64] 2 y4]] => some (y0, y1, y2, y3, y4)
  | _, _ => none
theorem board_Put_eq (x0 x1 : Int) (x2 x3 : List Int) (x4 : Int) (x5 x6 : List (List Int)) : fnE board_Putc Tryd.f53 ([V.s (S.ptr 0 0 none 0), V.s (S.i IntKind.i64 x0), V.s (S.i IntKind.i8 x1)]) ([Obj.cells 81 [Seg.arr IntKind.i8 81 x2, Seg.arr IntKind.i8 16 x3, Seg.one [S.i IntKind.i8 x4], Seg.rows [.i .u64, .i .u64] 32 x5, Seg.rows [.i .u64, .i .u64] 2 x6]]) board_Putd = board_Put x0 x1 x2 x3 x4 x5 x6 := by kernel_rfl
noncomputable def board_Puta {R : Type} (o : Orc) (vs : List V) (objs : List Obj) (K : Bool → V → List Obj → Option R) : Option R := match vs, objs with
  | [V.s (S.ptr 0 0 none 0), V.s (S.i IntKind.i64 x0), V.s (S.i IntKind.i8 x1)], [Obj.cells 81 [Seg.arr IntKind.i8 81 x2, Seg.arr IntKind.i8 16 x3, Seg.one [S.i IntKind.i8 x4], Seg.rows [.i .u64, .i .u64] 32 x5, Seg.rows [.i .u64, .i .u64] 2 x6]] => ob (board_Put x0 x1 x2 x3 x4 x5 x6) fun z => K false (V.tup []) ([Obj.cells 81 [Seg.arr IntKind.i8 81 (z.1), Seg.arr IntKind.i8 16 (z.2.1), Seg.one [S.i IntKind.i8 (z.2.2.1)], Seg.rows [.i .u64, .i .u64] 32 (z.2.2.2.1), Seg.rows [.i .u64, .i .u64] 2 (z.2.2.2.2)]])
  | _, _ => o 53 vs objs K
noncomputable def board_Puto (o : Orc) : Orc := hook 53 (board_Puta o) o
theorem board_Puto_ok (o : Orc) (ho : OSound Tryd.prog o) : OSound Tryd.prog (board_Puto o) := hook_ok ho fun vs objs K r h => by
  unfold board_Puta at h
  split at h
  · skip
    obtain ⟨t, h1, h2⟩ := ob_ok h
    refine anyOK_of mixed board_Putc_ok (fn := Tryd.f53) (b := (Tryd.f53).body.getD .skip) (by kernel_rfl) (by kernel_rfl) (by kernel_rfl) ((board_Put_eq _ _ _ _ _ _ _).trans h1) (m := 1) rfl (AllP.of (l' := []) (by kernel_rfl) trivial) fun v objs' hd => ?_
    unfold board_Putd at hd
    split at hd
    · skip
      cases hd
      exact h2
    · cases hd
  · exact ho _ _ _ _ _ h
noncomputable def board_Newl4d : Ex → List V → List Obj → Option (List Int × List Int × Int × List (List Int) × List (List Int)) := fun e vs objs => match e, vs, objs with
  | Ex.exit 0, [V.s (S.ptr 0 0 none 0)], [Obj.cells 81 [Seg.arr IntKind.i8 81 y0, Seg.arr IntKind.i8 16 y1, Seg.one [S.i IntKind.i8 y2], Seg.rows [.i .u64, .i .u64] 32 y3, Seg.rows [.i .u64, .i .u64] 2 y4]] => some (y0, y1, y2, y3, y4)
  | _, _, _ => none
noncomputable def board_Newp4 {R : Type} (vs : List V) (objs : List Obj) (K : Ex → List V → List Obj → Option R) : Option R := match vs, objs with
  | [V.s (S.ptr 0 0 none 0), V.agg [Seg.arr IntKind.i8 81 x0], V.s (S.i IntKind.i64 x1)], [Obj.cells 81 [Seg.arr IntKind.i8 81 x2, Seg.arr IntKind.i8 16 x3, Seg.one [S.i IntKind.i8 x4], Seg.rows [.i .u64, .i .u64] 32 x5, Seg.rows [.i .u64, .i .u64] 2 x6]] => ob (board_Newl4 many x0 x1 x2 x3 x4 x5 x6) fun z => K (Ex.exit 0) ([V.s (S.ptr 0 0 none 0)]) ([Obj.cells 81 [Seg.arr IntKind.i8 81 (z.1), Seg.arr IntKind.i8 16 (z.2.1), Seg.one [S.i IntKind.i8 (z.2.2.1)], Seg.rows [.i .u64, .i .u64] 32 (z.2.2.2.1), Seg.rows [.i .u64, .i .u64] 2 (z.2.2.2.2)]])
  | _, _ => none
noncomputable def board_Newlp : {R : Type} → Nat → List V → List Obj → (Ex → List V → List Obj → Option R) → Option R := fun q vs objs K => bif Nat.beq q 4 then board_Newp4 vs objs K else none
noncomputable def board_Newc : Ctx := mkC 32 ((board_Puto oNil)) [(4, [3, 21, 22], [3])] board_Newlp
theorem board_Newc_ok : CtxOK Tryd.prog board_Newc := mkC_ok ((board_Puto_ok _ oNil_ok))
noncomputable def board_Newl4r (f : Nat) (x0 : List Int) (x1 : Int) (x2 x3 : List Int) (x4 : Int) (x5 x6 : List (List Int)) : Option (List Int × List Int × Int × List (List Int) × List (List Int)) := lrun board_Newc 0 [3, 21, 22] [3] (loopOf Tryd.f13 4) f ([V.s (S.ptr 0 0 none 0), V.agg [Seg.arr IntKind.i8 81 x0], V.s (S.i IntKind.i64 x1)]) ([Obj.cells 81 [Seg.arr IntKind.i8 81 x2, Seg.arr IntKind.i8 16 x3, Seg.one [S.i IntKind.i8 x4], Seg.rows [.i .u64, .i .u64] 32 x5, Seg.rows [.i .u64, .i .u64] 2 x6]]) board_Newl4d
theorem board_Newl4_step (f : Nat) (x0 : List Int) (x1 : Int) (x2 x3 : List Int) (x4 : Int) (x5 x6 : List (List Int)) : board_Newl4r (f + 1) x0 x1 x2 x3 x4 x5 x6 = board_Newl4s (board_Newl4r f) x0 x1 x2 x3 x4 x5 x6 := by kernel_rfl
theorem board_Newl4_eq : ∀ f, board_Newl4r f = board_Newl4 f
  | 0 => rfl
  | f + 1 => by funext x0 x1 x2 x3 x4 x5 x6; rw [board_Newl4_step, board_Newl4_eq f]; rfl
theorem board_News4 : LoopSound Tryd.prog board_Newc 0 (loopOf Tryd.f13 4) :=
  loopSound_by mixed board_Newc_ok (AllP.of (l' := []) (by kernel_rfl) trivial) (q := 4) (kin := [3, 21, 22]) (kout := [3]) (by kernel_rfl) (by kernel_rfl) fun vs objs K r h => by
    replace h : board_Newp4 vs objs K = some r := h
    unfold board_Newp4 at h
    split at h
    · skip
      obtain ⟨t, h1, h2⟩ := ob_ok h
      rw [← board_Newl4_eq] at h1
      refine ⟨_, board_Newl4d, t, many, h1, fun e vs' objs' hd => ?_⟩
      unfold board_Newl4d at hd
      split at hd
      · skip
        cases hd
        exact h2
      · cases hd
    · cases h
noncomputable def board_Newd : V → List Obj → Option (List Int × List Int × Int × List (List Int) × List (List Int)) := fun v objs => match v, objs with
  | V.s (S.ptr 0 0 none 0), [Obj.cells 81 [Seg.arr IntKind.i8 81 y0, Seg.arr IntKind.i8 16 y1, Seg.one [S.i IntKind.i8 y2], Seg.rows [.i .u64, .i .u64] 32 y3, Seg.rows [.i .u64, .i .u64] 2 y4]] => some (y0, y1, y2, y3, y4)
  | _, _ => none
theorem board_New_eq (x0 x1 : List Int) (x2 : Int) : fnE board_Newc Tryd.f13 ([V.agg [Seg.arr IntKind.i8 81 x0, Seg.arr IntKind.i8 16 x1, Seg.one [S.i IntKind.i8 x2]]]) ([]) board_Newd = board_New x0 x1 x2 := by kernel_rfl
noncomputable def board_Newa {R : Type} (o : Orc) (vs : List V) (objs : List Obj) (K : Bool → V → List Obj → Option R) : Option R := match vs, objs with
  | [V.agg [Seg.arr IntKind.i8 81 x0, Seg.arr IntKind.i8 16 x1, Seg.one [S.i IntKind.i8 x2]]], [] => ob (board_New x0 x1 x2) fun z => K false (V.s (S.ptr 0 0 none 0)) ([Obj.cells 81 [Seg.arr IntKind.i8 81 (z.1), Seg.arr IntKind.i8 16 (z.2.1), Seg.one [S.i IntKind.i8 (z.2.2.1)], Seg.rows [.i .u64, .i .u64] 32 (z.2.2.2.1), Seg.rows [.i .u64, .i .u64] 2 (z.2.2.2.2)]])
  | _, _ => o 13 vs objs K
noncomputable def board_Newo (o : Orc) : Orc := hook 13 (board_Newa o) o
theorem board_Newo_ok (o : Orc) (ho : OSound Tryd.prog o) : OSound Tryd.prog (board_Newo o) := hook_ok ho fun vs objs K r h => by
  unfold board_Newa at h
  split at h
  · skip
    obtain ⟨t, h1, h2⟩ := ob_ok h
    refine anyOK_of mixed board_Newc_ok (fn := Tryd.f13) (b := (Tryd.f13).body.getD .skip) (by kernel_rfl) (by kernel_rfl) (by kernel_rfl) ((board_New_eq _ _ _).trans h1) (m := 0) rfl (AllP.of (l' := [loopOf Tryd.f13 4]) (by kernel_rfl) ⟨board_News4, trivial⟩) fun v objs' hd => ?_
    unfold board_Newd at hd
    split at hd
    · skip
      cases hd
      exact h2
    · cases hd
  · exact ho _ _ _ _ _ h
noncomputable def piece_Ofc : Ctx := mkC 28 (oNil) [] lpNil
theorem piece_Ofc_ok : CtxOK Tryd.prog piece_Ofc := mkC_ok (oNil_ok)
noncomputable def piece_Ofd : V → List Obj → Option (Int) := fun v objs => match v, objs with
  | V.s (S.i IntKind.i8 y0), [] => some (y0)
  | _, _ => none
theorem piece_Of_eq (x0 x1 : Int) : fnE piece_Ofc Tryd.f56 ([V.s (S.i IntKind.i64 x0), V.s (S.i IntKind.i64 x1)]) ([]) piece_Ofd = piece_Of x0 x1 := by kernel_rfl
noncomputable def piece_Ofa {R : Type} (o : Orc) (vs : List V) (objs : List Obj) (K : Bool → V → List Obj → Option R) : Option R := match vs, objs with
  | [V.s (S.i IntKind.i64 x0), V.s (S.i IntKind.i64 x1)], [] => ob (piece_Of x0 x1) fun y0 => K false (V.s (S.i IntKind.i8 y0)) ([])
  | _, _ => o 56 vs objs K
noncomputable def piece_Ofo (o : Orc) : Orc := hook 56 (piece_Ofa o) o
theorem piece_Ofo_ok (o : Orc) (ho : OSound Tryd.prog o) : OSound Tryd.prog (piece_Ofo o) := hook_ok ho fun vs objs K r h => by
  unfold piece_Ofa at h
  split at h
  · skip
    obtain ⟨t, h1, h2⟩ := ob_ok h
    refine anyOK_of mixed piece_Ofc_ok (fn := Tryd.f56) (b := (Tryd.f56).body.getD .skip) (by kernel_rfl) (by kernel_rfl) (by kernel_rfl) ((piece_Of_eq _ _).trans h1) (m := 0) rfl (AllP.of (l' := []) (by kernel_rfl) trivial) fun v objs' hd => ?_
    unfold piece_Ofd at hd
    split at hd
    · skip
      cases hd
      exact h2
    · cases hd
  · exact ho _ _ _ _ _ h
noncomputable def board_Ofc : Ctx := mkC 20 ((piece_Ofo oNil)) [] lpNil
theorem board_Ofc_ok : CtxOK Tryd.prog board_Ofc := mkC_ok ((piece_Ofo_ok _ oNil_ok))
noncomputable def board_Ofd : V → List Obj → Option (Int × Int) := fun v objs => match v, objs with
  | V.agg [Seg.one [S.i IntKind.u64 y0, S.i IntKind.u64 y1]], [] => some (y0, y1)
  | _, _ => none
theorem board_Of_eq (x0 x1 : Int) (x2 x3 : List Int) (x4 : Int) (x5 x6 : List (List Int)) : fnE board_Ofc Tryd.f83 ([V.s (S.ptr 0 0 none 0), V.s (S.i IntKind.i64 x0), V.s (S.i IntKind.i64 x1)]) ([Obj.rcells 81 [Seg.arr IntKind.i8 81 x2, Seg.arr IntKind.i8 16 x3, Seg.one [S.i IntKind.i8 x4], Seg.rows [.i .u64, .i .u64] 32 x5, Seg.rows [.i .u64, .i .u64] 2 x6]]) (pureD 1 board_Ofd) = board_Of x0 x1 x2 x3 x4 x5 x6 := by kernel_rfl
noncomputable def board_Ofa {R : Type} (o : Orc) (vs : List V) (objs : List Obj) (K : Bool → V → List Obj → Option R) : Option R := match vs, List.map Obj.toRO objs with
  | [V.s (S.ptr 0 0 none 0), V.s (S.i IntKind.i64 x0), V.s (S.i IntKind.i64 x1)], [Obj.rcells 81 [Seg.arr IntKind.i8 81 x2, Seg.arr IntKind.i8 16 x3, Seg.one [S.i IntKind.i8 x4], Seg.rows [.i .u64, .i .u64] 32 x5, Seg.rows [.i .u64, .i .u64] 2 x6]] => ob (board_Of x0 x1 x2 x3 x4 x5 x6) fun z => K true (V.agg [Seg.one [S.i IntKind.u64 (z.1), S.i IntKind.u64 (z.2)]]) ([])
  | _, _ => o 83 vs objs K
noncomputable def board_Ofo (o : Orc) : Orc := hook 83 (board_Ofa o) o
theorem board_Ofo_ok (o : Orc) (ho : OSound Tryd.prog o) : OSound Tryd.prog (board_Ofo o) := hook_ok ho fun vs objs K r h => by
  unfold board_Ofa at h
  split at h
  · skip
    have hq : List.map Obj.toRO objs = _ := (by rename_i hq; first | exact hq | assumption)
    obtain ⟨t, h1, h2⟩ := ob_ok h
    refine purOK_by mixed board_Ofc_ok (m := 1) (fn := Tryd.f83) (b := (Tryd.f83).body.getD .skip) (by kernel_rfl) (by kernel_rfl) (by kernel_rfl) hq (by kernel_rfl) (by kernel_rfl) (AllP.of (l' := []) (by kernel_rfl) trivial) ((board_Of_eq _ _ _ _ _ _ _).trans h1) fun v objs' hd => ?_
    unfold board_Ofd at hd
    split at hd
    · skip
      cases hd
      exact h2
    · cases hd
  · exact ho _ _ _ _ _ h
noncomputable def bits_TrailingZeros64c : Ctx := mkC 14 (oNil) [] lpNil
theorem bits_TrailingZeros64c_ok : CtxOK Tryd.prog bits_TrailingZeros64c := mkC_ok (oNil_ok)
noncomputable def bits_TrailingZeros64d : V → List Obj → Option (Int) := fun v objs => match v, objs with
  | V.s (S.i IntKind.i64 y0), [] => some (y0)
  | _, _ => none
theorem bits_TrailingZeros64_eqb (B : {R : Type} → Bool → Option R → Option R → Option R) (x0 : Int) : fnE { bits_TrailingZeros64c with brg := B } Tryd.f111 ([V.s (S.i IntKind.u64 x0)]) ([]) bits_TrailingZeros64d = bits_TrailingZeros64b B x0 := by kernel_rfl
theorem bits_TrailingZeros64_eq (x0 : Int) : fnE bits_TrailingZeros64c Tryd.f111 ([V.s (S.i IntKind.u64 x0)]) ([]) bits_TrailingZeros64d = bits_TrailingZeros64 x0 := bits_TrailingZeros64_eqb br x0
noncomputable def bits_TrailingZeros64a {R : Type} (o : Orc) (vs : List V) (objs : List Obj) (K : Bool → V → List Obj → Option R) : Option R := match vs, objs with
  | [V.s (S.i IntKind.u64 x0)], [] => ob (bits_TrailingZeros64 x0) fun y0 => K false (V.s (S.i IntKind.i64 y0)) ([])
  | _, _ => o 111 vs objs K
noncomputable def bits_TrailingZeros64o (o : Orc) : Orc := hook 111 (bits_TrailingZeros64a o) o
theorem bits_TrailingZeros64o_ok (o : Orc) (ho : OSound Tryd.prog o) : OSound Tryd.prog (bits_TrailingZeros64o o) := hook_ok ho fun vs objs K r h => by
  unfold bits_TrailingZeros64a at h
  split at h
  · skip
    obtain ⟨t, h1, h2⟩ := ob_ok h
    refine anyOK_of mixed bits_TrailingZeros64c_ok (fn := Tryd.f111) (b := (Tryd.f111).body.getD .skip) (by kernel_rfl) (by kernel_rfl) (by kernel_rfl) ((bits_TrailingZeros64_eq _).trans h1) (m := 0) rfl (AllP.of (l' := []) (by kernel_rfl) trivial) fun v objs' hd => ?_
    unfold bits_TrailingZeros64d at hd
    split at hd
    · skip
      cases hd
      exact h2
    · cases hd
  · exact ho _ _ _ _ _ h
noncomputable def set_Firstc : Ctx := mkC 18 ((bits_TrailingZeros64o oNil)) [] lpNil
theorem set_Firstc_ok : CtxOK Tryd.prog set_Firstc := mkC_ok ((bits_TrailingZeros64o_ok _ oNil_ok))
noncomputable def set_Firstd : V → List Obj → Option (Int) := fun v objs => match v, objs with
  | V.s (S.i IntKind.i64 y0), [] => some (y0)
  | _, _ => none
theorem set_First_eq (x0 x1 : Int) : fnE set_Firstc Tryd.f95 ([V.agg [Seg.one [S.i IntKind.u64 x0, S.i IntKind.u64 x1]]]) ([]) set_Firstd = set_First x0 x1 := by kernel_rfl
noncomputable def set_Firsta {R : Type} (o : Orc) (vs : List V) (objs : List Obj) (K : Bool → V → List Obj → Option R) : Option R := match vs, objs with
  | [V.agg [Seg.one [S.i IntKind.u64 x0, S.i IntKind.u64 x1]]], [] => ob (set_First x0 x1) fun y0 => K false (V.s (S.i IntKind.i64 y0)) ([])
  | _, _ => o 95 vs objs K
noncomputable def set_Firsto (o : Orc) : Orc := hook 95 (set_Firsta o) o
theorem set_Firsto_ok (o : Orc) (ho : OSound Tryd.prog o) : OSound Tryd.prog (set_Firsto o) := hook_ok ho fun vs objs K r h => by
  unfold set_Firsta at h
  split at h
  · skip
    obtain ⟨t, h1, h2⟩ := ob_ok h
    refine anyOK_of mixed set_Firstc_ok (fn := Tryd.f95) (b := (Tryd.f95).body.getD .skip) (by kernel_rfl) (by kernel_rfl) (by kernel_rfl) ((set_First_eq _ _).trans h1) (m := 0) rfl (AllP.of (l' := []) (by kernel_rfl) trivial) fun v objs' hd => ?_
    unfold set_Firstd at hd
    split at hd
    · skip
      cases hd
      exact h2
    · cases hd
  · exact ho _ _ _ _ _ h
noncomputable def board_Kingc : Ctx := mkC 9 ((set_Firsto (board_Ofo oNil))) [] lpNil
theorem board_Kingc_ok : CtxOK Tryd.prog board_Kingc := mkC_ok ((set_Firsto_ok _ (board_Ofo_ok _ oNil_ok)))
noncomputable def board_Kingd : V → List Obj → Option (Int) := fun v objs => match v, objs with
  | V.s (S.i IntKind.i64 y0), [] => some (y0)
  | _, _ => none
theorem board_King_eq (x0 : Int) (x1 x2 : List Int) (x3 : Int) (x4 x5 : List (List Int)) : fnE board_Kingc Tryd.f91 ([V.s (S.ptr 0 0 none 0), V.s (S.i IntKind.i64 x0)]) ([Obj.rcells 81 [Seg.arr IntKind.i8 81 x1, Seg.arr IntKind.i8 16 x2, Seg.one [S.i IntKind.i8 x3], Seg.rows [.i .u64, .i .u64] 32 x4, Seg.rows [.i .u64, .i .u64] 2 x5]]) (pureD 1 board_Kingd) = board_King x0 x1 x2 x3 x4 x5 := by kernel_rfl
noncomputable def board_Kinga {R : Type} (o : Orc) (vs : List V) (objs : List Obj) (K : Bool → V → List Obj → Option R) : Option R := match vs, List.map Obj.toRO objs with
  | [V.s (S.ptr 0 0 none 0), V.s (S.i IntKind.i64 x0)], [Obj.rcells 81 [Seg.arr IntKind.i8 81 x1, Seg.arr IntKind.i8 16 x2, Seg.one [S.i IntKind.i8 x3], Seg.rows [.i .u64, .i .u64] 32 x4, Seg.rows [.i .u64, .i .u64] 2 x5]] => ob (board_King x0 x1 x2 x3 x4 x5) fun y0 => K true (V.s (S.i IntKind.i64 y0)) ([])
  | _, _ => o 91 vs objs K
noncomputable def board_Kingo (o : Orc) : Orc := hook 91 (board_Kinga o) o
theorem board_Kingo_ok (o : Orc) (ho : OSound Tryd.prog o) : OSound Tryd.prog (board_Kingo o) := hook_ok ho fun vs objs K r h => by
  unfold board_Kinga at h
  split at h
  · skip
    have hq : List.map Obj.toRO objs = _ := (by rename_i hq; first | exact hq | assumption)
    obtain ⟨t, h1, h2⟩ := ob_ok h
    refine purOK_by mixed board_Kingc_ok (m := 1) (fn := Tryd.f91) (b := (Tryd.f91).body.getD .skip) (by kernel_rfl) (by kernel_rfl) (by kernel_rfl) hq (by kernel_rfl) (by kernel_rfl) (AllP.of (l' := []) (by kernel_rfl) trivial) ((board_King_eq _ _ _ _ _ _).trans h1) fun v objs' hd => ?_
    unfold board_Kingd at hd
    split at hd
    · skip
      cases hd
      exact h2
    · cases hd
  · exact ho _ _ _ _ _ h
noncomputable def board_Takenc : Ctx := mkC 14 ((set_Oro oNil)) [] lpNil
theorem board_Takenc_ok : CtxOK Tryd.prog board_Takenc := mkC_ok ((set_Oro_ok _ oNil_ok))
noncomputable def board_Takend : V → List Obj → Option (Int × Int) := fun v objs => match v, objs with
  | V.agg [Seg.one [S.i IntKind.u64 y0, S.i IntKind.u64 y1]], [] => some (y0, y1)
  | _, _ => none
theorem board_Taken_eq (x0 x1 : List Int) (x2 : Int) (x3 x4 : List (List Int)) : fnE board_Takenc Tryd.f37 ([V.s (S.ptr 0 0 none 0)]) ([Obj.rcells 81 [Seg.arr IntKind.i8 81 x0, Seg.arr IntKind.i8 16 x1, Seg.one [S.i IntKind.i8 x2], Seg.rows [.i .u64, .i .u64] 32 x3, Seg.rows [.i .u64, .i .u64] 2 x4]]) (pureD 1 board_Takend) = board_Taken x0 x1 x2 x3 x4 := by kernel_rfl
noncomputable def board_Takena {R : Type} (o : Orc) (vs : List V) (objs : List Obj) (K : Bool → V → List Obj → Option R) : Option R := match vs, List.map Obj.toRO objs with
  | [V.s (S.ptr 0 0 none 0)], [Obj.rcells 81 [Seg.arr IntKind.i8 81 x0, Seg.arr IntKind.i8 16 x1, Seg.one [S.i IntKind.i8 x2], Seg.rows [.i .u64, .i .u64] 32 x3, Seg.rows [.i .u64, .i .u64] 2 x4]] => ob (board_Taken x0 x1 x2 x3 x4) fun z => K true (V.agg [Seg.one [S.i IntKind.u64 (z.1), S.i IntKind.u64 (z.2)]]) ([])
  | _, _ => o 37 vs objs K
noncomputable def board_Takeno (o : Orc) : Orc := hook 37 (board_Takena o) o
theorem board_Takeno_ok (o : Orc) (ho : OSound Tryd.prog o) : OSound Tryd.prog (board_Takeno o) := hook_ok ho fun vs objs K r h => by
  unfold board_Takena at h
  split at h
  · skip
    have hq : List.map Obj.toRO objs = _ := (by rename_i hq; first | exact hq | assumption)
    obtain ⟨t, h1, h2⟩ := ob_ok h
    refine purOK_by mixed board_Takenc_ok (m := 1) (fn := Tryd.f37) (b := (Tryd.f37).body.getD .skip) (by kernel_rfl) (by kernel_rfl) (by kernel_rfl) hq (by kernel_rfl) (by kernel_rfl) (AllP.of (l' := []) (by kernel_rfl) trivial) ((board_Taken_eq _ _ _ _ _).trans h1) fun v objs' hd => ?_
    unfold board_Takend at hd
    split at hd
    · skip
      cases hd
      exact h2
    · cases hd
  · exact ho _ _ _ _ _ h
noncomputable def step_Dirsa (n : Nat) {R : Type} (o : Orc) (vs : List V) (objs : List Obj) (K : Bool → V → List Obj → Option R) : Option R := match vs, objs with
  | [V.s (S.i IntKind.i64 x0)], [] => ob (step_Dirs n x0) fun z => K false (V.s (S.sl 0 0 (z.1) true)) ([Obj.sli 119 false (Seg.rows [.i .i64, .i .i64] (z.2.1) (z.2.2))])
  | _, _ => o 123 vs objs K
noncomputable def step_Dirso (n : Nat) (o : Orc) : Orc := fun f vs objs K => bif Nat.beq f 123 then step_Dirsa n o vs objs K else o f vs objs K
noncomputable def step_Dirsoo (n : Nat) : Orc := step_Dirso n oNil
noncomputable def step_Dirsc (n : Nat) : Ctx := mkC 57 (step_Dirsoo n) [] lpNil
noncomputable def step_Dirsd : V → List Obj → Option (Nat × Nat × List (List Int)) := fun v objs => match v, objs with
  | V.s (S.sl 0 0 y0 true), [Obj.sli 119 false (Seg.rows [.i .i64, .i .i64] y1 y2)] => some (y0, y1, y2)
  | _, _ => none
theorem step_Dirs_eq (n : Nat) (x0 : Int) : fnE (step_Dirsc n) Tryd.f123 ([V.s (S.i IntKind.i64 x0)]) ([]) step_Dirsd = step_Dirs (n + 1) x0 := by kernel_rfl
theorem step_Dirs_up (n : Nat) (hc : CtxOK Tryd.prog (step_Dirsc n)) {vs : List V} {objs : List Obj} (x0 : Int) {R : Type} {K : Bool → V → List Obj → Option R} {r : R} (hv : vs = [V.s (S.i IntKind.i64 x0)]) (ho : objs = []) (h : ob (step_Dirs (n + 1) x0) (fun z => K false (V.s (S.sl 0 0 (z.1) true)) ([Obj.sli 119 false (Seg.rows [.i .i64, .i .i64] (z.2.1) (z.2.2))])) = some r) :
    ∃ p v objs', K p v objs' = some r ∧ AnyOK Tryd.prog 123 vs objs p v objs' := by
  subst hv
  subst ho
  obtain ⟨t, h1, h2⟩ := ob_ok h
  refine anyOK_by mixed hc (objs := []) (fn := Tryd.f123) (b := (Tryd.f123).body.getD .skip) (by kernel_rfl) (by kernel_rfl) (by kernel_rfl) (AllP.of (l' := []) (by kernel_rfl) trivial) ((step_Dirs_eq n x0).trans h1) fun v objs' hd => ?_
  unfold step_Dirsd at hd
  split at hd
  · skip
    cases hd
    exact h2
  · cases hd
theorem step_Dirso_ok : ∀ (n : Nat) (o : Orc) (ho : OSound Tryd.prog o), OSound Tryd.prog (step_Dirso n o) := by
  intro n
  induction n with
  | zero =>
    intro o ho R f vs objs K r h
    replace h : (bif Nat.beq f 123 then step_Dirsa 0 o vs objs K else o f vs objs K) = some r := h
    cases hf : Nat.beq f 123 with
    | false => rw [hf] at h; exact ho f vs objs K r h
    | true =>
      rw [hf] at h
      have e := Nat.eq_of_beq_eq_true hf
      subst e
      replace h : step_Dirsa 0 o vs objs K = some r := h
      unfold step_Dirsa at h
      split at h
      · skip
        cases h
      · exact ho _ _ _ _ _ h
  | succ n ih =>
    intro o ho R f vs objs K r h
    replace h : (bif Nat.beq f 123 then step_Dirsa (n + 1) o vs objs K else o f vs objs K) = some r := h
    cases hf : Nat.beq f 123 with
    | false => rw [hf] at h; exact ho f vs objs K r h
    | true =>
      rw [hf] at h
      have e := Nat.eq_of_beq_eq_true hf
      subst e
      replace h : step_Dirsa (n + 1) o vs objs K = some r := h
      unfold step_Dirsa at h
      split at h
      · skip
        exact step_Dirs_up n ⟨tab_ok, ih _ oNil_ok, eqs_ok, bytes_ok, fun _ _ _ => rfl⟩ _ rfl rfl h
      · exact ho _ _ _ _ _ h
noncomputable def step_Dir_Turnc : Ctx := mkC 15 (oNil) [] lpNil
theorem step_Dir_Turnc_ok : CtxOK Tryd.prog step_Dir_Turnc := mkC_ok (oNil_ok)
noncomputable def step_Dir_Turnd : V → List Obj → Option (Int × Int) := fun v objs => match v, objs with
  | V.agg [Seg.one [S.i IntKind.i64 y0, S.i IntKind.i64 y1]], [] => some (y0, y1)
  | _, _ => none
theorem step_Dir_Turn_eq (x0 x1 x2 : Int) : fnE step_Dir_Turnc Tryd.f115 ([V.agg [Seg.one [S.i IntKind.i64 x0, S.i IntKind.i64 x1]], V.s (S.i IntKind.i64 x2)]) ([]) step_Dir_Turnd = step_Dir_Turn x0 x1 x2 := by kernel_rfl
noncomputable def step_Dir_Turna {R : Type} (o : Orc) (vs : List V) (objs : List Obj) (K : Bool → V → List Obj → Option R) : Option R := match vs, objs with
  | [V.agg [Seg.one [S.i IntKind.i64 x0, S.i IntKind.i64 x1]], V.s (S.i IntKind.i64 x2)], [] => ob (step_Dir_Turn x0 x1 x2) fun z => K false (V.agg [Seg.one [S.i IntKind.i64 (z.1), S.i IntKind.i64 (z.2)]]) ([])
  | _, _ => o 115 vs objs K
noncomputable def step_Dir_Turno (o : Orc) : Orc := hook 115 (step_Dir_Turna o) o
theorem step_Dir_Turno_ok (o : Orc) (ho : OSound Tryd.prog o) : OSound Tryd.prog (step_Dir_Turno o) := hook_ok ho fun vs objs K r h => by
  unfold step_Dir_Turna at h
  split at h
  · skip
    obtain ⟨t, h1, h2⟩ := ob_ok h
    refine anyOK_of mixed step_Dir_Turnc_ok (fn := Tryd.f115) (b := (Tryd.f115).body.getD .skip) (by kernel_rfl) (by kernel_rfl) (by kernel_rfl) ((step_Dir_Turn_eq _ _ _).trans h1) (m := 0) rfl (AllP.of (l' := []) (by kernel_rfl) trivial) fun v objs' hd => ?_
    unfold step_Dir_Turnd at hd
    split at hd
    · skip
      cases hd
      exact h2
    · cases hd
  · exact ho _ _ _ _ _ h
noncomputable def set_Filec : Ctx := mkC 5 (oNil) [] lpNil
theorem set_Filec_ok : CtxOK Tryd.prog set_Filec := mkC_ok (oNil_ok)
noncomputable def set_Filed : V → List Obj → Option (Int) := fun v objs => match v, objs with
  | V.s (S.i IntKind.i64 y0), [] => some (y0)
  | _, _ => none
theorem set_File_eq (x0 : Int) : fnE set_Filec Tryd.f85 ([V.s (S.i IntKind.i64 x0)]) ([]) set_Filed = set_File x0 := by kernel_rfl
noncomputable def set_Filea {R : Type} (o : Orc) (vs : List V) (objs : List Obj) (K : Bool → V → List Obj → Option R) : Option R := match vs, objs with
  | [V.s (S.i IntKind.i64 x0)], [] => ob (set_File x0) fun y0 => K false (V.s (S.i IntKind.i64 y0)) ([])
  | _, _ => o 85 vs objs K
noncomputable def set_Fileo (o : Orc) : Orc := hook 85 (set_Filea o) o
theorem set_Fileo_ok (o : Orc) (ho : OSound Tryd.prog o) : OSound Tryd.prog (set_Fileo o) := hook_ok ho fun vs objs K r h => by
  unfold set_Filea at h
  split at h
  · skip
    obtain ⟨t, h1, h2⟩ := ob_ok h
    refine anyOK_of mixed set_Filec_ok (fn := Tryd.f85) (b := (Tryd.f85).body.getD .skip) (by kernel_rfl) (by kernel_rfl) (by kernel_rfl) ((set_File_eq _).trans h1) (m := 0) rfl (AllP.of (l' := []) (by kernel_rfl) trivial) fun v objs' hd => ?_
    unfold set_Filed at hd
    split at hd
    · skip
      cases hd
      exact h2
    · cases hd
  · exact ho _ _ _ _ _ h
noncomputable def set_Rankc : Ctx := mkC 5 (oNil) [] lpNil
theorem set_Rankc_ok : CtxOK Tryd.prog set_Rankc := mkC_ok (oNil_ok)
noncomputable def set_Rankd : V → List Obj → Option (Int) := fun v objs => match v, objs with
  | V.s (S.i IntKind.i64 y0), [] => some (y0)
  | _, _ => none
theorem set_Rank_eq (x0 : Int) : fnE set_Rankc Tryd.f122 ([V.s (S.i IntKind.i64 x0)]) ([]) set_Rankd = set_Rank x0 := by kernel_rfl
noncomputable def set_Ranka {R : Type} (o : Orc) (vs : List V) (objs : List Obj) (K : Bool → V → List Obj → Option R) : Option R := match vs, objs with
  | [V.s (S.i IntKind.i64 x0)], [] => ob (set_Rank x0) fun y0 => K false (V.s (S.i IntKind.i64 y0)) ([])
  | _, _ => o 122 vs objs K
noncomputable def set_Ranko (o : Orc) : Orc := hook 122 (set_Ranka o) o
theorem set_Ranko_ok (o : Orc) (ho : OSound Tryd.prog o) : OSound Tryd.prog (set_Ranko o) := hook_ok ho fun vs objs K r h => by
  unfold set_Ranka at h
  split at h
  · skip
    obtain ⟨t, h1, h2⟩ := ob_ok h
    refine anyOK_of mixed set_Rankc_ok (fn := Tryd.f122) (b := (Tryd.f122).body.getD .skip) (by kernel_rfl) (by kernel_rfl) (by kernel_rfl) ((set_Rank_eq _).trans h1) (m := 0) rfl (AllP.of (l' := []) (by kernel_rfl) trivial) fun v objs' hd => ?_
    unfold set_Rankd at hd
    split at hd
    · skip
      cases hd
      exact h2
    · cases hd
  · exact ho _ _ _ _ _ h
noncomputable def set_Squarec : Ctx := mkC 23 (oNil) [] lpNil
theorem set_Squarec_ok : CtxOK Tryd.prog set_Squarec := mkC_ok (oNil_ok)
noncomputable def set_Squared : V → List Obj → Option (Int) := fun v objs => match v, objs with
  | V.s (S.i IntKind.i64 y0), [] => some (y0)
  | _, _ => none
theorem set_Square_eq (x0 x1 : Int) : fnE set_Squarec Tryd.f55 ([V.s (S.i IntKind.i64 x0), V.s (S.i IntKind.i64 x1)]) ([]) set_Squared = set_Square x0 x1 := by kernel_rfl
noncomputable def set_Squarea {R : Type} (o : Orc) (vs : List V) (objs : List Obj) (K : Bool → V → List Obj → Option R) : Option R := match vs, objs with
  | [V.s (S.i IntKind.i64 x0), V.s (S.i IntKind.i64 x1)], [] => ob (set_Square x0 x1) fun y0 => K false (V.s (S.i IntKind.i64 y0)) ([])
  | _, _ => o 55 vs objs K
noncomputable def set_Squareo (o : Orc) : Orc := hook 55 (set_Squarea o) o
theorem set_Squareo_ok (o : Orc) (ho : OSound Tryd.prog o) : OSound Tryd.prog (set_Squareo o) := hook_ok ho fun vs objs K r h => by
  unfold set_Squarea at h
  split at h
  · skip
    obtain ⟨t, h1, h2⟩ := ob_ok h
    refine anyOK_of mixed set_Squarec_ok (fn := Tryd.f55) (b := (Tryd.f55).body.getD .skip) (by kernel_rfl) (by kernel_rfl) (by kernel_rfl) ((set_Square_eq _ _).trans h1) (m := 0) rfl (AllP.of (l' := []) (by kernel_rfl) trivial) fun v objs' hd => ?_
    unfold set_Squared at hd
    split at hd
    · skip
      cases hd
      exact h2
    · cases hd
  · exact ho _ _ _ _ _ h
noncomputable def step_Dir_Fromc : Ctx := mkC 42 ((set_Squareo (set_Ranko (set_Fileo oNil)))) [] lpNil
theorem step_Dir_Fromc_ok : CtxOK Tryd.prog step_Dir_Fromc := mkC_ok ((set_Squareo_ok _ (set_Ranko_ok _ (set_Fileo_ok _ oNil_ok))))
noncomputable def step_Dir_Fromd : V → List Obj → Option (Int) := fun v objs => match v, objs with
  | V.s (S.i IntKind.i64 y0), [] => some (y0)
  | _, _ => none
theorem step_Dir_From_eq (x0 x1 x2 : Int) : fnE step_Dir_Fromc Tryd.f124 ([V.agg [Seg.one [S.i IntKind.i64 x0, S.i IntKind.i64 x1]], V.s (S.i IntKind.i64 x2)]) ([]) step_Dir_Fromd = step_Dir_From x0 x1 x2 := by kernel_rfl
noncomputable def step_Dir_Froma {R : Type} (o : Orc) (vs : List V) (objs : List Obj) (K : Bool → V → List Obj → Option R) : Option R := match vs, objs with
  | [V.agg [Seg.one [S.i IntKind.i64 x0, S.i IntKind.i64 x1]], V.s (S.i IntKind.i64 x2)], [] => ob (step_Dir_From x0 x1 x2) fun y0 => K false (V.s (S.i IntKind.i64 y0)) ([])
  | _, _ => o 124 vs objs K
noncomputable def step_Dir_Fromo (o : Orc) : Orc := hook 124 (step_Dir_Froma o) o
theorem step_Dir_Fromo_ok (o : Orc) (ho : OSound Tryd.prog o) : OSound Tryd.prog (step_Dir_Fromo o) := hook_ok ho fun vs objs K r h => by
  unfold step_Dir_Froma at h
  split at h
  · skip
    obtain ⟨t, h1, h2⟩ := ob_ok h
    refine anyOK_of mixed step_Dir_Fromc_ok (fn := Tryd.f124) (b := (Tryd.f124).body.getD .skip) (by kernel_rfl) (by kernel_rfl) (by kernel_rfl) ((step_Dir_From_eq _ _ _).trans h1) (m := 0) rfl (AllP.of (l' := []) (by kernel_rfl) trivial) fun v objs' hd => ?_
    unfold step_Dir_Fromd at hd
    split at hd
    · skip
      cases hd
      exact h2
    · cases hd
  · exact ho _ _ _ _ _ h
noncomputable def step_Ofl3d : Ex → List V → List Obj → Option (Int × Int × Int × Int) := fun e vs objs => match e, vs, objs with
  | Ex.exit 0, [V.s (S.ptr 0 0 none 0), V.s (S.ptr 1 0 none 0)], [Obj.cells 57 [Seg.one [S.i IntKind.u64 y0, S.i IntKind.u64 y1]], Obj.cells 57 [Seg.one [S.i IntKind.u64 y2, S.i IntKind.u64 y3]]] => some (y0, y1, y2, y3)
  | _, _, _ => none
noncomputable def step_Ofp3 {R : Type} (vs : List V) (objs : List Obj) (K : Ex → List V → List Obj → Option R) : Option R := match vs, objs with
  | [V.s (S.i IntKind.i8 x0), V.s (S.i IntKind.i64 x1), V.s (S.ptr 0 0 none 0), V.s (S.ptr 1 0 none 0), V.s (S.sl 2 0 x2 true), V.s (S.i IntKind.i64 x3), V.s (S.i IntKind.i64 x4)], [Obj.cells 57 [Seg.one [S.i IntKind.u64 x5, S.i IntKind.u64 x6]], Obj.cells 57 [Seg.one [S.i IntKind.u64 x7, S.i IntKind.u64 x8]], Obj.sli 119 false (Seg.rows [.i .i64, .i .i64] x9 x10)] => ob (step_Ofl3 many x0 x1 x2 x3 x4 x5 x6 x7 x8 x9 x10) fun z => K (Ex.exit 0) ([V.s (S.ptr 0 0 none 0), V.s (S.ptr 1 0 none 0)]) ([Obj.cells 57 [Seg.one [S.i IntKind.u64 (z.1), S.i IntKind.u64 (z.2.1)]], Obj.cells 57 [Seg.one [S.i IntKind.u64 (z.2.2.1), S.i IntKind.u64 (z.2.2.2)]]])
  | _, _ => none
noncomputable def step_Oflp : {R : Type} → Nat → List V → List Obj → (Ex → List V → List Obj → Option R) → Option R := fun q vs objs K => bif Nat.beq q 3 then step_Ofp3 vs objs K else none
noncomputable def step_Ofc : Ctx := mkC 26 ((set_Witho (step_Dir_Fromo (step_Dir_Turno (piece_Sideo (step_Dirso many (piece_Kindo oNil))))))) [(3, [0, 1, 4, 5, 10, 11, 12], [4, 5])] step_Oflp
theorem step_Ofc_ok : CtxOK Tryd.prog step_Ofc := mkC_ok ((set_Witho_ok _ (step_Dir_Fromo_ok _ (step_Dir_Turno_ok _ (piece_Sideo_ok _ (step_Dirso_ok many _ (piece_Kindo_ok _ oNil_ok)))))))
noncomputable def step_Ofl3r (f : Nat) (x0 x1 : Int) (x2 : Nat) (x3 x4 : Int) (x5 x6 : Int) (x7 x8 : Int) (x9 : Nat) (x10 : List (List Int)) : Option (Int × Int × Int × Int) := lrun step_Ofc 0 [0, 1, 4, 5, 10, 11, 12] [4, 5] (loopOf Tryd.f112 3) f ([V.s (S.i IntKind.i8 x0), V.s (S.i IntKind.i64 x1), V.s (S.ptr 0 0 none 0), V.s (S.ptr 1 0 none 0), V.s (S.sl 2 0 x2 true), V.s (S.i IntKind.i64 x3), V.s (S.i IntKind.i64 x4)]) ([Obj.cells 57 [Seg.one [S.i IntKind.u64 x5, S.i IntKind.u64 x6]], Obj.cells 57 [Seg.one [S.i IntKind.u64 x7, S.i IntKind.u64 x8]], Obj.sli 119 false (Seg.rows [.i .i64, .i .i64] x9 x10)]) step_Ofl3d
theorem step_Ofl3_step (f : Nat) (x0 x1 : Int) (x2 : Nat) (x3 x4 : Int) (x5 x6 : Int) (x7 x8 : Int) (x9 : Nat) (x10 : List (List Int)) : step_Ofl3r (f + 1) x0 x1 x2 x3 x4 x5 x6 x7 x8 x9 x10 = step_Ofl3s (step_Ofl3r f) x0 x1 x2 x3 x4 x5 x6 x7 x8 x9 x10 := by kernel_rfl
theorem step_Ofl3_eq : ∀ f, step_Ofl3r f = step_Ofl3 f
  | 0 => rfl
  | f + 1 => by funext x0 x1 x2 x3 x4 x5 x6 x7 x8 x9 x10; rw [step_Ofl3_step, step_Ofl3_eq f]; rfl
theorem step_Ofs3 : LoopSound Tryd.prog step_Ofc 0 (loopOf Tryd.f112 3) :=
  loopSound_by mixed step_Ofc_ok (AllP.of (l' := []) (by kernel_rfl) trivial) (q := 3) (kin := [0, 1, 4, 5, 10, 11, 12]) (kout := [4, 5]) (by kernel_rfl) (by kernel_rfl) fun vs objs K r h => by
    replace h : step_Ofp3 vs objs K = some r := h
    unfold step_Ofp3 at h
    split at h
    · skip
      obtain ⟨t, h1, h2⟩ := ob_ok h
      rw [← step_Ofl3_eq] at h1
      refine ⟨_, step_Ofl3d, t, many, h1, fun e vs' objs' hd => ?_⟩
      unfold step_Ofl3d at hd
      split at hd
      · skip
        cases hd
        exact h2
      · cases hd
    · cases h
noncomputable def step_Ofd : V → List Obj → Option (Int × Int) := fun v objs => match v, objs with
  | V.agg [Seg.one [S.i IntKind.u64 y0, S.i IntKind.u64 y1]], [] => some (y0, y1)
  | _, _ => none
theorem step_Of_eq (x0 x1 : Int) : fnE step_Ofc Tryd.f112 ([V.s (S.i IntKind.i8 x0), V.s (S.i IntKind.i64 x1)]) ([]) step_Ofd = step_Of x0 x1 := by kernel_rfl
noncomputable def step_Ofa {R : Type} (o : Orc) (vs : List V) (objs : List Obj) (K : Bool → V → List Obj → Option R) : Option R := match vs, objs with
  | [V.s (S.i IntKind.i8 x0), V.s (S.i IntKind.i64 x1)], [] => ob (step_Of x0 x1) fun z => K false (V.agg [Seg.one [S.i IntKind.u64 (z.1), S.i IntKind.u64 (z.2)]]) ([])
  | _, _ => o 112 vs objs K
noncomputable def step_Ofo (o : Orc) : Orc := hook 112 (step_Ofa o) o
theorem step_Ofo_ok (o : Orc) (ho : OSound Tryd.prog o) : OSound Tryd.prog (step_Ofo o) := hook_ok ho fun vs objs K r h => by
  unfold step_Ofa at h
  split at h
  · skip
    obtain ⟨t, h1, h2⟩ := ob_ok h
    refine anyOK_of mixed step_Ofc_ok (fn := Tryd.f112) (b := (Tryd.f112).body.getD .skip) (by kernel_rfl) (by kernel_rfl) (by kernel_rfl) ((step_Of_eq _ _).trans h1) (m := 0) rfl (AllP.of (l' := [loopOf Tryd.f112 3]) (by kernel_rfl) ⟨step_Ofs3, trivial⟩) fun v objs' hd => ?_
    unfold step_Ofd at hd
    split at hd
    · skip
      cases hd
      exact h2
    · cases hd
  · exact ho _ _ _ _ _ h
noncomputable def ray_Dirsc : Ctx := mkC 24 (oNil) [] lpNil
theorem ray_Dirsc_ok : CtxOK Tryd.prog ray_Dirsc := mkC_ok (oNil_ok)
noncomputable def ray_Dirsd : V → List Obj → Option (Nat × Nat × List (List Int)) := fun v objs => match v, objs with
  | V.s (S.sl 0 0 y0 true), [Obj.sli 119 false (Seg.rows [.i .i64, .i .i64] y1 y2)] => some (y0, y1, y2)
  | _, _ => none
theorem ray_Dirs_eq (x0 : Int) : fnE ray_Dirsc Tryd.f113 ([V.s (S.i IntKind.i64 x0)]) ([]) ray_Dirsd = ray_Dirs x0 := by kernel_rfl
noncomputable def ray_Dirsa {R : Type} (o : Orc) (vs : List V) (objs : List Obj) (K : Bool → V → List Obj → Option R) : Option R := match vs, objs with
  | [V.s (S.i IntKind.i64 x0)], [] => ob (ray_Dirs x0) fun z => K false (V.s (S.sl 0 0 (z.1) true)) ([Obj.sli 119 false (Seg.rows [.i .i64, .i .i64] (z.2.1) (z.2.2))])
  | _, _ => o 113 vs objs K
noncomputable def ray_Dirso (o : Orc) : Orc := hook 113 (ray_Dirsa o) o
theorem ray_Dirso_ok (o : Orc) (ho : OSound Tryd.prog o) : OSound Tryd.prog (ray_Dirso o) := hook_ok ho fun vs objs K r h => by
  unfold ray_Dirsa at h
  split at h
  · skip
    obtain ⟨t, h1, h2⟩ := ob_ok h
    refine anyOK_of mixed ray_Dirsc_ok (fn := Tryd.f113) (b := (Tryd.f113).body.getD .skip) (by kernel_rfl) (by kernel_rfl) (by kernel_rfl) ((ray_Dirs_eq _).trans h1) (m := 0) rfl (AllP.of (l' := []) (by kernel_rfl) trivial) fun v objs' hd => ?_
    unfold ray_Dirsd at hd
    split at hd
    · skip
      cases hd
      exact h2
    · cases hd
  · exact ho _ _ _ _ _ h
noncomputable def set_Andc : Ctx := mkC 16 (oNil) [] lpNil
theorem set_Andc_ok : CtxOK Tryd.prog set_Andc := mkC_ok (oNil_ok)
noncomputable def set_Andd : V → List Obj → Option (Int × Int) := fun v objs => match v, objs with
  | V.agg [Seg.one [S.i IntKind.u64 y0, S.i IntKind.u64 y1]], [] => some (y0, y1)
  | _, _ => none
theorem set_And_eq (x0 x1 : Int) (x2 x3 : Int) : fnE set_Andc Tryd.f51 ([V.agg [Seg.one [S.i IntKind.u64 x0, S.i IntKind.u64 x1]], V.agg [Seg.one [S.i IntKind.u64 x2, S.i IntKind.u64 x3]]]) ([]) set_Andd = set_And x0 x1 x2 x3 := by kernel_rfl
noncomputable def set_Anda {R : Type} (o : Orc) (vs : List V) (objs : List Obj) (K : Bool → V → List Obj → Option R) : Option R := match vs, objs with
  | [V.agg [Seg.one [S.i IntKind.u64 x0, S.i IntKind.u64 x1]], V.agg [Seg.one [S.i IntKind.u64 x2, S.i IntKind.u64 x3]]], [] => ob (set_And x0 x1 x2 x3) fun z => K false (V.agg [Seg.one [S.i IntKind.u64 (z.1), S.i IntKind.u64 (z.2)]]) ([])
  | _, _ => o 51 vs objs K
noncomputable def set_Ando (o : Orc) : Orc := hook 51 (set_Anda o) o
theorem set_Ando_ok (o : Orc) (ho : OSound Tryd.prog o) : OSound Tryd.prog (set_Ando o) := hook_ok ho fun vs objs K r h => by
  unfold set_Anda at h
  split at h
  · skip
    obtain ⟨t, h1, h2⟩ := ob_ok h
    refine anyOK_of mixed set_Andc_ok (fn := Tryd.f51) (b := (Tryd.f51).body.getD .skip) (by kernel_rfl) (by kernel_rfl) (by kernel_rfl) ((set_And_eq _ _ _ _).trans h1) (m := 0) rfl (AllP.of (l' := []) (by kernel_rfl) trivial) fun v objs' hd => ?_
    unfold set_Andd at hd
    split at hd
    · skip
      cases hd
      exact h2
    · cases hd
  · exact ho _ _ _ _ _ h
noncomputable def set_Emptyc : Ctx := mkC 6 (oNil) [] lpNil
theorem set_Emptyc_ok : CtxOK Tryd.prog set_Emptyc := mkC_ok (oNil_ok)
noncomputable def set_Emptyd : V → List Obj → Option (Bool) := fun v objs => match v, objs with
  | V.s (S.b y0), [] => some (y0)
  | _, _ => none
theorem set_Empty_eq (x0 x1 : Int) : fnE set_Emptyc Tryd.f31 ([V.agg [Seg.one [S.i IntKind.u64 x0, S.i IntKind.u64 x1]]]) ([]) set_Emptyd = set_Empty x0 x1 := by kernel_rfl
noncomputable def set_Emptya {R : Type} (o : Orc) (vs : List V) (objs : List Obj) (K : Bool → V → List Obj → Option R) : Option R := match vs, objs with
  | [V.agg [Seg.one [S.i IntKind.u64 x0, S.i IntKind.u64 x1]]], [] => ob (set_Empty x0 x1) fun y0 => K false (V.s (S.b y0)) ([])
  | _, _ => o 31 vs objs K
noncomputable def set_Emptyo (o : Orc) : Orc := hook 31 (set_Emptya o) o
theorem set_Emptyo_ok (o : Orc) (ho : OSound Tryd.prog o) : OSound Tryd.prog (set_Emptyo o) := hook_ok ho fun vs objs K r h => by
  unfold set_Emptya at h
  split at h
  · skip
    obtain ⟨t, h1, h2⟩ := ob_ok h
    refine anyOK_of mixed set_Emptyc_ok (fn := Tryd.f31) (b := (Tryd.f31).body.getD .skip) (by kernel_rfl) (by kernel_rfl) (by kernel_rfl) ((set_Empty_eq _ _).trans h1) (m := 0) rfl (AllP.of (l' := []) (by kernel_rfl) trivial) fun v objs' hd => ?_
    unfold set_Emptyd at hd
    split at hd
    · skip
      cases hd
      exact h2
    · cases hd
  · exact ho _ _ _ _ _ h
noncomputable def set_Hasc : Ctx := mkC 11 ((set_Emptyo (set_Ando (set_bito oNil)))) [] lpNil
theorem set_Hasc_ok : CtxOK Tryd.prog set_Hasc := mkC_ok ((set_Emptyo_ok _ (set_Ando_ok _ (set_bito_ok _ oNil_ok))))
noncomputable def set_Hasd : V → List Obj → Option (Bool) := fun v objs => match v, objs with
  | V.s (S.b y0), [] => some (y0)
  | _, _ => none
theorem set_Has_eq (x0 x1 x2 : Int) : fnE set_Hasc Tryd.f32 ([V.agg [Seg.one [S.i IntKind.u64 x0, S.i IntKind.u64 x1]], V.s (S.i IntKind.i64 x2)]) ([]) set_Hasd = set_Has x0 x1 x2 := by kernel_rfl
noncomputable def set_Hasa {R : Type} (o : Orc) (vs : List V) (objs : List Obj) (K : Bool → V → List Obj → Option R) : Option R := match vs, objs with
  | [V.agg [Seg.one [S.i IntKind.u64 x0, S.i IntKind.u64 x1]], V.s (S.i IntKind.i64 x2)], [] => ob (set_Has x0 x1 x2) fun y0 => K false (V.s (S.b y0)) ([])
  | _, _ => o 32 vs objs K
noncomputable def set_Haso (o : Orc) : Orc := hook 32 (set_Hasa o) o
theorem set_Haso_ok (o : Orc) (ho : OSound Tryd.prog o) : OSound Tryd.prog (set_Haso o) := hook_ok ho fun vs objs K r h => by
  unfold set_Hasa at h
  split at h
  · skip
    obtain ⟨t, h1, h2⟩ := ob_ok h
    refine anyOK_of mixed set_Hasc_ok (fn := Tryd.f32) (b := (Tryd.f32).body.getD .skip) (by kernel_rfl) (by kernel_rfl) (by kernel_rfl) ((set_Has_eq _ _ _).trans h1) (m := 0) rfl (AllP.of (l' := []) (by kernel_rfl) trivial) fun v objs' hd => ?_
    unfold set_Hasd at hd
    split at hd
    · skip
      cases hd
      exact h2
    · cases hd
  · exact ho _ _ _ _ _ h
noncomputable def ray_Wayl5d : Ex → List V → List Obj → Option (Int × Int × Int × Int) := fun e vs objs => match e, vs, objs with
  | Ex.exit 0, [V.s (S.ptr 0 0 none 0), V.s (S.ptr 1 0 none 0)], [Obj.cells 57 [Seg.one [S.i IntKind.u64 y0, S.i IntKind.u64 y1]], Obj.cells 57 [Seg.one [S.i IntKind.u64 y2, S.i IntKind.u64 y3]]] => some (y0, y1, y2, y3)
  | _, _, _ => none
noncomputable def ray_Wayp5 {R : Type} (vs : List V) (objs : List Obj) (K : Ex → List V → List Obj → Option R) : Option R := match vs, objs with
  | [V.s (S.i IntKind.i64 x0), V.s (S.ptr 0 0 none 0), V.s (S.ptr 1 0 none 0), V.s (S.ptr 2 0 none 0), V.s (S.ptr 3 0 none 0)], [Obj.cells 119 [Seg.one [S.i IntKind.i64 x1, S.i IntKind.i64 x2]], Obj.cells 57 [Seg.one [S.i IntKind.u64 x3, S.i IntKind.u64 x4]], Obj.cells 57 [Seg.one [S.i IntKind.u64 x5, S.i IntKind.u64 x6]], Obj.cells 57 [Seg.one [S.i IntKind.u64 x7, S.i IntKind.u64 x8]]] => ob (ray_Wayl5 many x0 x1 x2 x3 x4 x5 x6 x7 x8) fun z => K (Ex.exit 0) ([V.s (S.ptr 0 0 none 0), V.s (S.ptr 1 0 none 0)]) ([Obj.cells 57 [Seg.one [S.i IntKind.u64 (z.1), S.i IntKind.u64 (z.2.1)]], Obj.cells 57 [Seg.one [S.i IntKind.u64 (z.2.2.1), S.i IntKind.u64 (z.2.2.2)]]])
  | _, _ => none
noncomputable def ray_Waylp : {R : Type} → Nat → List V → List Obj → (Ex → List V → List Obj → Option R) → Option R := fun q vs objs K => bif Nat.beq q 5 then ray_Wayp5 vs objs K else none
noncomputable def ray_Wayc : Ctx := mkC 27 ((set_Haso (set_Witho (step_Dir_Fromo oNil)))) [(5, [0, 4, 5, 6, 7], [6, 7])] ray_Waylp
theorem ray_Wayc_ok : CtxOK Tryd.prog ray_Wayc := mkC_ok ((set_Haso_ok _ (set_Witho_ok _ (step_Dir_Fromo_ok _ oNil_ok))))
noncomputable def ray_Wayl5r (f : Nat) (x0 x1 : Int) (x2 x3 : Int) (x4 x5 : Int) (x6 x7 x8 : Int) : Option (Int × Int × Int × Int) := lrun ray_Wayc 0 [0, 4, 5, 6, 7] [6, 7] (loopOf Tryd.f114 5) f ([V.s (S.i IntKind.i64 x0), V.s (S.ptr 0 0 none 0), V.s (S.ptr 1 0 none 0), V.s (S.ptr 2 0 none 0), V.s (S.ptr 3 0 none 0)]) ([Obj.cells 119 [Seg.one [S.i IntKind.i64 x1, S.i IntKind.i64 x2]], Obj.cells 57 [Seg.one [S.i IntKind.u64 x3, S.i IntKind.u64 x4]], Obj.cells 57 [Seg.one [S.i IntKind.u64 x5, S.i IntKind.u64 x6]], Obj.cells 57 [Seg.one [S.i IntKind.u64 x7, S.i IntKind.u64 x8]]]) ray_Wayl5d
theorem ray_Wayl5_step (f : Nat) (x0 x1 : Int) (x2 x3 : Int) (x4 x5 : Int) (x6 x7 x8 : Int) : ray_Wayl5r (f + 1) x0 x1 x2 x3 x4 x5 x6 x7 x8 = ray_Wayl5s (ray_Wayl5r f) x0 x1 x2 x3 x4 x5 x6 x7 x8 := by kernel_rfl
theorem ray_Wayl5_eq : ∀ f, ray_Wayl5r f = ray_Wayl5 f
  | 0 => rfl
  | f + 1 => by funext x0 x1 x2 x3 x4 x5 x6 x7 x8; rw [ray_Wayl5_step, ray_Wayl5_eq f]; rfl
theorem ray_Ways5 : LoopSound Tryd.prog ray_Wayc 0 (loopOf Tryd.f114 5) :=
  loopSound_by mixed ray_Wayc_ok (AllP.of (l' := []) (by kernel_rfl) trivial) (q := 5) (kin := [0, 4, 5, 6, 7]) (kout := [6, 7]) (by kernel_rfl) (by kernel_rfl) fun vs objs K r h => by
    replace h : ray_Wayp5 vs objs K = some r := h
    unfold ray_Wayp5 at h
    split at h
    · skip
      obtain ⟨t, h1, h2⟩ := ob_ok h
      rw [← ray_Wayl5_eq] at h1
      refine ⟨_, ray_Wayl5d, t, many, h1, fun e vs' objs' hd => ?_⟩
      unfold ray_Wayl5d at hd
      split at hd
      · skip
        cases hd
        exact h2
      · cases hd
    · cases h
noncomputable def ray_Wayd : V → List Obj → Option (Int × Int) := fun v objs => match v, objs with
  | V.agg [Seg.one [S.i IntKind.u64 y0, S.i IntKind.u64 y1]], [] => some (y0, y1)
  | _, _ => none
theorem ray_Way_eq (x0 x1 : Int) (x2 x3 x4 : Int) : fnE ray_Wayc Tryd.f114 ([V.s (S.i IntKind.i64 x0), V.agg [Seg.one [S.i IntKind.i64 x1, S.i IntKind.i64 x2]], V.agg [Seg.one [S.i IntKind.u64 x3, S.i IntKind.u64 x4]]]) ([]) ray_Wayd = ray_Way x0 x1 x2 x3 x4 := by kernel_rfl
noncomputable def ray_Waya {R : Type} (o : Orc) (vs : List V) (objs : List Obj) (K : Bool → V → List Obj → Option R) : Option R := match vs, objs with
  | [V.s (S.i IntKind.i64 x0), V.agg [Seg.one [S.i IntKind.i64 x1, S.i IntKind.i64 x2]], V.agg [Seg.one [S.i IntKind.u64 x3, S.i IntKind.u64 x4]]], [] => ob (ray_Way x0 x1 x2 x3 x4) fun z => K false (V.agg [Seg.one [S.i IntKind.u64 (z.1), S.i IntKind.u64 (z.2)]]) ([])
  | _, _ => o 114 vs objs K
noncomputable def ray_Wayo (o : Orc) : Orc := hook 114 (ray_Waya o) o
theorem ray_Wayo_ok (o : Orc) (ho : OSound Tryd.prog o) : OSound Tryd.prog (ray_Wayo o) := hook_ok ho fun vs objs K r h => by
  unfold ray_Waya at h
  split at h
  · skip
    obtain ⟨t, h1, h2⟩ := ob_ok h
    refine anyOK_of mixed ray_Wayc_ok (fn := Tryd.f114) (b := (Tryd.f114).body.getD .skip) (by kernel_rfl) (by kernel_rfl) (by kernel_rfl) ((ray_Way_eq _ _ _ _ _).trans h1) (m := 0) rfl (AllP.of (l' := [loopOf Tryd.f114 5]) (by kernel_rfl) ⟨ray_Ways5, trivial⟩) fun v objs' hd => ?_
    unfold ray_Wayd at hd
    split at hd
    · skip
      cases hd
      exact h2
    · cases hd
  · exact ho _ _ _ _ _ h
noncomputable def ray_Ofl3d : Ex → List V → List Obj → Option (Int × Int × Int × Int) := fun e vs objs => match e, vs, objs with
  | Ex.exit 0, [V.s (S.ptr 0 0 none 0), V.s (S.ptr 1 0 none 0)], [Obj.cells 57 [Seg.one [S.i IntKind.u64 y0, S.i IntKind.u64 y1]], Obj.cells 57 [Seg.one [S.i IntKind.u64 y2, S.i IntKind.u64 y3]]] => some (y0, y1, y2, y3)
  | _, _, _ => none
noncomputable def ray_Ofp3 {R : Type} (vs : List V) (objs : List Obj) (K : Ex → List V → List Obj → Option R) : Option R := match vs, objs with
  | [V.s (S.i IntKind.i8 x0), V.s (S.i IntKind.i64 x1), V.s (S.ptr 0 0 none 0), V.s (S.ptr 1 0 none 0), V.s (S.ptr 2 0 none 0), V.s (S.sl 3 0 x2 true), V.s (S.i IntKind.i64 x3), V.s (S.i IntKind.i64 x4)], [Obj.cells 57 [Seg.one [S.i IntKind.u64 x5, S.i IntKind.u64 x6]], Obj.cells 57 [Seg.one [S.i IntKind.u64 x7, S.i IntKind.u64 x8]], Obj.cells 57 [Seg.one [S.i IntKind.u64 x9, S.i IntKind.u64 x10]], Obj.sli 119 false (Seg.rows [.i .i64, .i .i64] x11 x12)] => ob (ray_Ofl3 many x0 x1 x2 x3 x4 x5 x6 x7 x8 x9 x10 x11 x12) fun z => K (Ex.exit 0) ([V.s (S.ptr 0 0 none 0), V.s (S.ptr 1 0 none 0)]) ([Obj.cells 57 [Seg.one [S.i IntKind.u64 (z.1), S.i IntKind.u64 (z.2.1)]], Obj.cells 57 [Seg.one [S.i IntKind.u64 (z.2.2.1), S.i IntKind.u64 (z.2.2.2)]]])
  | _, _ => none
noncomputable def ray_Oflp : {R : Type} → Nat → List V → List Obj → (Ex → List V → List Obj → Option R) → Option R := fun q vs objs K => bif Nat.beq q 3 then ray_Ofp3 vs objs K else none
noncomputable def ray_Ofc : Ctx := mkC 32 ((set_Oro (ray_Wayo (step_Dir_Turno (piece_Sideo (ray_Dirso (piece_Kindo (step_Ofo oNil)))))))) [(3, [0, 1, 5, 6, 7, 15, 16, 17], [6, 7])] ray_Oflp
theorem ray_Ofc_ok : CtxOK Tryd.prog ray_Ofc := mkC_ok ((set_Oro_ok _ (ray_Wayo_ok _ (step_Dir_Turno_ok _ (piece_Sideo_ok _ (ray_Dirso_ok _ (piece_Kindo_ok _ (step_Ofo_ok _ oNil_ok))))))))
noncomputable def ray_Ofl3r (f : Nat) (x0 x1 : Int) (x2 : Nat) (x3 x4 : Int) (x5 x6 : Int) (x7 x8 : Int) (x9 x10 : Int) (x11 : Nat) (x12 : List (List Int)) : Option (Int × Int × Int × Int) := lrun ray_Ofc 0 [0, 1, 5, 6, 7, 15, 16, 17] [6, 7] (loopOf Tryd.f93 3) f ([V.s (S.i IntKind.i8 x0), V.s (S.i IntKind.i64 x1), V.s (S.ptr 0 0 none 0), V.s (S.ptr 1 0 none 0), V.s (S.ptr 2 0 none 0), V.s (S.sl 3 0 x2 true), V.s (S.i IntKind.i64 x3), V.s (S.i IntKind.i64 x4)]) ([Obj.cells 57 [Seg.one [S.i IntKind.u64 x5, S.i IntKind.u64 x6]], Obj.cells 57 [Seg.one [S.i IntKind.u64 x7, S.i IntKind.u64 x8]], Obj.cells 57 [Seg.one [S.i IntKind.u64 x9, S.i IntKind.u64 x10]], Obj.sli 119 false (Seg.rows [.i .i64, .i .i64] x11 x12)]) ray_Ofl3d
theorem ray_Ofl3_step (f : Nat) (x0 x1 : Int) (x2 : Nat) (x3 x4 : Int) (x5 x6 : Int) (x7 x8 : Int) (x9 x10 : Int) (x11 : Nat) (x12 : List (List Int)) : ray_Ofl3r (f + 1) x0 x1 x2 x3 x4 x5 x6 x7 x8 x9 x10 x11 x12 = ray_Ofl3s (ray_Ofl3r f) x0 x1 x2 x3 x4 x5 x6 x7 x8 x9 x10 x11 x12 := by kernel_rfl
theorem ray_Ofl3_eq : ∀ f, ray_Ofl3r f = ray_Ofl3 f
  | 0 => rfl
  | f + 1 => by funext x0 x1 x2 x3 x4 x5 x6 x7 x8 x9 x10 x11 x12; rw [ray_Ofl3_step, ray_Ofl3_eq f]; rfl
theorem ray_Ofs3 : LoopSound Tryd.prog ray_Ofc 0 (loopOf Tryd.f93 3) :=
  loopSound_by mixed ray_Ofc_ok (AllP.of (l' := []) (by kernel_rfl) trivial) (q := 3) (kin := [0, 1, 5, 6, 7, 15, 16, 17]) (kout := [6, 7]) (by kernel_rfl) (by kernel_rfl) fun vs objs K r h => by
    replace h : ray_Ofp3 vs objs K = some r := h
    unfold ray_Ofp3 at h
    split at h
    · skip
      obtain ⟨t, h1, h2⟩ := ob_ok h
      rw [← ray_Ofl3_eq] at h1
      refine ⟨_, ray_Ofl3d, t, many, h1, fun e vs' objs' hd => ?_⟩
      unfold ray_Ofl3d at hd
      split at hd
      · skip
        cases hd
        exact h2
      · cases hd
    · cases h
noncomputable def ray_Ofd : V → List Obj → Option (Int × Int) := fun v objs => match v, objs with
  | V.agg [Seg.one [S.i IntKind.u64 y0, S.i IntKind.u64 y1]], [] => some (y0, y1)
  | _, _ => none
theorem ray_Of_eq (x0 x1 : Int) (x2 x3 : Int) : fnE ray_Ofc Tryd.f93 ([V.s (S.i IntKind.i8 x0), V.s (S.i IntKind.i64 x1), V.agg [Seg.one [S.i IntKind.u64 x2, S.i IntKind.u64 x3]]]) ([]) ray_Ofd = ray_Of x0 x1 x2 x3 := by kernel_rfl
noncomputable def ray_Ofa {R : Type} (o : Orc) (vs : List V) (objs : List Obj) (K : Bool → V → List Obj → Option R) : Option R := match vs, objs with
  | [V.s (S.i IntKind.i8 x0), V.s (S.i IntKind.i64 x1), V.agg [Seg.one [S.i IntKind.u64 x2, S.i IntKind.u64 x3]]], [] => ob (ray_Of x0 x1 x2 x3) fun z => K false (V.agg [Seg.one [S.i IntKind.u64 (z.1), S.i IntKind.u64 (z.2)]]) ([])
  | _, _ => o 93 vs objs K
noncomputable def ray_Ofo (o : Orc) : Orc := hook 93 (ray_Ofa o) o
theorem ray_Ofo_ok (o : Orc) (ho : OSound Tryd.prog o) : OSound Tryd.prog (ray_Ofo o) := hook_ok ho fun vs objs K r h => by
  unfold ray_Ofa at h
  split at h
  · skip
    obtain ⟨t, h1, h2⟩ := ob_ok h
    refine anyOK_of mixed ray_Ofc_ok (fn := Tryd.f93) (b := (Tryd.f93).body.getD .skip) (by kernel_rfl) (by kernel_rfl) (by kernel_rfl) ((ray_Of_eq _ _ _ _).trans h1) (m := 0) rfl (AllP.of (l' := [loopOf Tryd.f93 3]) (by kernel_rfl) ⟨ray_Ofs3, trivial⟩) fun v objs' hd => ?_
    unfold ray_Ofd at hd
    split at hd
    · skip
      cases hd
      exact h2
    · cases hd
  · exact ho _ _ _ _ _ h
noncomputable def attack_Onl5d : Ex → List V → List Obj → Option (List Int × List Int × Int × List (List Int) × List (List Int) × Int × Int × Int × Int) := fun e vs objs => match e, vs, objs with
  | Ex.exit 0, [V.s (S.ptr 1 0 none 0), V.s (S.ptr 2 0 none 0)], [Obj.rcells 81 [Seg.arr IntKind.i8 81 y0, Seg.arr IntKind.i8 16 y1, Seg.one [S.i IntKind.i8 y2], Seg.rows [.i .u64, .i .u64] 32 y3, Seg.rows [.i .u64, .i .u64] 2 y4], Obj.cells 57 [Seg.one [S.i IntKind.u64 y5, S.i IntKind.u64 y6]], Obj.cells 57 [Seg.one [S.i IntKind.u64 y7, S.i IntKind.u64 y8]]] => some (y0, y1, y2, y3, y4, y5, y6, y7, y8)
  | _, _, _ => none
noncomputable def attack_Onp5 {R : Type} (vs : List V) (objs : List Obj) (K : Ex → List V → List Obj → Option R) : Option R := match vs, objs with
  | [V.s (S.ptr 0 0 none 0), V.s (S.i IntKind.i64 x0), V.s (S.i IntKind.i64 x1), V.s (S.ptr 1 0 none 0), V.s (S.ptr 2 0 none 0), V.s (S.ptr 3 0 none 0), V.s (S.i IntKind.i64 x2)], [Obj.rcells 81 [Seg.arr IntKind.i8 81 x3, Seg.arr IntKind.i8 16 x4, Seg.one [S.i IntKind.i8 x5], Seg.rows [.i .u64, .i .u64] 32 x6, Seg.rows [.i .u64, .i .u64] 2 x7], Obj.cells 57 [Seg.one [S.i IntKind.u64 x8, S.i IntKind.u64 x9]], Obj.cells 57 [Seg.one [S.i IntKind.u64 x10, S.i IntKind.u64 x11]], Obj.cells 57 [Seg.one [S.i IntKind.u64 x12, S.i IntKind.u64 x13]]] => ob (attack_Onl5 many x0 x1 x2 x3 x4 x5 x6 x7 x8 x9 x10 x11 x12 x13) fun z => K (Ex.exit 0) ([V.s (S.ptr 1 0 none 0), V.s (S.ptr 2 0 none 0)]) ([Obj.rcells 81 [Seg.arr IntKind.i8 81 (z.1), Seg.arr IntKind.i8 16 (z.2.1), Seg.one [S.i IntKind.i8 (z.2.2.1)], Seg.rows [.i .u64, .i .u64] 32 (z.2.2.2.1), Seg.rows [.i .u64, .i .u64] 2 (z.2.2.2.2.1)], Obj.cells 57 [Seg.one [S.i IntKind.u64 (z.2.2.2.2.2.1), S.i IntKind.u64 (z.2.2.2.2.2.2.1)]], Obj.cells 57 [Seg.one [S.i IntKind.u64 (z.2.2.2.2.2.2.2.1), S.i IntKind.u64 (z.2.2.2.2.2.2.2.2)]]])
  | _, _ => none
noncomputable def attack_Onlp : {R : Type} → Nat → List V → List Obj → (Ex → List V → List Obj → Option R) → Option R := fun q vs objs K => bif Nat.beq q 5 then attack_Onp5 vs objs K else none
noncomputable def attack_Onc : Ctx := mkC 49 ((set_Oro (set_Ando (board_Ofo (ray_Ofo (piece_Ofo oNil)))))) [(5, [0, 1, 2, 7, 8, 9, 10], [8, 9])] attack_Onlp
theorem attack_Onc_ok : CtxOK Tryd.prog attack_Onc := mkC_ok ((set_Oro_ok _ (set_Ando_ok _ (board_Ofo_ok _ (ray_Ofo_ok _ (piece_Ofo_ok _ oNil_ok))))))
noncomputable def attack_Onl5r (f : Nat) (x0 x1 x2 : Int) (x3 x4 : List Int) (x5 : Int) (x6 x7 : List (List Int)) (x8 x9 : Int) (x10 x11 : Int) (x12 x13 : Int) : Option (List Int × List Int × Int × List (List Int) × List (List Int) × Int × Int × Int × Int) := lrun attack_Onc 1 [0, 1, 2, 7, 8, 9, 10] [8, 9] (loopOf Tryd.f90 5) f ([V.s (S.ptr 0 0 none 0), V.s (S.i IntKind.i64 x0), V.s (S.i IntKind.i64 x1), V.s (S.ptr 1 0 none 0), V.s (S.ptr 2 0 none 0), V.s (S.ptr 3 0 none 0), V.s (S.i IntKind.i64 x2)]) ([Obj.rcells 81 [Seg.arr IntKind.i8 81 x3, Seg.arr IntKind.i8 16 x4, Seg.one [S.i IntKind.i8 x5], Seg.rows [.i .u64, .i .u64] 32 x6, Seg.rows [.i .u64, .i .u64] 2 x7], Obj.cells 57 [Seg.one [S.i IntKind.u64 x8, S.i IntKind.u64 x9]], Obj.cells 57 [Seg.one [S.i IntKind.u64 x10, S.i IntKind.u64 x11]], Obj.cells 57 [Seg.one [S.i IntKind.u64 x12, S.i IntKind.u64 x13]]]) attack_Onl5d
theorem attack_Onl5_step (f : Nat) (x0 x1 x2 : Int) (x3 x4 : List Int) (x5 : Int) (x6 x7 : List (List Int)) (x8 x9 : Int) (x10 x11 : Int) (x12 x13 : Int) : attack_Onl5r (f + 1) x0 x1 x2 x3 x4 x5 x6 x7 x8 x9 x10 x11 x12 x13 = attack_Onl5s (attack_Onl5r f) x0 x1 x2 x3 x4 x5 x6 x7 x8 x9 x10 x11 x12 x13 := by kernel_rfl
theorem attack_Onl5_eq : ∀ f, attack_Onl5r f = attack_Onl5 f
  | 0 => rfl
  | f + 1 => by funext x0 x1 x2 x3 x4 x5 x6 x7 x8 x9 x10 x11 x12 x13; rw [attack_Onl5_step, attack_Onl5_eq f]; rfl
theorem attack_Ons5 : LoopSound Tryd.prog attack_Onc 1 (loopOf Tryd.f90 5) :=
  loopSound_by mixed attack_Onc_ok (AllP.of (l' := []) (by kernel_rfl) trivial) (q := 5) (kin := [0, 1, 2, 7, 8, 9, 10]) (kout := [8, 9]) (by kernel_rfl) (by kernel_rfl) fun vs objs K r h => by
    replace h : attack_Onp5 vs objs K = some r := h
    unfold attack_Onp5 at h
    split at h
    · skip
      obtain ⟨t, h1, h2⟩ := ob_ok h
      rw [← attack_Onl5_eq] at h1
      refine ⟨_, attack_Onl5d, t, many, h1, fun e vs' objs' hd => ?_⟩
      unfold attack_Onl5d at hd
      split at hd
      · skip
        cases hd
        exact h2
      · cases hd
    · cases h
noncomputable def attack_Ond : V → List Obj → Option (Int × Int) := fun v objs => match v, objs with
  | V.agg [Seg.one [S.i IntKind.u64 y0, S.i IntKind.u64 y1]], [] => some (y0, y1)
  | _, _ => none
theorem attack_On_eq (x0 x1 : Int) (x2 x3 : Int) (x4 x5 : List Int) (x6 : Int) (x7 x8 : List (List Int)) : fnE attack_Onc Tryd.f90 ([V.s (S.ptr 0 0 none 0), V.s (S.i IntKind.i64 x0), V.s (S.i IntKind.i64 x1), V.agg [Seg.one [S.i IntKind.u64 x2, S.i IntKind.u64 x3]]]) ([Obj.rcells 81 [Seg.arr IntKind.i8 81 x4, Seg.arr IntKind.i8 16 x5, Seg.one [S.i IntKind.i8 x6], Seg.rows [.i .u64, .i .u64] 32 x7, Seg.rows [.i .u64, .i .u64] 2 x8]]) (pureD 1 attack_Ond) = attack_On x0 x1 x2 x3 x4 x5 x6 x7 x8 := by kernel_rfl
noncomputable def attack_Ona {R : Type} (o : Orc) (vs : List V) (objs : List Obj) (K : Bool → V → List Obj → Option R) : Option R := match vs, List.map Obj.toRO objs with
  | [V.s (S.ptr 0 0 none 0), V.s (S.i IntKind.i64 x0), V.s (S.i IntKind.i64 x1), V.agg [Seg.one [S.i IntKind.u64 x2, S.i IntKind.u64 x3]]], [Obj.rcells 81 [Seg.arr IntKind.i8 81 x4, Seg.arr IntKind.i8 16 x5, Seg.one [S.i IntKind.i8 x6], Seg.rows [.i .u64, .i .u64] 32 x7, Seg.rows [.i .u64, .i .u64] 2 x8]] => ob (attack_On x0 x1 x2 x3 x4 x5 x6 x7 x8) fun z => K true (V.agg [Seg.one [S.i IntKind.u64 (z.1), S.i IntKind.u64 (z.2)]]) ([])
  | _, _ => o 90 vs objs K
noncomputable def attack_Ono (o : Orc) : Orc := hook 90 (attack_Ona o) o
theorem attack_Ono_ok (o : Orc) (ho : OSound Tryd.prog o) : OSound Tryd.prog (attack_Ono o) := hook_ok ho fun vs objs K r h => by
  unfold attack_Ona at h
  split at h
  · skip
    have hq : List.map Obj.toRO objs = _ := (by rename_i hq; first | exact hq | assumption)
    obtain ⟨t, h1, h2⟩ := ob_ok h
    refine purOK_by mixed attack_Onc_ok (m := 1) (fn := Tryd.f90) (b := (Tryd.f90).body.getD .skip) (by kernel_rfl) (by kernel_rfl) (by kernel_rfl) hq (by kernel_rfl) (by kernel_rfl) (AllP.of (l' := [loopOf Tryd.f90 5]) (by kernel_rfl) ⟨attack_Ons5, trivial⟩) ((attack_On_eq _ _ _ _ _ _ _ _ _).trans h1) fun v objs' hd => ?_
    unfold attack_Ond at hd
    split at hd
    · skip
      cases hd
      exact h2
    · cases hd
  · exact ho _ _ _ _ _ h
noncomputable def attack_Checkersc : Ctx := mkC 14 ((attack_Ono (board_Takeno (board_Kingo oNil)))) [] lpNil
theorem attack_Checkersc_ok : CtxOK Tryd.prog attack_Checkersc := mkC_ok ((attack_Ono_ok _ (board_Takeno_ok _ (board_Kingo_ok _ oNil_ok))))
noncomputable def attack_Checkersd : V → List Obj → Option (Int × Int) := fun v objs => match v, objs with
  | V.agg [Seg.one [S.i IntKind.u64 y0, S.i IntKind.u64 y1]], [] => some (y0, y1)
  | _, _ => none
theorem attack_Checkers_eq (x0 : Int) (x1 x2 : List Int) (x3 : Int) (x4 x5 : List (List Int)) : fnE attack_Checkersc Tryd.f42 ([V.s (S.ptr 0 0 none 0), V.s (S.i IntKind.i64 x0)]) ([Obj.rcells 81 [Seg.arr IntKind.i8 81 x1, Seg.arr IntKind.i8 16 x2, Seg.one [S.i IntKind.i8 x3], Seg.rows [.i .u64, .i .u64] 32 x4, Seg.rows [.i .u64, .i .u64] 2 x5]]) (pureD 1 attack_Checkersd) = attack_Checkers x0 x1 x2 x3 x4 x5 := by kernel_rfl
noncomputable def attack_Checkersa {R : Type} (o : Orc) (vs : List V) (objs : List Obj) (K : Bool → V → List Obj → Option R) : Option R := match vs, List.map Obj.toRO objs with
  | [V.s (S.ptr 0 0 none 0), V.s (S.i IntKind.i64 x0)], [Obj.rcells 81 [Seg.arr IntKind.i8 81 x1, Seg.arr IntKind.i8 16 x2, Seg.one [S.i IntKind.i8 x3], Seg.rows [.i .u64, .i .u64] 32 x4, Seg.rows [.i .u64, .i .u64] 2 x5]] => ob (attack_Checkers x0 x1 x2 x3 x4 x5) fun z => K true (V.agg [Seg.one [S.i IntKind.u64 (z.1), S.i IntKind.u64 (z.2)]]) ([])
  | _, _ => o 42 vs objs K
noncomputable def attack_Checkerso (o : Orc) : Orc := hook 42 (attack_Checkersa o) o
theorem attack_Checkerso_ok (o : Orc) (ho : OSound Tryd.prog o) : OSound Tryd.prog (attack_Checkerso o) := hook_ok ho fun vs objs K r h => by
  unfold attack_Checkersa at h
  split at h
  · skip
    have hq : List.map Obj.toRO objs = _ := (by rename_i hq; first | exact hq | assumption)
    obtain ⟨t, h1, h2⟩ := ob_ok h
    refine purOK_by mixed attack_Checkersc_ok (m := 1) (fn := Tryd.f42) (b := (Tryd.f42).body.getD .skip) (by kernel_rfl) (by kernel_rfl) (by kernel_rfl) hq (by kernel_rfl) (by kernel_rfl) (AllP.of (l' := []) (by kernel_rfl) trivial) ((attack_Checkers_eq _ _ _ _ _ _).trans h1) fun v objs' hd => ?_
    unfold attack_Checkersd at hd
    split at hd
    · skip
      cases hd
      exact h2
    · cases hd
  · exact ho _ _ _ _ _ h
noncomputable def attack_InCheckc : Ctx := mkC 10 ((set_Emptyo (attack_Checkerso oNil))) [] lpNil
theorem attack_InCheckc_ok : CtxOK Tryd.prog attack_InCheckc := mkC_ok ((set_Emptyo_ok _ (attack_Checkerso_ok _ oNil_ok)))
noncomputable def attack_InCheckd : V → List Obj → Option (Bool) := fun v objs => match v, objs with
  | V.s (S.b y0), [] => some (y0)
  | _, _ => none
theorem attack_InCheck_eq (x0 : Int) (x1 x2 : List Int) (x3 : Int) (x4 x5 : List (List Int)) : fnE attack_InCheckc Tryd.f17 ([V.s (S.ptr 0 0 none 0), V.s (S.i IntKind.i64 x0)]) ([Obj.rcells 81 [Seg.arr IntKind.i8 81 x1, Seg.arr IntKind.i8 16 x2, Seg.one [S.i IntKind.i8 x3], Seg.rows [.i .u64, .i .u64] 32 x4, Seg.rows [.i .u64, .i .u64] 2 x5]]) (pureD 1 attack_InCheckd) = attack_InCheck x0 x1 x2 x3 x4 x5 := by kernel_rfl
noncomputable def attack_InChecka {R : Type} (o : Orc) (vs : List V) (objs : List Obj) (K : Bool → V → List Obj → Option R) : Option R := match vs, List.map Obj.toRO objs with
  | [V.s (S.ptr 0 0 none 0), V.s (S.i IntKind.i64 x0)], [Obj.rcells 81 [Seg.arr IntKind.i8 81 x1, Seg.arr IntKind.i8 16 x2, Seg.one [S.i IntKind.i8 x3], Seg.rows [.i .u64, .i .u64] 32 x4, Seg.rows [.i .u64, .i .u64] 2 x5]] => ob (attack_InCheck x0 x1 x2 x3 x4 x5) fun y0 => K true (V.s (S.b y0)) ([])
  | _, _ => o 17 vs objs K
noncomputable def attack_InChecko (o : Orc) : Orc := hook 17 (attack_InChecka o) o
theorem attack_InChecko_ok (o : Orc) (ho : OSound Tryd.prog o) : OSound Tryd.prog (attack_InChecko o) := hook_ok ho fun vs objs K r h => by
  unfold attack_InChecka at h
  split at h
  · skip
    have hq : List.map Obj.toRO objs = _ := (by rename_i hq; first | exact hq | assumption)
    obtain ⟨t, h1, h2⟩ := ob_ok h
    refine purOK_by mixed attack_InCheckc_ok (m := 1) (fn := Tryd.f17) (b := (Tryd.f17).body.getD .skip) (by kernel_rfl) (by kernel_rfl) (by kernel_rfl) hq (by kernel_rfl) (by kernel_rfl) (AllP.of (l' := []) (by kernel_rfl) trivial) ((attack_InCheck_eq _ _ _ _ _ _).trans h1) fun v objs' hd => ?_
    unfold attack_InCheckd at hd
    split at hd
    · skip
      cases hd
      exact h2
    · cases hd
  · exact ho _ _ _ _ _ h
noncomputable def piece_Rawc : Ctx := mkC 13 ((piece_Ofo oNil)) [] lpNil
theorem piece_Rawc_ok : CtxOK Tryd.prog piece_Rawc := mkC_ok ((piece_Ofo_ok _ oNil_ok))
noncomputable def piece_Rawd : V → List Obj → Option (Int) := fun v objs => match v, objs with
  | V.s (S.i IntKind.i64 y0), [] => some (y0)
  | _, _ => none
theorem piece_Raw_eq (x0 : Int) : fnE piece_Rawc Tryd.f98 ([V.s (S.i IntKind.i64 x0)]) ([]) piece_Rawd = piece_Raw x0 := by kernel_rfl
noncomputable def piece_Rawa {R : Type} (o : Orc) (vs : List V) (objs : List Obj) (K : Bool → V → List Obj → Option R) : Option R := match vs, objs with
  | [V.s (S.i IntKind.i64 x0)], [] => ob (piece_Raw x0) fun y0 => K false (V.s (S.i IntKind.i64 y0)) ([])
  | _, _ => o 98 vs objs K
noncomputable def piece_Rawo (o : Orc) : Orc := hook 98 (piece_Rawa o) o
theorem piece_Rawo_ok (o : Orc) (ho : OSound Tryd.prog o) : OSound Tryd.prog (piece_Rawo o) := hook_ok ho fun vs objs K r h => by
  unfold piece_Rawa at h
  split at h
  · skip
    obtain ⟨t, h1, h2⟩ := ob_ok h
    refine anyOK_of mixed piece_Rawc_ok (fn := Tryd.f98) (b := (Tryd.f98).body.getD .skip) (by kernel_rfl) (by kernel_rfl) (by kernel_rfl) ((piece_Raw_eq _).trans h1) (m := 0) rfl (AllP.of (l' := []) (by kernel_rfl) trivial) fun v objs' hd => ?_
    unfold piece_Rawd at hd
    split at hd
    · skip
      cases hd
      exact h2
    · cases hd
  · exact ho _ _ _ _ _ h
noncomputable def piece_Totalc : Ctx := mkC 15 (oNil) [] lpNil
theorem piece_Totalc_ok : CtxOK Tryd.prog piece_Totalc := mkC_ok (oNil_ok)
noncomputable def piece_Totald : V → List Obj → Option (Int) := fun v objs => match v, objs with
  | V.s (S.i IntKind.i64 y0), [] => some (y0)
  | _, _ => none
theorem piece_Total_eq (x0 : Int) : fnE piece_Totalc Tryd.f99 ([V.s (S.i IntKind.i64 x0)]) ([]) piece_Totald = piece_Total x0 := by kernel_rfl
noncomputable def piece_Totala {R : Type} (o : Orc) (vs : List V) (objs : List Obj) (K : Bool → V → List Obj → Option R) : Option R := match vs, objs with
  | [V.s (S.i IntKind.i64 x0)], [] => ob (piece_Total x0) fun y0 => K false (V.s (S.i IntKind.i64 y0)) ([])
  | _, _ => o 99 vs objs K
noncomputable def piece_Totalo (o : Orc) : Orc := hook 99 (piece_Totala o) o
theorem piece_Totalo_ok (o : Orc) (ho : OSound Tryd.prog o) : OSound Tryd.prog (piece_Totalo o) := hook_ok ho fun vs objs K r h => by
  unfold piece_Totala at h
  split at h
  · skip
    obtain ⟨t, h1, h2⟩ := ob_ok h
    refine anyOK_of mixed piece_Totalc_ok (fn := Tryd.f99) (b := (Tryd.f99).body.getD .skip) (by kernel_rfl) (by kernel_rfl) (by kernel_rfl) ((piece_Total_eq _).trans h1) (m := 0) rfl (AllP.of (l' := []) (by kernel_rfl) trivial) fun v objs' hd => ?_
    unfold piece_Totald at hd
    split at hd
    · skip
      cases hd
      exact h2
    · cases hd
  · exact ho _ _ _ _ _ h
noncomputable def step_Farc : Ctx := mkC 23 ((set_Ranko oNil)) [] lpNil
theorem step_Farc_ok : CtxOK Tryd.prog step_Farc := mkC_ok ((set_Ranko_ok _ oNil_ok))
noncomputable def step_Fard : V → List Obj → Option (Int) := fun v objs => match v, objs with
  | V.s (S.i IntKind.i64 y0), [] => some (y0)
  | _, _ => none
theorem step_Far_eq (x0 x1 : Int) : fnE step_Farc Tryd.f110 ([V.s (S.i IntKind.i64 x0), V.s (S.i IntKind.i64 x1)]) ([]) step_Fard = step_Far x0 x1 := by kernel_rfl
noncomputable def step_Fara {R : Type} (o : Orc) (vs : List V) (objs : List Obj) (K : Bool → V → List Obj → Option R) : Option R := match vs, objs with
  | [V.s (S.i IntKind.i64 x0), V.s (S.i IntKind.i64 x1)], [] => ob (step_Far x0 x1) fun y0 => K false (V.s (S.i IntKind.i64 y0)) ([])
  | _, _ => o 110 vs objs K
noncomputable def step_Faro (o : Orc) : Orc := hook 110 (step_Fara o) o
theorem step_Faro_ok (o : Orc) (ho : OSound Tryd.prog o) : OSound Tryd.prog (step_Faro o) := hook_ok ho fun vs objs K r h => by
  unfold step_Fara at h
  split at h
  · skip
    obtain ⟨t, h1, h2⟩ := ob_ok h
    refine anyOK_of mixed step_Farc_ok (fn := Tryd.f110) (b := (Tryd.f110).body.getD .skip) (by kernel_rfl) (by kernel_rfl) (by kernel_rfl) ((step_Far_eq _ _).trans h1) (m := 0) rfl (AllP.of (l' := []) (by kernel_rfl) trivial) fun v objs' hd => ?_
    unfold step_Fard at hd
    split at hd
    · skip
      cases hd
      exact h2
    · cases hd
  · exact ho _ _ _ _ _ h
noncomputable def step_Deadc : Ctx := mkC 25 ((piece_Kindo (step_Faro (piece_Sideo oNil)))) [] lpNil
theorem step_Deadc_ok : CtxOK Tryd.prog step_Deadc := mkC_ok ((piece_Kindo_ok _ (step_Faro_ok _ (piece_Sideo_ok _ oNil_ok))))
noncomputable def step_Deadd : V → List Obj → Option (Bool) := fun v objs => match v, objs with
  | V.s (S.b y0), [] => some (y0)
  | _, _ => none
theorem step_Dead_eq (x0 x1 : Int) : fnE step_Deadc Tryd.f78 ([V.s (S.i IntKind.i8 x0), V.s (S.i IntKind.i64 x1)]) ([]) step_Deadd = step_Dead x0 x1 := by kernel_rfl
noncomputable def step_Deada {R : Type} (o : Orc) (vs : List V) (objs : List Obj) (K : Bool → V → List Obj → Option R) : Option R := match vs, objs with
  | [V.s (S.i IntKind.i8 x0), V.s (S.i IntKind.i64 x1)], [] => ob (step_Dead x0 x1) fun y0 => K false (V.s (S.b y0)) ([])
  | _, _ => o 78 vs objs K
noncomputable def step_Deado (o : Orc) : Orc := hook 78 (step_Deada o) o
theorem step_Deado_ok (o : Orc) (ho : OSound Tryd.prog o) : OSound Tryd.prog (step_Deado o) := hook_ok ho fun vs objs K r h => by
  unfold step_Deada at h
  split at h
  · skip
    obtain ⟨t, h1, h2⟩ := ob_ok h
    refine anyOK_of mixed step_Deadc_ok (fn := Tryd.f78) (b := (Tryd.f78).body.getD .skip) (by kernel_rfl) (by kernel_rfl) (by kernel_rfl) ((step_Dead_eq _ _).trans h1) (m := 0) rfl (AllP.of (l' := []) (by kernel_rfl) trivial) fun v objs' hd => ?_
    unfold step_Deadd at hd
    split at hd
    · skip
      cases hd
      exact h2
    · cases hd
  · exact ho _ _ _ _ _ h
noncomputable def set_InFilel3d : Ex → List V → List Obj → Option (Int × Int × Int × Int) := fun e vs objs => match e, vs, objs with
  | Ex.exit 0, [V.s (S.ptr 0 0 none 0), V.s (S.ptr 1 0 none 0)], [Obj.cells 57 [Seg.one [S.i IntKind.u64 y0, S.i IntKind.u64 y1]], Obj.cells 57 [Seg.one [S.i IntKind.u64 y2, S.i IntKind.u64 y3]]] => some (y0, y1, y2, y3)
  | _, _, _ => none
noncomputable def set_InFilep3 {R : Type} (vs : List V) (objs : List Obj) (K : Ex → List V → List Obj → Option R) : Option R := match vs, objs with
  | [V.s (S.i IntKind.i64 x0), V.s (S.ptr 0 0 none 0), V.s (S.ptr 1 0 none 0), V.s (S.i IntKind.i64 x1)], [Obj.cells 57 [Seg.one [S.i IntKind.u64 x2, S.i IntKind.u64 x3]], Obj.cells 57 [Seg.one [S.i IntKind.u64 x4, S.i IntKind.u64 x5]]] => ob (set_InFilel3 many x0 x1 x2 x3 x4 x5) fun z => K (Ex.exit 0) ([V.s (S.ptr 0 0 none 0), V.s (S.ptr 1 0 none 0)]) ([Obj.cells 57 [Seg.one [S.i IntKind.u64 (z.1), S.i IntKind.u64 (z.2.1)]], Obj.cells 57 [Seg.one [S.i IntKind.u64 (z.2.2.1), S.i IntKind.u64 (z.2.2.2)]]])
  | _, _ => none
noncomputable def set_InFilelp : {R : Type} → Nat → List V → List Obj → (Ex → List V → List Obj → Option R) → Option R := fun q vs objs K => bif Nat.beq q 3 then set_InFilep3 vs objs K else none
noncomputable def set_InFilec : Ctx := mkC 15 ((set_Witho (set_Squareo oNil))) [(3, [0, 2, 3, 5], [2, 3])] set_InFilelp
theorem set_InFilec_ok : CtxOK Tryd.prog set_InFilec := mkC_ok ((set_Witho_ok _ (set_Squareo_ok _ oNil_ok)))
noncomputable def set_InFilel3r (f : Nat) (x0 x1 : Int) (x2 x3 : Int) (x4 x5 : Int) : Option (Int × Int × Int × Int) := lrun set_InFilec 0 [0, 2, 3, 5] [2, 3] (loopOf Tryd.f84 3) f ([V.s (S.i IntKind.i64 x0), V.s (S.ptr 0 0 none 0), V.s (S.ptr 1 0 none 0), V.s (S.i IntKind.i64 x1)]) ([Obj.cells 57 [Seg.one [S.i IntKind.u64 x2, S.i IntKind.u64 x3]], Obj.cells 57 [Seg.one [S.i IntKind.u64 x4, S.i IntKind.u64 x5]]]) set_InFilel3d
theorem set_InFilel3_step (f : Nat) (x0 x1 : Int) (x2 x3 : Int) (x4 x5 : Int) : set_InFilel3r (f + 1) x0 x1 x2 x3 x4 x5 = set_InFilel3s (set_InFilel3r f) x0 x1 x2 x3 x4 x5 := by kernel_rfl
theorem set_InFilel3_eq : ∀ f, set_InFilel3r f = set_InFilel3 f
  | 0 => rfl
  | f + 1 => by funext x0 x1 x2 x3 x4 x5; rw [set_InFilel3_step, set_InFilel3_eq f]; rfl
theorem set_InFiles3 : LoopSound Tryd.prog set_InFilec 0 (loopOf Tryd.f84 3) :=
  loopSound_by mixed set_InFilec_ok (AllP.of (l' := []) (by kernel_rfl) trivial) (q := 3) (kin := [0, 2, 3, 5]) (kout := [2, 3]) (by kernel_rfl) (by kernel_rfl) fun vs objs K r h => by
    replace h : set_InFilep3 vs objs K = some r := h
    unfold set_InFilep3 at h
    split at h
    · skip
      obtain ⟨t, h1, h2⟩ := ob_ok h
      rw [← set_InFilel3_eq] at h1
      refine ⟨_, set_InFilel3d, t, many, h1, fun e vs' objs' hd => ?_⟩
      unfold set_InFilel3d at hd
      split at hd
      · skip
        cases hd
        exact h2
      · cases hd
    · cases h
noncomputable def set_InFiled : V → List Obj → Option (Int × Int) := fun v objs => match v, objs with
  | V.agg [Seg.one [S.i IntKind.u64 y0, S.i IntKind.u64 y1]], [] => some (y0, y1)
  | _, _ => none
theorem set_InFile_eq (x0 : Int) : fnE set_InFilec Tryd.f84 ([V.s (S.i IntKind.i64 x0)]) ([]) set_InFiled = set_InFile x0 := by kernel_rfl
noncomputable def set_InFilea {R : Type} (o : Orc) (vs : List V) (objs : List Obj) (K : Bool → V → List Obj → Option R) : Option R := match vs, objs with
  | [V.s (S.i IntKind.i64 x0)], [] => ob (set_InFile x0) fun z => K false (V.agg [Seg.one [S.i IntKind.u64 (z.1), S.i IntKind.u64 (z.2)]]) ([])
  | _, _ => o 84 vs objs K
noncomputable def set_InFileo (o : Orc) : Orc := hook 84 (set_InFilea o) o
theorem set_InFileo_ok (o : Orc) (ho : OSound Tryd.prog o) : OSound Tryd.prog (set_InFileo o) := hook_ok ho fun vs objs K r h => by
  unfold set_InFilea at h
  split at h
  · skip
    obtain ⟨t, h1, h2⟩ := ob_ok h
    refine anyOK_of mixed set_InFilec_ok (fn := Tryd.f84) (b := (Tryd.f84).body.getD .skip) (by kernel_rfl) (by kernel_rfl) (by kernel_rfl) ((set_InFile_eq _).trans h1) (m := 0) rfl (AllP.of (l' := [loopOf Tryd.f84 3]) (by kernel_rfl) ⟨set_InFiles3, trivial⟩) fun v objs' hd => ?_
    unfold set_InFiled at hd
    split at hd
    · skip
      cases hd
      exact h2
    · cases hd
  · exact ho _ _ _ _ _ h
noncomputable def bits_OnesCount64c : Ctx := mkC 35 (oNil) [] lpNil
theorem bits_OnesCount64c_ok : CtxOK Tryd.prog bits_OnesCount64c := mkC_ok (oNil_ok)
noncomputable def bits_OnesCount64d : V → List Obj → Option (Int) := fun v objs => match v, objs with
  | V.s (S.i IntKind.i64 y0), [] => some (y0)
  | _, _ => none
theorem bits_OnesCount64_eq (x0 : Int) : fnE bits_OnesCount64c Tryd.f97 ([V.s (S.i IntKind.u64 x0)]) ([]) bits_OnesCount64d = bits_OnesCount64 x0 := by kernel_rfl
noncomputable def bits_OnesCount64a {R : Type} (o : Orc) (vs : List V) (objs : List Obj) (K : Bool → V → List Obj → Option R) : Option R := match vs, objs with
  | [V.s (S.i IntKind.u64 x0)], [] => ob (bits_OnesCount64 x0) fun y0 => K false (V.s (S.i IntKind.i64 y0)) ([])
  | _, _ => o 97 vs objs K
noncomputable def bits_OnesCount64o (o : Orc) : Orc := hook 97 (bits_OnesCount64a o) o
theorem bits_OnesCount64o_ok (o : Orc) (ho : OSound Tryd.prog o) : OSound Tryd.prog (bits_OnesCount64o o) := hook_ok ho fun vs objs K r h => by
  unfold bits_OnesCount64a at h
  split at h
  · skip
    obtain ⟨t, h1, h2⟩ := ob_ok h
    refine anyOK_of mixed bits_OnesCount64c_ok (fn := Tryd.f97) (b := (Tryd.f97).body.getD .skip) (by kernel_rfl) (by kernel_rfl) (by kernel_rfl) ((bits_OnesCount64_eq _).trans h1) (m := 0) rfl (AllP.of (l' := []) (by kernel_rfl) trivial) fun v objs' hd => ?_
    unfold bits_OnesCount64d at hd
    split at hd
    · skip
      cases hd
      exact h2
    · cases hd
  · exact ho _ _ _ _ _ h
noncomputable def set_Countc : Ctx := mkC 10 ((bits_OnesCount64o oNil)) [] lpNil
theorem set_Countc_ok : CtxOK Tryd.prog set_Countc := mkC_ok ((bits_OnesCount64o_ok _ oNil_ok))
noncomputable def set_Countd : V → List Obj → Option (Int) := fun v objs => match v, objs with
  | V.s (S.i IntKind.i64 y0), [] => some (y0)
  | _, _ => none
theorem set_Count_eq (x0 x1 : Int) : fnE set_Countc Tryd.f50 ([V.agg [Seg.one [S.i IntKind.u64 x0, S.i IntKind.u64 x1]]]) ([]) set_Countd = set_Count x0 x1 := by kernel_rfl
noncomputable def set_Counta {R : Type} (o : Orc) (vs : List V) (objs : List Obj) (K : Bool → V → List Obj → Option R) : Option R := match vs, objs with
  | [V.agg [Seg.one [S.i IntKind.u64 x0, S.i IntKind.u64 x1]]], [] => ob (set_Count x0 x1) fun y0 => K false (V.s (S.i IntKind.i64 y0)) ([])
  | _, _ => o 50 vs objs K
noncomputable def set_Counto (o : Orc) : Orc := hook 50 (set_Counta o) o
theorem set_Counto_ok (o : Orc) (ho : OSound Tryd.prog o) : OSound Tryd.prog (set_Counto o) := hook_ok ho fun vs objs K r h => by
  unfold set_Counta at h
  split at h
  · skip
    obtain ⟨t, h1, h2⟩ := ob_ok h
    refine anyOK_of mixed set_Countc_ok (fn := Tryd.f50) (b := (Tryd.f50).body.getD .skip) (by kernel_rfl) (by kernel_rfl) (by kernel_rfl) ((set_Count_eq _ _).trans h1) (m := 0) rfl (AllP.of (l' := []) (by kernel_rfl) trivial) fun v objs' hd => ?_
    unfold set_Countd at hd
    split at hd
    · skip
      cases hd
      exact h2
    · cases hd
  · exact ho _ _ _ _ _ h
noncomputable def board_filesl2d : Ex → List V → List Obj → Option ((Int × List Int × List Int × Int) ⊕ (List Int × List Int × Int)) := fun e vs objs => match e, vs, objs with
  | Ex.ret, [V.s (S.ptr 0 0 none 0), V.s (S.i IntKind.i64 y0)], [Obj.cells 28 [Seg.arr IntKind.i8 81 y1, Seg.arr IntKind.i8 16 y2, Seg.one [S.i IntKind.i8 y3]]] => some (Sum.inl (y0, y1, y2, y3))
  | Ex.exit 0, [V.s (S.ptr 0 0 none 0), V.s S.bad], [Obj.cells 28 [Seg.arr IntKind.i8 81 y0, Seg.arr IntKind.i8 16 y1, Seg.one [S.i IntKind.i8 y2]]] => some (Sum.inr (y0, y1, y2))
  | _, _, _ => none
noncomputable def board_filesl12d : Ex → List V → List Obj → Option ((Int × Int × List Int × List Int × Int × List (List Int) × List (List Int)) ⊕ (Int × List Int × List Int × Int × List (List Int) × List (List Int))) := fun e vs objs => match e, vs, objs with
  | Ex.ret, [V.s (S.i IntKind.i64 y0), V.s (S.ptr 0 0 none 0), V.s (S.i IntKind.i64 y1)], [Obj.cells 81 [Seg.arr IntKind.i8 81 y2, Seg.arr IntKind.i8 16 y3, Seg.one [S.i IntKind.i8 y4], Seg.rows [.i .u64, .i .u64] 32 y5, Seg.rows [.i .u64, .i .u64] 2 y6]] => some (Sum.inl (y0, y1, y2, y3, y4, y5, y6))
  | Ex.exit 4, [V.s S.bad, V.s (S.ptr 0 0 none 0), V.s (S.i IntKind.i64 y0)], [Obj.cells 81 [Seg.arr IntKind.i8 81 y1, Seg.arr IntKind.i8 16 y2, Seg.one [S.i IntKind.i8 y3], Seg.rows [.i .u64, .i .u64] 32 y4, Seg.rows [.i .u64, .i .u64] 2 y5]] => some (Sum.inr (y0, y1, y2, y3, y4, y5))
  | _, _, _ => none
noncomputable def board_filesl9d : Ex → List V → List Obj → Option ((Int) ⊕ (Unit)) := fun e vs objs => match e, vs, objs with
  | Ex.ret, [V.s (S.i IntKind.i64 y0)], [] => some (Sum.inl (y0))
  | Ex.exit 2, [V.s S.bad], [] => some (Sum.inr ())
  | _, _, _ => none
noncomputable def board_filesp2 {R : Type} (vs : List V) (objs : List Obj) (K : Ex → List V → List Obj → Option R) : Option R := match vs, objs with
  | [V.s (S.ptr 0 0 none 0), V.agg [Seg.arr IntKind.i8 81 x0], V.s (S.i IntKind.i64 x1)], [Obj.cells 28 [Seg.arr IntKind.i8 81 x2, Seg.arr IntKind.i8 16 x3, Seg.one [S.i IntKind.i8 x4]]] => ob (board_filesl2 many x0 x1 x2 x3 x4) fun t0 => sw t0 (fun z => K (Ex.ret) ([V.s (S.ptr 0 0 none 0), V.s (S.i IntKind.i64 (z.1))]) ([Obj.cells 28 [Seg.arr IntKind.i8 81 (z.2.1), Seg.arr IntKind.i8 16 (z.2.2.1), Seg.one [S.i IntKind.i8 (z.2.2.2)]]])) (fun z => K (Ex.exit 0) ([V.s (S.ptr 0 0 none 0), V.s S.bad]) ([Obj.cells 28 [Seg.arr IntKind.i8 81 (z.1), Seg.arr IntKind.i8 16 (z.2.1), Seg.one [S.i IntKind.i8 (z.2.2)]]]))
  | _, _ => none
noncomputable def board_filesp12 {R : Type} (vs : List V) (objs : List Obj) (K : Ex → List V → List Obj → Option R) : Option R := match vs, objs with
  | [V.s (S.ptr 0 0 none 0), V.s (S.i IntKind.i64 x0), V.s (S.i IntKind.i64 x1), V.s (S.i IntKind.i64 x2)], [Obj.cells 81 [Seg.arr IntKind.i8 81 x3, Seg.arr IntKind.i8 16 x4, Seg.one [S.i IntKind.i8 x5], Seg.rows [.i .u64, .i .u64] 32 x6, Seg.rows [.i .u64, .i .u64] 2 x7]] => ob (board_filesl12 many x0 x1 x2 x3 x4 x5 x6 x7) fun t0 => sw t0 (fun z => K (Ex.ret) ([V.s (S.i IntKind.i64 (z.1)), V.s (S.ptr 0 0 none 0), V.s (S.i IntKind.i64 (z.2.1))]) ([Obj.cells 81 [Seg.arr IntKind.i8 81 (z.2.2.1), Seg.arr IntKind.i8 16 (z.2.2.2.1), Seg.one [S.i IntKind.i8 (z.2.2.2.2.1)], Seg.rows [.i .u64, .i .u64] 32 (z.2.2.2.2.2.1), Seg.rows [.i .u64, .i .u64] 2 (z.2.2.2.2.2.2)]])) (fun z => K (Ex.exit 4) ([V.s S.bad, V.s (S.ptr 0 0 none 0), V.s (S.i IntKind.i64 (z.1))]) ([Obj.cells 81 [Seg.arr IntKind.i8 81 (z.2.1), Seg.arr IntKind.i8 16 (z.2.2.1), Seg.one [S.i IntKind.i8 (z.2.2.2.1)], Seg.rows [.i .u64, .i .u64] 32 (z.2.2.2.2.1), Seg.rows [.i .u64, .i .u64] 2 (z.2.2.2.2.2)]]))
  | _, _ => none
noncomputable def board_filesp9 {R : Type} (vs : List V) (objs : List Obj) (K : Ex → List V → List Obj → Option R) : Option R := match vs, objs with
  | [V.s (S.ptr 0 0 none 0), V.s (S.i IntKind.i64 x0)], [Obj.cells 81 [Seg.arr IntKind.i8 81 x1, Seg.arr IntKind.i8 16 x2, Seg.one [S.i IntKind.i8 x3], Seg.rows [.i .u64, .i .u64] 32 x4, Seg.rows [.i .u64, .i .u64] 2 x5]] => ob (board_filesl9 many x0 x1 x2 x3 x4 x5) fun t0 => sw t0 (fun y0 => K (Ex.ret) ([V.s (S.i IntKind.i64 y0)]) ([])) (fun _ => K (Ex.exit 2) ([V.s S.bad]) ([]))
  | _, _ => none
noncomputable def board_fileslp : {R : Type} → Nat → List V → List Obj → (Ex → List V → List Obj → Option R) → Option R := fun q vs objs K => bif Nat.beq q 2 then board_filesp2 vs objs K else bif Nat.beq q 12 then board_filesp12 vs objs K else bif Nat.beq q 9 then board_filesp9 vs objs K else none
noncomputable def board_filesc : Ctx := mkC 36 ((set_Counto (set_Ando (set_InFileo (board_Ofo (board_Newo (step_Deado oNil))))))) [(2, [1, 9, 10], [1, 2]), (9, [5, 20], [2]), (12, [5, 6, 20, 23], [2, 5, 20])] board_fileslp
theorem board_filesc_ok : CtxOK Tryd.prog board_filesc := mkC_ok ((set_Counto_ok _ (set_Ando_ok _ (set_InFileo_ok _ (board_Ofo_ok _ (board_Newo_ok _ (step_Deado_ok _ oNil_ok)))))))
noncomputable def board_filesl2r (f : Nat) (x0 : List Int) (x1 : Int) (x2 x3 : List Int) (x4 : Int) : Option ((Int × List Int × List Int × Int) ⊕ (List Int × List Int × Int)) := lrun board_filesc 0 [1, 9, 10] [1, 2] (loopOf Tryd.f100 2) f ([V.s (S.ptr 0 0 none 0), V.agg [Seg.arr IntKind.i8 81 x0], V.s (S.i IntKind.i64 x1)]) ([Obj.cells 28 [Seg.arr IntKind.i8 81 x2, Seg.arr IntKind.i8 16 x3, Seg.one [S.i IntKind.i8 x4]]]) board_filesl2d
theorem board_filesl2_step (f : Nat) (x0 : List Int) (x1 : Int) (x2 x3 : List Int) (x4 : Int) : board_filesl2r (f + 1) x0 x1 x2 x3 x4 = board_filesl2s (board_filesl2r f) x0 x1 x2 x3 x4 := by kernel_rfl
theorem board_filesl2_eq : ∀ f, board_filesl2r f = board_filesl2 f
  | 0 => rfl
  | f + 1 => by funext x0 x1 x2 x3 x4; rw [board_filesl2_step, board_filesl2_eq f]; rfl
noncomputable def board_filesl12r (f : Nat) (x0 x1 x2 : Int) (x3 x4 : List Int) (x5 : Int) (x6 x7 : List (List Int)) : Option ((Int × Int × List Int × List Int × Int × List (List Int) × List (List Int)) ⊕ (Int × List Int × List Int × Int × List (List Int) × List (List Int))) := lrun board_filesc 0 [5, 6, 20, 23] [2, 5, 20] (loopOf Tryd.f100 12) f ([V.s (S.ptr 0 0 none 0), V.s (S.i IntKind.i64 x0), V.s (S.i IntKind.i64 x1), V.s (S.i IntKind.i64 x2)]) ([Obj.cells 81 [Seg.arr IntKind.i8 81 x3, Seg.arr IntKind.i8 16 x4, Seg.one [S.i IntKind.i8 x5], Seg.rows [.i .u64, .i .u64] 32 x6, Seg.rows [.i .u64, .i .u64] 2 x7]]) board_filesl12d
theorem board_filesl12_step (f : Nat) (x0 x1 x2 : Int) (x3 x4 : List Int) (x5 : Int) (x6 x7 : List (List Int)) : board_filesl12r (f + 1) x0 x1 x2 x3 x4 x5 x6 x7 = board_filesl12s (board_filesl12r f) x0 x1 x2 x3 x4 x5 x6 x7 := by kernel_rfl
theorem board_filesl12_eq : ∀ f, board_filesl12r f = board_filesl12 f
  | 0 => rfl
  | f + 1 => by funext x0 x1 x2 x3 x4 x5 x6 x7; rw [board_filesl12_step, board_filesl12_eq f]; rfl
noncomputable def board_filesl9r (f : Nat) (x0 : Int) (x1 x2 : List Int) (x3 : Int) (x4 x5 : List (List Int)) : Option ((Int) ⊕ (Unit)) := lrun board_filesc 0 [5, 20] [2] (loopOf Tryd.f100 9) f ([V.s (S.ptr 0 0 none 0), V.s (S.i IntKind.i64 x0)]) ([Obj.cells 81 [Seg.arr IntKind.i8 81 x1, Seg.arr IntKind.i8 16 x2, Seg.one [S.i IntKind.i8 x3], Seg.rows [.i .u64, .i .u64] 32 x4, Seg.rows [.i .u64, .i .u64] 2 x5]]) board_filesl9d
theorem board_filesl9_step (f : Nat) (x0 : Int) (x1 x2 : List Int) (x3 : Int) (x4 x5 : List (List Int)) : board_filesl9r (f + 1) x0 x1 x2 x3 x4 x5 = board_filesl9s (board_filesl9r f) x0 x1 x2 x3 x4 x5 := by kernel_rfl
theorem board_filesl9_eq : ∀ f, board_filesl9r f = board_filesl9 f
  | 0 => rfl
  | f + 1 => by funext x0 x1 x2 x3 x4 x5; rw [board_filesl9_step, board_filesl9_eq f]; rfl
theorem board_filess2 : LoopSound Tryd.prog board_filesc 0 (loopOf Tryd.f100 2) :=
  loopSound_by mixed board_filesc_ok (AllP.of (l' := []) (by kernel_rfl) trivial) (q := 2) (kin := [1, 9, 10]) (kout := [1, 2]) (by kernel_rfl) (by kernel_rfl) fun vs objs K r h => by
    replace h : board_filesp2 vs objs K = some r := h
    unfold board_filesp2 at h
    split at h
    · skip
      obtain ⟨t, h1, h2⟩ := ob_ok h
      rw [← board_filesl2_eq] at h1
      refine ⟨_, board_filesl2d, t, many, h1, fun e vs' objs' hd => ?_⟩
      unfold board_filesl2d at hd
      split at hd
      · skip
        cases hd
        exact h2
      · skip
        cases hd
        exact h2
      · cases hd
    · cases h
theorem board_filess12 : LoopSound Tryd.prog board_filesc 0 (loopOf Tryd.f100 12) :=
  loopSound_by mixed board_filesc_ok (AllP.of (l' := []) (by kernel_rfl) trivial) (q := 12) (kin := [5, 6, 20, 23]) (kout := [2, 5, 20]) (by kernel_rfl) (by kernel_rfl) fun vs objs K r h => by
    replace h : board_filesp12 vs objs K = some r := h
    unfold board_filesp12 at h
    split at h
    · skip
      obtain ⟨t, h1, h2⟩ := ob_ok h
      rw [← board_filesl12_eq] at h1
      refine ⟨_, board_filesl12d, t, many, h1, fun e vs' objs' hd => ?_⟩
      unfold board_filesl12d at hd
      split at hd
      · skip
        cases hd
        exact h2
      · skip
        cases hd
        exact h2
      · cases hd
    · cases h
theorem board_filess9 : LoopSound Tryd.prog board_filesc 0 (loopOf Tryd.f100 9) :=
  loopSound_by mixed board_filesc_ok (AllP.of (l' := [loopOf Tryd.f100 12]) (by kernel_rfl) ⟨board_filess12, trivial⟩) (q := 9) (kin := [5, 20]) (kout := [2]) (by kernel_rfl) (by kernel_rfl) fun vs objs K r h => by
    replace h : board_filesp9 vs objs K = some r := h
    unfold board_filesp9 at h
    split at h
    · skip
      obtain ⟨t, h1, h2⟩ := ob_ok h
      rw [← board_filesl9_eq] at h1
      refine ⟨_, board_filesl9d, t, many, h1, fun e vs' objs' hd => ?_⟩
      unfold board_filesl9d at hd
      split at hd
      · skip
        cases hd
        exact h2
      · skip
        cases hd
        exact h2
      · cases hd
    · cases h
noncomputable def board_filesd : V → List Obj → Option (Int) := fun v objs => match v, objs with
  | V.s (S.i IntKind.i64 y0), [] => some (y0)
  | _, _ => none
theorem board_files_eq (x0 x1 : List Int) (x2 : Int) : fnE board_filesc Tryd.f100 ([V.agg [Seg.arr IntKind.i8 81 x0, Seg.arr IntKind.i8 16 x1, Seg.one [S.i IntKind.i8 x2]]]) ([]) board_filesd = board_files x0 x1 x2 := by kernel_rfl
noncomputable def board_filesa {R : Type} (o : Orc) (vs : List V) (objs : List Obj) (K : Bool → V → List Obj → Option R) : Option R := match vs, objs with
  | [V.agg [Seg.arr IntKind.i8 81 x0, Seg.arr IntKind.i8 16 x1, Seg.one [S.i IntKind.i8 x2]]], [] => ob (board_files x0 x1 x2) fun y0 => K false (V.s (S.i IntKind.i64 y0)) ([])
  | _, _ => o 100 vs objs K
noncomputable def board_fileso (o : Orc) : Orc := hook 100 (board_filesa o) o
theorem board_fileso_ok (o : Orc) (ho : OSound Tryd.prog o) : OSound Tryd.prog (board_fileso o) := hook_ok ho fun vs objs K r h => by
  unfold board_filesa at h
  split at h
  · skip
    obtain ⟨t, h1, h2⟩ := ob_ok h
    refine anyOK_of mixed board_filesc_ok (fn := Tryd.f100) (b := (Tryd.f100).body.getD .skip) (by kernel_rfl) (by kernel_rfl) (by kernel_rfl) ((board_files_eq _ _ _).trans h1) (m := 0) rfl (AllP.of (l' := [loopOf Tryd.f100 2, loopOf Tryd.f100 9]) (by kernel_rfl) ⟨board_filess2, board_filess9, trivial⟩) fun v objs' hd => ?_
    unfold board_filesd at hd
    split at hd
    · skip
      cases hd
      exact h2
    · cases hd
  · exact ho _ _ _ _ _ h
end Go.Kk.KkGP
