/- Printed by a tool of this project (KkGen): the program's functions come to the plain ones. -/
import Derived.Test.YtljnnegjhcdlkaaGreatDoorProg
import Derived.Test.YtljnnegjhcdlkaaGreatDoorKkB
import Derived.Test.YtljnnegjhcdlkaaGreatDoorKkPl
namespace Go.Kk.KkMS
open Go.Proofs Go.Kk.Pl
set_option maxRecDepth 100000
set_option maxHeartbeats 4000000
def tab : Tab := [(1, .sc (.f)),
 (2, .sc (.i .i64)),
 (3, .sc (.i .i64)),
 (4, .sc (.b)),
 (5, .sc (.i .u8)),
 (6, .sc (.i .u8)),
 (7, .st [.one [.i .i64, .i .i64, .b, .i .u8]] [(0, 0, 2), (0, 1, 3), (0, 2, 4), (0, 3, 6)]),
 (8, .st [.one [.i .i64, .i .i64, .b, .i .u8]] [(0, 0, 2), (0, 1, 3), (0, 2, 4), (0, 3, 6)]),
 (9, .sc (.str)),
 (10, .sc (.str)),
 (11, .sc (.str)),
 (12, .sc (.i .u64)),
 (13, .st [.one [.str, .i .u64]] [(0, 0, 9), (0, 1, 12)]),
 (14, .st [.one [.str, .i .u64]] [(0, 0, 9), (0, 1, 12)]),
 (15, .sc (.p)),
 (16, .sc (.p)),
 (17, .sc (.p)),
 (18, .st [.one [.p]] [(0, 0, 17)]),
 (19, .st [.one [.p]] [(0, 0, 17)]),
 (21, .sc (.i .i32)),
 (22, .sc (.i .i8)),
 (23, .sc (.i .i8)),
 (24, .ar 81 1 23 (.arr .i8 81)),
 (25, .ar 8 1 22 (.arr .i8 8)),
 (26, .ar 2 8 25 (.arr .i8 16)),
 (27, .st [.arr .i8 81, .arr .i8 16, .one [.i .i8]] [(0, 0, 24), (1, 0, 26), (2, 0, 22)]),
 (28, .st [.arr .i8 81, .arr .i8 16, .one [.i .i8]] [(0, 0, 24), (1, 0, 26), (2, 0, 22)]),
 (29, .sc (.f)),
 (30, .sc (.f)),
 (31, .sc (.p)),
 (32, .sc (.f)),
 (33, .sc (.f)),
 (34, .sc (.f)),
 (35, .sc (.f)),
 (36, .sc (.sl 39)),
 (37, .sc (.f)),
 (38, .st [.one [.i .i64, .i .i64, .i .i64, .b]] [(0, 0, 3), (0, 1, 3), (0, 2, 3), (0, 3, 4)]),
 (39, .st [.one [.i .i64, .i .i64, .i .i64, .b]] [(0, 0, 3), (0, 1, 3), (0, 2, 3), (0, 3, 4)]),
 (41, .sc (.f)),
 (42, .sc (.p)),
 (43, .sc (.f)),
 (44, .sc (.i .u64)),
 (45, .sc (.i .u64)),
 (46, .sc (.f)),
 (47, .sc (.f)),
 (48, .sc (.sl 92)),
 (49, .st [.one [.p, .i .u64, .sl 92]] [(0, 0, 31), (0, 1, 45), (0, 2, 48)]),
 (50, .st [.one [.p, .i .u64, .sl 92]] [(0, 0, 31), (0, 1, 45), (0, 2, 48)]),
 (51, .st [.one [.i .u64, .i .u64]] [(0, 0, 44), (0, 1, 44)]),
 (52, .st [.one [.i .u64, .i .u64]] [(0, 0, 44), (0, 1, 44)]),
 (53, .ar 32 1 52 (.rows [.i .u64, .i .u64] 32)),
 (54, .ar 2 1 52 (.rows [.i .u64, .i .u64] 2)),
 (55, .st [.arr .i8 81, .arr .i8 16, .one [.i .i8], .rows [.i .u64, .i .u64] 32, .rows [.i .u64, .i .u64] 2] [(0, 0, 28), (3, 0, 53), (4, 0, 54)]),
 (56, .st [.arr .i8 81, .arr .i8 16, .one [.i .i8], .rows [.i .u64, .i .u64] 32, .rows [.i .u64, .i .u64] 2] [(0, 0, 28), (3, 0, 53), (4, 0, 54)]),
 (57, .sc (.f)),
 (59, .sc (.f)),
 (60, .sc (.f)),
 (61, .sc (.f)),
 (62, .sc (.f)),
 (63, .sc (.i .i64)),
 (64, .sc (.f)),
 (65, .sc (.f)),
 (66, .sc (.f)),
 (67, .sc (.f)),
 (68, .sc (.f)),
 (69, .sc (.f)),
 (70, .ar 81 1 4 (.barr 81)),
 (71, .sc (.f)),
 (72, .sc (.f)),
 (73, .sc (.f)),
 (74, .sc (.f)),
 (75, .sc (.f)),
 (76, .sc (.f)),
 (77, .sc (.m 3 52)),
 (78, .st [.one [.p, .i .i64, .i .i64, .i .u64, .i .u64, .m 3 52, .b]] [(0, 0, 31), (0, 1, 3), (0, 2, 3), (0, 3, 52), (0, 5, 77), (0, 6, 4)]),
 (79, .st [.one [.p, .i .i64, .i .i64, .i .u64, .i .u64, .m 3 52, .b]] [(0, 0, 31), (0, 1, 3), (0, 2, 3), (0, 3, 52), (0, 5, 77), (0, 6, 4)]),
 (80, .sc (.f)),
 (81, .sc (.f)),
 (82, .sc (.f)),
 (83, .sc (.f)),
 (84, .sc (.f)),
 (85, .sc (.f)),
 (86, .sc (.f)),
 (87, .sc (.f)),
 (88, .sc (.f)),
 (89, .sc (.f)),
 (90, .sc (.f)),
 (91, .st [.one [.i .i64, .i .i64, .i .i64, .b, .i .i8, .i .i8]] [(0, 0, 39), (0, 4, 23), (0, 5, 23)]),
 (92, .st [.one [.i .i64, .i .i64, .i .i64, .b, .i .i8, .i .i8]] [(0, 0, 39), (0, 4, 23), (0, 5, 23)]),
 (93, .sc (.f)),
 (94, .sc (.f)),
 (95, .sc (.f)),
 (96, .sc (.f)),
 (97, .sc (.f)),
 (98, .ar 9 1 3 (.arr .i64 9)),
 (99, .sc (.f)),
 (100, .sc (.f)),
 (101, .sc (.f)),
 (102, .sc (.sl 3)),
 (103, .sc (.f)),
 (104, .sc (.f)),
 (106, .sc (.f)),
 (107, .sc (.f)),
 (108, .sc (.f)),
 (110, .sc (.f)),
 (111, .sc (.f)),
 (112, .ar 2 1 3 (.arr .i64 2)),
 (113, .sc (.f)),
 (114, .sc (.f)),
 (115, .sc (.f)),
 (116, .sc (.f)),
 (117, .sc (.sl 120)),
 (118, .sc (.f)),
 (119, .st [.one [.i .i64, .i .i64]] [(0, 0, 3), (0, 1, 3)]),
 (120, .st [.one [.i .i64, .i .i64]] [(0, 0, 3), (0, 1, 3)]),
 (121, .sc (.f)),
 (122, .sc (.f)),
 (123, .sc (.f)),
 (124, .sc (.f)),
 (125, .sc (.f)),
 (126, .sc (.i .u64)),
 (127, .ar 64 1 5 (.arr .u8 64)),
 (128, .sc (.f)),
 (129, .sc (.f)),
 (130, .st [.one [.p, .p, .p, .str]] [(0, 0, 17), (0, 1, 17), (0, 2, 17), (0, 3, 9)]),
 (131, .st [.one [.p, .p, .p, .str]] [(0, 0, 17), (0, 1, 17), (0, 2, 17), (0, 3, 9)]),
 (135, .sc (.i .u32)),
 (136, .sc (.i .u8)),
 (137, .sc (.i .u8)),
 (138, .sc (.f)),
 (139, .sc (.p)),
 (140, .sc (.i .i32)),
 (141, .sc (.i .i32)),
 (142, .st [.one [.i .u64, .i .u64, .i .u32, .i .u8, .i .u8, .i .u8, .i .u8, .f, .p, .i .i32, .i .i32]] [(0, 0, 12), (0, 1, 12), (0, 2, 135), (0, 3, 136), (0, 4, 5), (0, 5, 5), (0, 6, 137), (0, 7, 138), (0, 8, 139), (0, 9, 140), (0, 10, 141)]),
 (143, .st [.one [.i .u64, .i .u64, .i .u32, .i .u8, .i .u8, .i .u8, .i .u8, .f, .p, .i .i32, .i .i32]] [(0, 0, 12), (0, 1, 12), (0, 2, 135), (0, 3, 136), (0, 4, 5), (0, 5, 5), (0, 6, 137), (0, 7, 138), (0, 8, 139), (0, 9, 140), (0, 10, 141)])]
def eqs : List TypeId := [3, 24, 26, 27, 28, 39, 52, 70, 120, 112]
def bytes : List (TypeId × Nat) := [(39, 32), (92, 40), (3, 8), (120, 16)]
theorem mixed : Tryz.prog.follows .mixedOrders = true := by kernel_rfl
theorem tab_ok : ∀ t L, Tab.get tab t = some L → LayOK Tryz.prog tab t L := tabB_ok (P := Tryz.prog) (tab := tab) (l := tab) (by kernel_rfl)
theorem eqs_ok : ∀ t L, memT t eqs = true → Tab.get tab t = some L → ∃ f ck, f ≤ 10000 ∧ tyCK Tryz.prog f t = some ck ∧ cksOf L.segTs = some ck ∧ Tryz.prog.eqGuardType Tryz.prog.depth t = false := eqsB_ok (P := Tryz.prog) (tab := tab) (l := eqs) (by kernel_rfl)
theorem bytes_ok : ∀ t n, byN t bytes = some n → ∃ i, Tryz.prog.info? t = some i ∧ i.bytes = n := bytesB_ok (P := Tryz.prog) (l := bytes) (by kernel_rfl)
def mkC (nt : Nat) (orc : Orc) (keeps : List (Nat × List Nat × List Nat)) (lp : {R : Type} → Nat → List V → List Obj → (Ex → List V → List Obj → Option R) → Option R) : Ctx := { tab := tab, eqs := eqs, bytes := bytes, nt := nt, orc := orc, keeps := keeps, lp := lp }
theorem mkC_ok {nt : Nat} {orc : Orc} {keeps : List (Nat × List Nat × List Nat)} {lp : {R : Type} → Nat → List V → List Obj → (Ex → List V → List Obj → Option R) → Option R} (h : OSound Tryz.prog orc) : CtxOK Tryz.prog (mkC nt orc keeps lp) := ⟨tab_ok, h, eqs_ok, bytes_ok, fun _ _ _ => rfl⟩
noncomputable def set_bitc : Ctx := mkC 21 (oNil) [] lpNil
theorem set_bitc_ok : CtxOK Tryz.prog set_bitc := mkC_ok (oNil_ok)
noncomputable def set_bitd : V → List Obj → Option (Int × Int) := fun v objs => match v, objs with
 | .agg [.one [.i .u64 y0, .i .u64 y1]], [] => some (y0, y1)
 | _, _ => none
theorem set_bit_eq (x0 : Int) : fnE set_bitc Tryz.f102 ([.s (.i .i64 x0)]) ([]) set_bitd = set_bit x0 := by kernel_rfl
noncomputable def set_bita {R : Type} (o : Orc) (vs : List V) (objs : List Obj) (K : Bool → V → List Obj → Option R) : Option R := match vs, objs with
 | [.s (.i .i64 x0)], [] => ob (set_bit x0) fun z => K false (.agg [.one [.i .u64 (z.1), .i .u64 (z.2)]]) ([])
 | _, _ => o 102 vs objs K
noncomputable def set_bito (o : Orc) : Orc := hook 102 (set_bita o) o
theorem set_bito_ok (o : Orc) (ho : OSound Tryz.prog o) : OSound Tryz.prog (set_bito o) := hook_ok ho fun vs objs K r h => by
 unfold set_bita at h
 split at h
 ·skip
  obtain ⟨t, h1, h2⟩ := ob_ok h
  refine anyOK_of mixed set_bitc_ok (fn := Tryz.f102) (b := (Tryz.f102).body.getD .skip) (by kernel_rfl) (by kernel_rfl) (by kernel_rfl) ((set_bit_eq _).trans h1) (m := 0) rfl (AllP.of (l' := []) (by kernel_rfl) trivial) fun v objs' hd => ?_
  unfold set_bitd at hd
  split at hd
  ·skip
   cases hd
   exact h2
  ·cases hd
 ·exact ho _ _ _ _ _ h
noncomputable def set_Minusc : Ctx := mkC 16 (oNil) [] lpNil
theorem set_Minusc_ok : CtxOK Tryz.prog set_Minusc := mkC_ok (oNil_ok)
noncomputable def set_Minusd : V → List Obj → Option (Int × Int) := fun v objs => match v, objs with
 | .agg [.one [.i .u64 y0, .i .u64 y1]], [] => some (y0, y1)
 | _, _ => none
theorem set_Minus_eq (x0 x1 : Int) (x2 x3 : Int) : fnE set_Minusc Tryz.f91 ([.agg [.one [.i .u64 x0, .i .u64 x1]], .agg [.one [.i .u64 x2, .i .u64 x3]]]) ([]) set_Minusd = set_Minus x0 x1 x2 x3 := by kernel_rfl
noncomputable def set_Minusa {R : Type} (o : Orc) (vs : List V) (objs : List Obj) (K : Bool → V → List Obj → Option R) : Option R := match vs, objs with
 | [.agg [.one [.i .u64 x0, .i .u64 x1]], .agg [.one [.i .u64 x2, .i .u64 x3]]], [] => ob (set_Minus x0 x1 x2 x3) fun z => K false (.agg [.one [.i .u64 (z.1), .i .u64 (z.2)]]) ([])
 | _, _ => o 91 vs objs K
noncomputable def set_Minuso (o : Orc) : Orc := hook 91 (set_Minusa o) o
theorem set_Minuso_ok (o : Orc) (ho : OSound Tryz.prog o) : OSound Tryz.prog (set_Minuso o) := hook_ok ho fun vs objs K r h => by
 unfold set_Minusa at h
 split at h
 ·skip
  obtain ⟨t, h1, h2⟩ := ob_ok h
  refine anyOK_of mixed set_Minusc_ok (fn := Tryz.f91) (b := (Tryz.f91).body.getD .skip) (by kernel_rfl) (by kernel_rfl) (by kernel_rfl) ((set_Minus_eq _ _ _ _).trans h1) (m := 0) rfl (AllP.of (l' := []) (by kernel_rfl) trivial) fun v objs' hd => ?_
  unfold set_Minusd at hd
  split at hd
  ·skip
   cases hd
   exact h2
  ·cases hd
 ·exact ho _ _ _ _ _ h
noncomputable def set_Withoutc : Ctx := mkC 9 ((set_Minuso (set_bito oNil))) [] lpNil
theorem set_Withoutc_ok : CtxOK Tryz.prog set_Withoutc := mkC_ok ((set_Minuso_ok _ (set_bito_ok _ oNil_ok)))
noncomputable def set_Withoutd : V → List Obj → Option (Int × Int) := fun v objs => match v, objs with
 | .agg [.one [.i .u64 y0, .i .u64 y1]], [] => some (y0, y1)
 | _, _ => none
theorem set_Without_eq (x0 x1 x2 : Int) : fnE set_Withoutc Tryz.f55 ([.agg [.one [.i .u64 x0, .i .u64 x1]], .s (.i .i64 x2)]) ([]) set_Withoutd = set_Without x0 x1 x2 := by kernel_rfl
noncomputable def set_Withouta {R : Type} (o : Orc) (vs : List V) (objs : List Obj) (K : Bool → V → List Obj → Option R) : Option R := match vs, objs with
 | [.agg [.one [.i .u64 x0, .i .u64 x1]], .s (.i .i64 x2)], [] => ob (set_Without x0 x1 x2) fun z => K false (.agg [.one [.i .u64 (z.1), .i .u64 (z.2)]]) ([])
 | _, _ => o 55 vs objs K
noncomputable def set_Withouto (o : Orc) : Orc := hook 55 (set_Withouta o) o
theorem set_Withouto_ok (o : Orc) (ho : OSound Tryz.prog o) : OSound Tryz.prog (set_Withouto o) := hook_ok ho fun vs objs K r h => by
 unfold set_Withouta at h
 split at h
 ·skip
  obtain ⟨t, h1, h2⟩ := ob_ok h
  refine anyOK_of mixed set_Withoutc_ok (fn := Tryz.f55) (b := (Tryz.f55).body.getD .skip) (by kernel_rfl) (by kernel_rfl) (by kernel_rfl) ((set_Without_eq _ _ _).trans h1) (m := 0) rfl (AllP.of (l' := []) (by kernel_rfl) trivial) fun v objs' hd => ?_
  unfold set_Withoutd at hd
  split at hd
  ·skip
   cases hd
   exact h2
  ·cases hd
 ·exact ho _ _ _ _ _ h
noncomputable def piece_Kindc : Ctx := mkC 28 (oNil) [] lpNil
theorem piece_Kindc_ok : CtxOK Tryz.prog piece_Kindc := mkC_ok (oNil_ok)
noncomputable def piece_Kindd : V → List Obj → Option (Int) := fun v objs => match v, objs with
 | .s (.i .i64 y0), [] => some (y0)
 | _, _ => none
theorem piece_Kind_eq (x0 : Int) : fnE piece_Kindc Tryz.f57 ([.s (.i .i8 x0)]) ([]) piece_Kindd = piece_Kind x0 := by kernel_rfl
noncomputable def piece_Kinda {R : Type} (o : Orc) (vs : List V) (objs : List Obj) (K : Bool → V → List Obj → Option R) : Option R := match vs, objs with
 | [.s (.i .i8 x0)], [] => ob (piece_Kind x0) fun y0 => K false (.s (.i .i64 y0)) ([])
 | _, _ => o 57 vs objs K
noncomputable def piece_Kindo (o : Orc) : Orc := hook 57 (piece_Kinda o) o
theorem piece_Kindo_ok (o : Orc) (ho : OSound Tryz.prog o) : OSound Tryz.prog (piece_Kindo o) := hook_ok ho fun vs objs K r h => by
 unfold piece_Kinda at h
 split at h
 ·skip
  obtain ⟨t, h1, h2⟩ := ob_ok h
  refine anyOK_of mixed piece_Kindc_ok (fn := Tryz.f57) (b := (Tryz.f57).body.getD .skip) (by kernel_rfl) (by kernel_rfl) (by kernel_rfl) ((piece_Kind_eq _).trans h1) (m := 0) rfl (AllP.of (l' := []) (by kernel_rfl) trivial) fun v objs' hd => ?_
  unfold piece_Kindd at hd
  split at hd
  ·skip
   cases hd
   exact h2
  ·cases hd
 ·exact ho _ _ _ _ _ h
noncomputable def piece_Sidec : Ctx := mkC 10 ((piece_Kindo oNil)) [] lpNil
theorem piece_Sidec_ok : CtxOK Tryz.prog piece_Sidec := mkC_ok ((piece_Kindo_ok _ oNil_ok))
noncomputable def piece_Sided : V → List Obj → Option (Int) := fun v objs => match v, objs with
 | .s (.i .i64 y0), [] => some (y0)
 | _, _ => none
theorem piece_Side_eq (x0 : Int) : fnE piece_Sidec Tryz.f56 ([.s (.i .i8 x0)]) ([]) piece_Sided = piece_Side x0 := by kernel_rfl
noncomputable def piece_Sidea {R : Type} (o : Orc) (vs : List V) (objs : List Obj) (K : Bool → V → List Obj → Option R) : Option R := match vs, objs with
 | [.s (.i .i8 x0)], [] => ob (piece_Side x0) fun y0 => K false (.s (.i .i64 y0)) ([])
 | _, _ => o 56 vs objs K
noncomputable def piece_Sideo (o : Orc) : Orc := hook 56 (piece_Sidea o) o
theorem piece_Sideo_ok (o : Orc) (ho : OSound Tryz.prog o) : OSound Tryz.prog (piece_Sideo o) := hook_ok ho fun vs objs K r h => by
 unfold piece_Sidea at h
 split at h
 ·skip
  obtain ⟨t, h1, h2⟩ := ob_ok h
  refine anyOK_of mixed piece_Sidec_ok (fn := Tryz.f56) (b := (Tryz.f56).body.getD .skip) (by kernel_rfl) (by kernel_rfl) (by kernel_rfl) ((piece_Side_eq _).trans h1) (m := 0) rfl (AllP.of (l' := []) (by kernel_rfl) trivial) fun v objs' hd => ?_
  unfold piece_Sided at hd
  split at hd
  ·skip
   cases hd
   exact h2
  ·cases hd
 ·exact ho _ _ _ _ _ h
noncomputable def set_Orc : Ctx := mkC 16 (oNil) [] lpNil
theorem set_Orc_ok : CtxOK Tryz.prog set_Orc := mkC_ok (oNil_ok)
noncomputable def set_Ord : V → List Obj → Option (Int × Int) := fun v objs => match v, objs with
 | .agg [.one [.i .u64 y0, .i .u64 y1]], [] => some (y0, y1)
 | _, _ => none
theorem set_Or_eq (x0 x1 : Int) (x2 x3 : Int) : fnE set_Orc Tryz.f85 ([.agg [.one [.i .u64 x0, .i .u64 x1]], .agg [.one [.i .u64 x2, .i .u64 x3]]]) ([]) set_Ord = set_Or x0 x1 x2 x3 := by kernel_rfl
noncomputable def set_Ora {R : Type} (o : Orc) (vs : List V) (objs : List Obj) (K : Bool → V → List Obj → Option R) : Option R := match vs, objs with
 | [.agg [.one [.i .u64 x0, .i .u64 x1]], .agg [.one [.i .u64 x2, .i .u64 x3]]], [] => ob (set_Or x0 x1 x2 x3) fun z => K false (.agg [.one [.i .u64 (z.1), .i .u64 (z.2)]]) ([])
 | _, _ => o 85 vs objs K
noncomputable def set_Oro (o : Orc) : Orc := hook 85 (set_Ora o) o
theorem set_Oro_ok (o : Orc) (ho : OSound Tryz.prog o) : OSound Tryz.prog (set_Oro o) := hook_ok ho fun vs objs K r h => by
 unfold set_Ora at h
 split at h
 ·skip
  obtain ⟨t, h1, h2⟩ := ob_ok h
  refine anyOK_of mixed set_Orc_ok (fn := Tryz.f85) (b := (Tryz.f85).body.getD .skip) (by kernel_rfl) (by kernel_rfl) (by kernel_rfl) ((set_Or_eq _ _ _ _).trans h1) (m := 0) rfl (AllP.of (l' := []) (by kernel_rfl) trivial) fun v objs' hd => ?_
  unfold set_Ord at hd
  split at hd
  ·skip
   cases hd
   exact h2
  ·cases hd
 ·exact ho _ _ _ _ _ h
noncomputable def set_Withc : Ctx := mkC 9 ((set_Oro (set_bito oNil))) [] lpNil
theorem set_Withc_ok : CtxOK Tryz.prog set_Withc := mkC_ok ((set_Oro_ok _ (set_bito_ok _ oNil_ok)))
noncomputable def set_Withd : V → List Obj → Option (Int × Int) := fun v objs => match v, objs with
 | .agg [.one [.i .u64 y0, .i .u64 y1]], [] => some (y0, y1)
 | _, _ => none
theorem set_With_eq (x0 x1 x2 : Int) : fnE set_Withc Tryz.f58 ([.agg [.one [.i .u64 x0, .i .u64 x1]], .s (.i .i64 x2)]) ([]) set_Withd = set_With x0 x1 x2 := by kernel_rfl
noncomputable def set_Witha {R : Type} (o : Orc) (vs : List V) (objs : List Obj) (K : Bool → V → List Obj → Option R) : Option R := match vs, objs with
 | [.agg [.one [.i .u64 x0, .i .u64 x1]], .s (.i .i64 x2)], [] => ob (set_With x0 x1 x2) fun z => K false (.agg [.one [.i .u64 (z.1), .i .u64 (z.2)]]) ([])
 | _, _ => o 58 vs objs K
noncomputable def set_Witho (o : Orc) : Orc := hook 58 (set_Witha o) o
theorem set_Witho_ok (o : Orc) (ho : OSound Tryz.prog o) : OSound Tryz.prog (set_Witho o) := hook_ok ho fun vs objs K r h => by
 unfold set_Witha at h
 split at h
 ·skip
  obtain ⟨t, h1, h2⟩ := ob_ok h
  refine anyOK_of mixed set_Withc_ok (fn := Tryz.f58) (b := (Tryz.f58).body.getD .skip) (by kernel_rfl) (by kernel_rfl) (by kernel_rfl) ((set_With_eq _ _ _).trans h1) (m := 0) rfl (AllP.of (l' := []) (by kernel_rfl) trivial) fun v objs' hd => ?_
  unfold set_Withd at hd
  split at hd
  ·skip
   cases hd
   exact h2
  ·cases hd
 ·exact ho _ _ _ _ _ h
noncomputable def board_Putc : Ctx := mkC 90 ((set_Witho (piece_Kindo (piece_Sideo (set_Withouto oNil))))) [] lpNil
theorem board_Putc_ok : CtxOK Tryz.prog board_Putc := mkC_ok ((set_Witho_ok _ (piece_Kindo_ok _ (piece_Sideo_ok _ (set_Withouto_ok _ oNil_ok)))))
noncomputable def board_Putd : V → List Obj → Option (List Int × List Int × Int × List (List Int) × List (List Int)) := fun v objs => match v, objs with
 | .tup [], [.cells 56 [.arr .i8 81 y0, .arr .i8 16 y1, .one [.i .i8 y2], .rows [.i .u64, .i .u64] 32 y3, .rows [.i .u64, .i .u64] 2 y4]] => some (y0, y1, y2, y3, y4)
 | _, _ => none
theorem board_Put_eq (x0 x1 : Int) (x2 x3 : List Int) (x4 : Int) (x5 x6 : List (List Int)) : fnE board_Putc Tryz.f29 ([.s (.ptr 0 0 none 0), .s (.i .i64 x0), .s (.i .i8 x1)]) ([.cells 56 [.arr .i8 81 x2, .arr .i8 16 x3, .one [.i .i8 x4], .rows [.i .u64, .i .u64] 32 x5, .rows [.i .u64, .i .u64] 2 x6]]) board_Putd = board_Put x0 x1 x2 x3 x4 x5 x6 := by kernel_rfl
noncomputable def board_Puta {R : Type} (o : Orc) (vs : List V) (objs : List Obj) (K : Bool → V → List Obj → Option R) : Option R := match vs, objs with
 | [.s (.ptr 0 0 none 0), .s (.i .i64 x0), .s (.i .i8 x1)], [.cells 56 [.arr .i8 81 x2, .arr .i8 16 x3, .one [.i .i8 x4], .rows [.i .u64, .i .u64] 32 x5, .rows [.i .u64, .i .u64] 2 x6]] => ob (board_Put x0 x1 x2 x3 x4 x5 x6) fun z => K false (.tup []) ([.cells 56 [.arr .i8 81 (z.1), .arr .i8 16 (z.2.1), .one [.i .i8 (z.2.2.1)], .rows [.i .u64, .i .u64] 32 (z.2.2.2.1), .rows [.i .u64, .i .u64] 2 (z.2.2.2.2)]])
 | _, _ => o 29 vs objs K
noncomputable def board_Puto (o : Orc) : Orc := hook 29 (board_Puta o) o
theorem board_Puto_ok (o : Orc) (ho : OSound Tryz.prog o) : OSound Tryz.prog (board_Puto o) := hook_ok ho fun vs objs K r h => by
 unfold board_Puta at h
 split at h
 ·skip
  obtain ⟨t, h1, h2⟩ := ob_ok h
  refine anyOK_of mixed board_Putc_ok (fn := Tryz.f29) (b := (Tryz.f29).body.getD .skip) (by kernel_rfl) (by kernel_rfl) (by kernel_rfl) ((board_Put_eq _ _ _ _ _ _ _).trans h1) (m := 1) rfl (AllP.of (l' := []) (by kernel_rfl) trivial) fun v objs' hd => ?_
  unfold board_Putd at hd
  split at hd
  ·skip
   cases hd
   exact h2
  ·cases hd
 ·exact ho _ _ _ _ _ h
noncomputable def board_Newl4d : Ex → List V → List Obj → Option (List Int × List Int × Int × List (List Int) × List (List Int)) := fun e vs objs => match e, vs, objs with
 | .exit 0, [.s (.ptr 0 0 none 0)], [.cells 56 [.arr .i8 81 y0, .arr .i8 16 y1, .one [.i .i8 y2], .rows [.i .u64, .i .u64] 32 y3, .rows [.i .u64, .i .u64] 2 y4]] => some (y0, y1, y2, y3, y4)
 | _, _, _ => none
noncomputable def board_Newp4 {R : Type} (vs : List V) (objs : List Obj) (K : Ex → List V → List Obj → Option R) : Option R := match vs, objs with
 | [.s (.ptr 0 0 none 0), .agg [.arr .i8 81 x0], .s (.i .i64 x1)], [.cells 56 [.arr .i8 81 x2, .arr .i8 16 x3, .one [.i .i8 x4], .rows [.i .u64, .i .u64] 32 x5, .rows [.i .u64, .i .u64] 2 x6]] => ob (board_Newl4 many x0 x1 x2 x3 x4 x5 x6) fun z => K (.exit 0) ([.s (.ptr 0 0 none 0)]) ([.cells 56 [.arr .i8 81 (z.1), .arr .i8 16 (z.2.1), .one [.i .i8 (z.2.2.1)], .rows [.i .u64, .i .u64] 32 (z.2.2.2.1), .rows [.i .u64, .i .u64] 2 (z.2.2.2.2)]])
 | _, _ => none
noncomputable def board_Newlp : {R : Type} → Nat → List V → List Obj → (Ex → List V → List Obj → Option R) → Option R := fun q vs objs K => bif Nat.beq q 4 then board_Newp4 vs objs K else none
noncomputable def board_Newc : Ctx := mkC 32 ((board_Puto oNil)) [(4, [3, 21, 22], [3])] board_Newlp
theorem board_Newc_ok : CtxOK Tryz.prog board_Newc := mkC_ok ((board_Puto_ok _ oNil_ok))
noncomputable def board_Newl4r (f : Nat) (x0 : List Int) (x1 : Int) (x2 x3 : List Int) (x4 : Int) (x5 x6 : List (List Int)) : Option (List Int × List Int × Int × List (List Int) × List (List Int)) := lrun board_Newc 0 [3, 21, 22] [3] (loopOf Tryz.f9 4) f ([.s (.ptr 0 0 none 0), .agg [.arr .i8 81 x0], .s (.i .i64 x1)]) ([.cells 56 [.arr .i8 81 x2, .arr .i8 16 x3, .one [.i .i8 x4], .rows [.i .u64, .i .u64] 32 x5, .rows [.i .u64, .i .u64] 2 x6]]) board_Newl4d
theorem board_Newl4_step (f : Nat) (x0 : List Int) (x1 : Int) (x2 x3 : List Int) (x4 : Int) (x5 x6 : List (List Int)) : board_Newl4r (f + 1) x0 x1 x2 x3 x4 x5 x6 = board_Newl4s (board_Newl4r f) x0 x1 x2 x3 x4 x5 x6 := by kernel_rfl
theorem board_Newl4_eq : ∀ f, board_Newl4r f = board_Newl4 f
 | 0 => rfl
 | f + 1 => by funext x0 x1 x2 x3 x4 x5 x6; rw [board_Newl4_step, board_Newl4_eq f]; rfl
theorem board_News4 : LoopSound Tryz.prog board_Newc 0 (loopOf Tryz.f9 4) :=
 loopSound_by mixed board_Newc_ok (AllP.of (l' := []) (by kernel_rfl) trivial) (q := 4) (kin := [3, 21, 22]) (kout := [3]) (by kernel_rfl) (by kernel_rfl) fun vs objs K r h => by
  replace h : board_Newp4 vs objs K = some r := h
  unfold board_Newp4 at h
  split at h
  ·skip
   obtain ⟨t, h1, h2⟩ := ob_ok h
   rw [← board_Newl4_eq] at h1
   refine ⟨_, board_Newl4d, t, many, h1, fun e vs' objs' hd => ?_⟩
   unfold board_Newl4d at hd
   split at hd
   ·skip
    cases hd
    exact h2
   ·cases hd
  ·cases h
noncomputable def board_Newd : V → List Obj → Option (List Int × List Int × Int × List (List Int) × List (List Int)) := fun v objs => match v, objs with
 | .s (.ptr 0 0 none 0), [.cells 56 [.arr .i8 81 y0, .arr .i8 16 y1, .one [.i .i8 y2], .rows [.i .u64, .i .u64] 32 y3, .rows [.i .u64, .i .u64] 2 y4]] => some (y0, y1, y2, y3, y4)
 | _, _ => none
theorem board_New_eq (x0 x1 : List Int) (x2 : Int) : fnE board_Newc Tryz.f9 ([.agg [.arr .i8 81 x0, .arr .i8 16 x1, .one [.i .i8 x2]]]) ([]) board_Newd = board_New x0 x1 x2 := by kernel_rfl
noncomputable def board_Newa {R : Type} (o : Orc) (vs : List V) (objs : List Obj) (K : Bool → V → List Obj → Option R) : Option R := match vs, objs with
 | [.agg [.arr .i8 81 x0, .arr .i8 16 x1, .one [.i .i8 x2]]], [] => ob (board_New x0 x1 x2) fun z => K false (.s (.ptr 0 0 none 0)) ([.cells 56 [.arr .i8 81 (z.1), .arr .i8 16 (z.2.1), .one [.i .i8 (z.2.2.1)], .rows [.i .u64, .i .u64] 32 (z.2.2.2.1), .rows [.i .u64, .i .u64] 2 (z.2.2.2.2)]])
 | _, _ => o 9 vs objs K
noncomputable def board_Newo (o : Orc) : Orc := hook 9 (board_Newa o) o
theorem board_Newo_ok (o : Orc) (ho : OSound Tryz.prog o) : OSound Tryz.prog (board_Newo o) := hook_ok ho fun vs objs K r h => by
 unfold board_Newa at h
 split at h
 ·skip
  obtain ⟨t, h1, h2⟩ := ob_ok h
  refine anyOK_of mixed board_Newc_ok (fn := Tryz.f9) (b := (Tryz.f9).body.getD .skip) (by kernel_rfl) (by kernel_rfl) (by kernel_rfl) ((board_New_eq _ _ _).trans h1) (m := 0) rfl (AllP.of (l' := [loopOf Tryz.f9 4]) (by kernel_rfl) ⟨board_News4, trivial⟩) fun v objs' hd => ?_
  unfold board_Newd at hd
  split at hd
  ·skip
   cases hd
   exact h2
  ·cases hd
 ·exact ho _ _ _ _ _ h
noncomputable def key_mixc : Ctx := mkC 19 (oNil) [] lpNil
theorem key_mixc_ok : CtxOK Tryz.prog key_mixc := mkC_ok (oNil_ok)
noncomputable def key_mixd : V → List Obj → Option (Int) := fun v objs => match v, objs with
 | .s (.i .u64 y0), [] => some (y0)
 | _, _ => none
theorem key_mix_eq (x0 : Int) : fnE key_mixc Tryz.f106 ([.s (.i .u64 x0)]) ([]) key_mixd = key_mix x0 := by kernel_rfl
noncomputable def key_mixa {R : Type} (o : Orc) (vs : List V) (objs : List Obj) (K : Bool → V → List Obj → Option R) : Option R := match vs, objs with
 | [.s (.i .u64 x0)], [] => ob (key_mix x0) fun y0 => K false (.s (.i .u64 y0)) ([])
 | _, _ => o 106 vs objs K
noncomputable def key_mixo (o : Orc) : Orc := hook 106 (key_mixa o) o
theorem key_mixo_ok (o : Orc) (ho : OSound Tryz.prog o) : OSound Tryz.prog (key_mixo o) := hook_ok ho fun vs objs K r h => by
 unfold key_mixa at h
 split at h
 ·skip
  obtain ⟨t, h1, h2⟩ := ob_ok h
  refine anyOK_of mixed key_mixc_ok (fn := Tryz.f106) (b := (Tryz.f106).body.getD .skip) (by kernel_rfl) (by kernel_rfl) (by kernel_rfl) ((key_mix_eq _).trans h1) (m := 0) rfl (AllP.of (l' := []) (by kernel_rfl) trivial) fun v objs' hd => ?_
  unfold key_mixd at hd
  split at hd
  ·skip
   cases hd
   exact h2
  ·cases hd
 ·exact ho _ _ _ _ _ h
noncomputable def key_Piecec : Ctx := mkC 23 ((key_mixo (piece_Kindo oNil))) [] lpNil
theorem key_Piecec_ok : CtxOK Tryz.prog key_Piecec := mkC_ok ((key_mixo_ok _ (piece_Kindo_ok _ oNil_ok)))
noncomputable def key_Pieced : V → List Obj → Option (Int) := fun v objs => match v, objs with
 | .s (.i .u64 y0), [] => some (y0)
 | _, _ => none
theorem key_Piece_eq (x0 x1 : Int) : fnE key_Piecec Tryz.f64 ([.s (.i .i64 x0), .s (.i .i8 x1)]) ([]) key_Pieced = key_Piece x0 x1 := by kernel_rfl
noncomputable def key_Piecea {R : Type} (o : Orc) (vs : List V) (objs : List Obj) (K : Bool → V → List Obj → Option R) : Option R := match vs, objs with
 | [.s (.i .i64 x0), .s (.i .i8 x1)], [] => ob (key_Piece x0 x1) fun y0 => K false (.s (.i .u64 y0)) ([])
 | _, _ => o 64 vs objs K
noncomputable def key_Pieceo (o : Orc) : Orc := hook 64 (key_Piecea o) o
theorem key_Pieceo_ok (o : Orc) (ho : OSound Tryz.prog o) : OSound Tryz.prog (key_Pieceo o) := hook_ok ho fun vs objs K r h => by
 unfold key_Piecea at h
 split at h
 ·skip
  obtain ⟨t, h1, h2⟩ := ob_ok h
  refine anyOK_of mixed key_Piecec_ok (fn := Tryz.f64) (b := (Tryz.f64).body.getD .skip) (by kernel_rfl) (by kernel_rfl) (by kernel_rfl) ((key_Piece_eq _ _).trans h1) (m := 0) rfl (AllP.of (l' := []) (by kernel_rfl) trivial) fun v objs' hd => ?_
  unfold key_Pieced at hd
  split at hd
  ·skip
   cases hd
   exact h2
  ·cases hd
 ·exact ho _ _ _ _ _ h
noncomputable def key_Handc : Ctx := mkC 41 ((key_mixo oNil)) [] lpNil
theorem key_Handc_ok : CtxOK Tryz.prog key_Handc := mkC_ok ((key_mixo_ok _ oNil_ok))
noncomputable def key_Handd : V → List Obj → Option (Int) := fun v objs => match v, objs with
 | .s (.i .u64 y0), [] => some (y0)
 | _, _ => none
theorem key_Hand_eq (x0 x1 x2 : Int) : fnE key_Handc Tryz.f65 ([.s (.i .i64 x0), .s (.i .i64 x1), .s (.i .i64 x2)]) ([]) key_Handd = key_Hand x0 x1 x2 := by kernel_rfl
noncomputable def key_Handa {R : Type} (o : Orc) (vs : List V) (objs : List Obj) (K : Bool → V → List Obj → Option R) : Option R := match vs, objs with
 | [.s (.i .i64 x0), .s (.i .i64 x1), .s (.i .i64 x2)], [] => ob (key_Hand x0 x1 x2) fun y0 => K false (.s (.i .u64 y0)) ([])
 | _, _ => o 65 vs objs K
noncomputable def key_Hando (o : Orc) : Orc := hook 65 (key_Handa o) o
theorem key_Hando_ok (o : Orc) (ho : OSound Tryz.prog o) : OSound Tryz.prog (key_Hando o) := hook_ok ho fun vs objs K r h => by
 unfold key_Handa at h
 split at h
 ·skip
  obtain ⟨t, h1, h2⟩ := ob_ok h
  refine anyOK_of mixed key_Handc_ok (fn := Tryz.f65) (b := (Tryz.f65).body.getD .skip) (by kernel_rfl) (by kernel_rfl) (by kernel_rfl) ((key_Hand_eq _ _ _).trans h1) (m := 0) rfl (AllP.of (l' := []) (by kernel_rfl) trivial) fun v objs' hd => ?_
  unfold key_Handd at hd
  split at hd
  ·skip
   cases hd
   exact h2
  ·cases hd
 ·exact ho _ _ _ _ _ h
noncomputable def key_Sidec : Ctx := mkC 2 ((key_mixo oNil)) [] lpNil
theorem key_Sidec_ok : CtxOK Tryz.prog key_Sidec := mkC_ok ((key_mixo_ok _ oNil_ok))
noncomputable def key_Sided : V → List Obj → Option (Int) := fun v objs => match v, objs with
 | .s (.i .u64 y0), [] => some (y0)
 | _, _ => none
theorem key_Side_eq : fnE key_Sidec Tryz.f66 ([]) ([]) key_Sided = key_Side  := by kernel_rfl
noncomputable def key_Sidea {R : Type} (o : Orc) (vs : List V) (objs : List Obj) (K : Bool → V → List Obj → Option R) : Option R := match vs, objs with
 | [], [] => ob (key_Side ) fun y0 => K false (.s (.i .u64 y0)) ([])
 | _, _ => o 66 vs objs K
noncomputable def key_Sideo (o : Orc) : Orc := hook 66 (key_Sidea o) o
theorem key_Sideo_ok (o : Orc) (ho : OSound Tryz.prog o) : OSound Tryz.prog (key_Sideo o) := hook_ok ho fun vs objs K r h => by
 unfold key_Sidea at h
 split at h
 ·skip
  obtain ⟨t, h1, h2⟩ := ob_ok h
  refine anyOK_of mixed key_Sidec_ok (fn := Tryz.f66) (b := (Tryz.f66).body.getD .skip) (by kernel_rfl) (by kernel_rfl) (by kernel_rfl) ((key_Side_eq).trans h1) (m := 0) rfl (AllP.of (l' := []) (by kernel_rfl) trivial) fun v objs' hd => ?_
  unfold key_Sided at hd
  split at hd
  ·skip
   cases hd
   exact h2
  ·cases hd
 ·exact ho _ _ _ _ _ h
noncomputable def key_Ofl3d : Ex → List V → List Obj → Option (Int × List Int × List Int × Int) := fun e vs objs => match e, vs, objs with
 | .exit 0, [.s (.ptr 0 0 none 0), .s (.i .u64 y0)], [.cells 28 [.arr .i8 81 y1, .arr .i8 16 y2, .one [.i .i8 y3]]] => some (y0, y1, y2, y3)
 | _, _, _ => none
noncomputable def key_Ofl11d : Ex → List V → List Obj → Option (Int × List Int × Int × List Int × List Int × Int) := fun e vs objs => match e, vs, objs with
 | .exit 4, [.s (.ptr 0 0 none 0), .s (.i .u64 y0), .agg [.arr .i8 16 y1], .s (.i .i64 y2)], [.cells 28 [.arr .i8 81 y3, .arr .i8 16 y4, .one [.i .i8 y5]]] => some (y0, y1, y2, y3, y4, y5)
 | _, _, _ => none
noncomputable def key_Ofl8d : Ex → List V → List Obj → Option (Int × List Int × List Int × Int) := fun e vs objs => match e, vs, objs with
 | .exit 2, [.s (.ptr 0 0 none 0), .s (.i .u64 y0)], [.cells 28 [.arr .i8 81 y1, .arr .i8 16 y2, .one [.i .i8 y3]]] => some (y0, y1, y2, y3)
 | _, _, _ => none
noncomputable def key_Ofp3 {R : Type} (vs : List V) (objs : List Obj) (K : Ex → List V → List Obj → Option R) : Option R := match vs, objs with
 | [.s (.ptr 0 0 none 0), .s (.i .u64 x0), .agg [.arr .i8 81 x1], .s (.i .i64 x2)], [.cells 28 [.arr .i8 81 x3, .arr .i8 16 x4, .one [.i .i8 x5]]] => ob (key_Ofl3 many x0 x1 x2 x3 x4 x5) fun z => K (.exit 0) ([.s (.ptr 0 0 none 0), .s (.i .u64 (z.1))]) ([.cells 28 [.arr .i8 81 (z.2.1), .arr .i8 16 (z.2.2.1), .one [.i .i8 (z.2.2.2)]]])
 | _, _ => none
noncomputable def key_Ofp11 {R : Type} (vs : List V) (objs : List Obj) (K : Ex → List V → List Obj → Option R) : Option R := match vs, objs with
 | [.s (.ptr 0 0 none 0), .s (.i .u64 x0), .s (.i .i64 x1), .agg [.arr .i8 16 x2], .s (.i .i64 x3), .agg [.arr .i8 8 x4], .s (.i .i64 x5)], [.cells 28 [.arr .i8 81 x6, .arr .i8 16 x7, .one [.i .i8 x8]]] => ob (key_Ofl11 many x0 x1 x2 x3 x4 x5 x6 x7 x8) fun z => K (.exit 4) ([.s (.ptr 0 0 none 0), .s (.i .u64 (z.1)), .agg [.arr .i8 16 (z.2.1)], .s (.i .i64 (z.2.2.1))]) ([.cells 28 [.arr .i8 81 (z.2.2.2.1), .arr .i8 16 (z.2.2.2.2.1), .one [.i .i8 (z.2.2.2.2.2)]]])
 | _, _ => none
noncomputable def key_Ofp8 {R : Type} (vs : List V) (objs : List Obj) (K : Ex → List V → List Obj → Option R) : Option R := match vs, objs with
 | [.s (.ptr 0 0 none 0), .s (.i .u64 x0), .agg [.arr .i8 16 x1], .s (.i .i64 x2)], [.cells 28 [.arr .i8 81 x3, .arr .i8 16 x4, .one [.i .i8 x5]]] => ob (key_Ofl8 many x0 x1 x2 x3 x4 x5) fun z => K (.exit 2) ([.s (.ptr 0 0 none 0), .s (.i .u64 (z.1))]) ([.cells 28 [.arr .i8 81 (z.2.1), .arr .i8 16 (z.2.2.1), .one [.i .i8 (z.2.2.2)]]])
 | _, _ => none
noncomputable def key_Oflp : {R : Type} → Nat → List V → List Obj → (Ex → List V → List Obj → Option R) → Option R := fun q vs objs K => bif Nat.beq q 3 then key_Ofp3 vs objs K else bif Nat.beq q 11 then key_Ofp11 vs objs K else bif Nat.beq q 8 then key_Ofp8 vs objs K else none
noncomputable def key_Ofc : Ctx := mkC 49 ((key_Sideo (key_Hando (key_Pieceo oNil)))) [(3, [1, 3, 11, 12], [1, 3]), (8, [1, 3, 23, 24], [1, 3]), (11, [1, 3, 6, 23, 24, 28, 29], [1, 3, 23, 24])] key_Oflp
theorem key_Ofc_ok : CtxOK Tryz.prog key_Ofc := mkC_ok ((key_Sideo_ok _ (key_Hando_ok _ (key_Pieceo_ok _ oNil_ok))))
noncomputable def key_Ofl3r (f : Nat) (x0 : Int) (x1 : List Int) (x2 : Int) (x3 x4 : List Int) (x5 : Int) : Option (Int × List Int × List Int × Int) := lrun key_Ofc 0 [1, 3, 11, 12] [1, 3] (loopOf Tryz.f33 3) f ([.s (.ptr 0 0 none 0), .s (.i .u64 x0), .agg [.arr .i8 81 x1], .s (.i .i64 x2)]) ([.cells 28 [.arr .i8 81 x3, .arr .i8 16 x4, .one [.i .i8 x5]]]) key_Ofl3d
theorem key_Ofl3_step (f : Nat) (x0 : Int) (x1 : List Int) (x2 : Int) (x3 x4 : List Int) (x5 : Int) : key_Ofl3r (f + 1) x0 x1 x2 x3 x4 x5 = key_Ofl3s (key_Ofl3r f) x0 x1 x2 x3 x4 x5 := by kernel_rfl
theorem key_Ofl3_eq : ∀ f, key_Ofl3r f = key_Ofl3 f
 | 0 => rfl
 | f + 1 => by funext x0 x1 x2 x3 x4 x5; rw [key_Ofl3_step, key_Ofl3_eq f]; rfl
noncomputable def key_Ofl11r (f : Nat) (x0 x1 : Int) (x2 : List Int) (x3 : Int) (x4 : List Int) (x5 : Int) (x6 x7 : List Int) (x8 : Int) : Option (Int × List Int × Int × List Int × List Int × Int) := lrun key_Ofc 0 [1, 3, 6, 23, 24, 28, 29] [1, 3, 23, 24] (loopOf Tryz.f33 11) f ([.s (.ptr 0 0 none 0), .s (.i .u64 x0), .s (.i .i64 x1), .agg [.arr .i8 16 x2], .s (.i .i64 x3), .agg [.arr .i8 8 x4], .s (.i .i64 x5)]) ([.cells 28 [.arr .i8 81 x6, .arr .i8 16 x7, .one [.i .i8 x8]]]) key_Ofl11d
theorem key_Ofl11_step (f : Nat) (x0 x1 : Int) (x2 : List Int) (x3 : Int) (x4 : List Int) (x5 : Int) (x6 x7 : List Int) (x8 : Int) : key_Ofl11r (f + 1) x0 x1 x2 x3 x4 x5 x6 x7 x8 = key_Ofl11s (key_Ofl11r f) x0 x1 x2 x3 x4 x5 x6 x7 x8 := by kernel_rfl
theorem key_Ofl11_eq : ∀ f, key_Ofl11r f = key_Ofl11 f
 | 0 => rfl
 | f + 1 => by funext x0 x1 x2 x3 x4 x5 x6 x7 x8; rw [key_Ofl11_step, key_Ofl11_eq f]; rfl
noncomputable def key_Ofl8r (f : Nat) (x0 : Int) (x1 : List Int) (x2 : Int) (x3 x4 : List Int) (x5 : Int) : Option (Int × List Int × List Int × Int) := lrun key_Ofc 0 [1, 3, 23, 24] [1, 3] (loopOf Tryz.f33 8) f ([.s (.ptr 0 0 none 0), .s (.i .u64 x0), .agg [.arr .i8 16 x1], .s (.i .i64 x2)]) ([.cells 28 [.arr .i8 81 x3, .arr .i8 16 x4, .one [.i .i8 x5]]]) key_Ofl8d
theorem key_Ofl8_step (f : Nat) (x0 : Int) (x1 : List Int) (x2 : Int) (x3 x4 : List Int) (x5 : Int) : key_Ofl8r (f + 1) x0 x1 x2 x3 x4 x5 = key_Ofl8s (key_Ofl8r f) x0 x1 x2 x3 x4 x5 := by kernel_rfl
theorem key_Ofl8_eq : ∀ f, key_Ofl8r f = key_Ofl8 f
 | 0 => rfl
 | f + 1 => by funext x0 x1 x2 x3 x4 x5; rw [key_Ofl8_step, key_Ofl8_eq f]; rfl
theorem key_Ofs3 : LoopSound Tryz.prog key_Ofc 0 (loopOf Tryz.f33 3) :=
 loopSound_by mixed key_Ofc_ok (AllP.of (l' := []) (by kernel_rfl) trivial) (q := 3) (kin := [1, 3, 11, 12]) (kout := [1, 3]) (by kernel_rfl) (by kernel_rfl) fun vs objs K r h => by
  replace h : key_Ofp3 vs objs K = some r := h
  unfold key_Ofp3 at h
  split at h
  ·skip
   obtain ⟨t, h1, h2⟩ := ob_ok h
   rw [← key_Ofl3_eq] at h1
   refine ⟨_, key_Ofl3d, t, many, h1, fun e vs' objs' hd => ?_⟩
   unfold key_Ofl3d at hd
   split at hd
   ·skip
    cases hd
    exact h2
   ·cases hd
  ·cases h
theorem key_Ofs11 : LoopSound Tryz.prog key_Ofc 0 (loopOf Tryz.f33 11) :=
 loopSound_by mixed key_Ofc_ok (AllP.of (l' := []) (by kernel_rfl) trivial) (q := 11) (kin := [1, 3, 6, 23, 24, 28, 29]) (kout := [1, 3, 23, 24]) (by kernel_rfl) (by kernel_rfl) fun vs objs K r h => by
  replace h : key_Ofp11 vs objs K = some r := h
  unfold key_Ofp11 at h
  split at h
  ·skip
   obtain ⟨t, h1, h2⟩ := ob_ok h
   rw [← key_Ofl11_eq] at h1
   refine ⟨_, key_Ofl11d, t, many, h1, fun e vs' objs' hd => ?_⟩
   unfold key_Ofl11d at hd
   split at hd
   ·skip
    cases hd
    exact h2
   ·cases hd
  ·cases h
theorem key_Ofs8 : LoopSound Tryz.prog key_Ofc 0 (loopOf Tryz.f33 8) :=
 loopSound_by mixed key_Ofc_ok (AllP.of (l' := [loopOf Tryz.f33 11]) (by kernel_rfl) ⟨key_Ofs11, trivial⟩) (q := 8) (kin := [1, 3, 23, 24]) (kout := [1, 3]) (by kernel_rfl) (by kernel_rfl) fun vs objs K r h => by
  replace h : key_Ofp8 vs objs K = some r := h
  unfold key_Ofp8 at h
  split at h
  ·skip
   obtain ⟨t, h1, h2⟩ := ob_ok h
   rw [← key_Ofl8_eq] at h1
   refine ⟨_, key_Ofl8d, t, many, h1, fun e vs' objs' hd => ?_⟩
   unfold key_Ofl8d at hd
   split at hd
   ·skip
    cases hd
    exact h2
   ·cases hd
  ·cases h
noncomputable def key_Ofd : V → List Obj → Option (Int) := fun v objs => match v, objs with
 | .s (.i .u64 y0), [] => some (y0)
 | _, _ => none
theorem key_Of_eq (x0 x1 : List Int) (x2 : Int) : fnE key_Ofc Tryz.f33 ([.agg [.arr .i8 81 x0, .arr .i8 16 x1, .one [.i .i8 x2]]]) ([]) key_Ofd = key_Of x0 x1 x2 := by kernel_rfl
noncomputable def key_Ofa {R : Type} (o : Orc) (vs : List V) (objs : List Obj) (K : Bool → V → List Obj → Option R) : Option R := match vs, objs with
 | [.agg [.arr .i8 81 x0, .arr .i8 16 x1, .one [.i .i8 x2]]], [] => ob (key_Of x0 x1 x2) fun y0 => K false (.s (.i .u64 y0)) ([])
 | _, _ => o 33 vs objs K
noncomputable def key_Ofo (o : Orc) : Orc := hook 33 (key_Ofa o) o
theorem key_Ofo_ok (o : Orc) (ho : OSound Tryz.prog o) : OSound Tryz.prog (key_Ofo o) := hook_ok ho fun vs objs K r h => by
 unfold key_Ofa at h
 split at h
 ·skip
  obtain ⟨t, h1, h2⟩ := ob_ok h
  refine anyOK_of mixed key_Ofc_ok (fn := Tryz.f33) (b := (Tryz.f33).body.getD .skip) (by kernel_rfl) (by kernel_rfl) (by kernel_rfl) ((key_Of_eq _ _ _).trans h1) (m := 0) rfl (AllP.of (l' := [loopOf Tryz.f33 3, loopOf Tryz.f33 8]) (by kernel_rfl) ⟨key_Ofs3, key_Ofs8, trivial⟩) fun v objs' hd => ?_
  unfold key_Ofd at hd
  split at hd
  ·skip
   cases hd
   exact h2
  ·cases hd
 ·exact ho _ _ _ _ _ h
noncomputable def deed_Newc : Ctx := mkC 14 ((key_Ofo (board_Newo oNil))) [] lpNil
theorem deed_Newc_ok : CtxOK Tryz.prog deed_Newc := mkC_ok ((key_Ofo_ok _ (board_Newo_ok _ oNil_ok)))
noncomputable def deed_Newd : V → List Obj → Option (Int × Nat × List Int × List Int × Int × List (List Int) × List (List Int) × Nat × List (List Int)) := fun v objs => match v, objs with
 | .s (.ptr 0 0 none 0), [.cells 50 [.one [.ptr 1 0 none 0, .i .u64 y0, .sl 2 0 y1 true]], .cells 56 [.arr .i8 81 y2, .arr .i8 16 y3, .one [.i .i8 y4], .rows [.i .u64, .i .u64] 32 y5, .rows [.i .u64, .i .u64] 2 y6], .sli 92 false (.rows [.i .i64, .i .i64, .i .i64, .b, .i .i8, .i .i8] y7 y8)] => some (y0, y1, y2, y3, y4, y5, y6, y7, y8)
 | _, _ => none
theorem deed_New_eq (x0 x1 : List Int) (x2 : Int) : fnE deed_Newc Tryz.f19 ([.agg [.arr .i8 81 x0, .arr .i8 16 x1, .one [.i .i8 x2]]]) ([]) deed_Newd = deed_New x0 x1 x2 := by kernel_rfl
noncomputable def deed_Newa {R : Type} (o : Orc) (vs : List V) (objs : List Obj) (K : Bool → V → List Obj → Option R) : Option R := match vs, objs with
 | [.agg [.arr .i8 81 x0, .arr .i8 16 x1, .one [.i .i8 x2]]], [] => ob (deed_New x0 x1 x2) fun z => K false (.s (.ptr 0 0 none 0)) ([.cells 50 [.one [.ptr 1 0 none 0, .i .u64 (z.1), .sl 2 0 (z.2.1) true]], .cells 56 [.arr .i8 81 (z.2.2.1), .arr .i8 16 (z.2.2.2.1), .one [.i .i8 (z.2.2.2.2.1)], .rows [.i .u64, .i .u64] 32 (z.2.2.2.2.2.1), .rows [.i .u64, .i .u64] 2 (z.2.2.2.2.2.2.1)], .sli 92 false (.rows [.i .i64, .i .i64, .i .i64, .b, .i .i8, .i .i8] (z.2.2.2.2.2.2.2.1) (z.2.2.2.2.2.2.2.2))])
 | _, _ => o 19 vs objs K
noncomputable def deed_Newo (o : Orc) : Orc := hook 19 (deed_Newa o) o
theorem deed_Newo_ok (o : Orc) (ho : OSound Tryz.prog o) : OSound Tryz.prog (deed_Newo o) := hook_ok ho fun vs objs K r h => by
 unfold deed_Newa at h
 split at h
 ·skip
  obtain ⟨t, h1, h2⟩ := ob_ok h
  refine anyOK_of mixed deed_Newc_ok (fn := Tryz.f19) (b := (Tryz.f19).body.getD .skip) (by kernel_rfl) (by kernel_rfl) (by kernel_rfl) ((deed_New_eq _ _ _).trans h1) (m := 0) rfl (AllP.of (l' := []) (by kernel_rfl) trivial) fun v objs' hd => ?_
  unfold deed_Newd at hd
  split at hd
  ·skip
   cases hd
   exact h2
  ·cases hd
 ·exact ho _ _ _ _ _ h
noncomputable def piece_Ofc : Ctx := mkC 28 (oNil) [] lpNil
theorem piece_Ofc_ok : CtxOK Tryz.prog piece_Ofc := mkC_ok (oNil_ok)
noncomputable def piece_Ofd : V → List Obj → Option (Int) := fun v objs => match v, objs with
 | .s (.i .i8 y0), [] => some (y0)
 | _, _ => none
theorem piece_Of_eq (x0 x1 : Int) : fnE piece_Ofc Tryz.f69 ([.s (.i .i64 x0), .s (.i .i64 x1)]) ([]) piece_Ofd = piece_Of x0 x1 := by kernel_rfl
noncomputable def piece_Ofa {R : Type} (o : Orc) (vs : List V) (objs : List Obj) (K : Bool → V → List Obj → Option R) : Option R := match vs, objs with
 | [.s (.i .i64 x0), .s (.i .i64 x1)], [] => ob (piece_Of x0 x1) fun y0 => K false (.s (.i .i8 y0)) ([])
 | _, _ => o 69 vs objs K
noncomputable def piece_Ofo (o : Orc) : Orc := hook 69 (piece_Ofa o) o
theorem piece_Ofo_ok (o : Orc) (ho : OSound Tryz.prog o) : OSound Tryz.prog (piece_Ofo o) := hook_ok ho fun vs objs K r h => by
 unfold piece_Ofa at h
 split at h
 ·skip
  obtain ⟨t, h1, h2⟩ := ob_ok h
  refine anyOK_of mixed piece_Ofc_ok (fn := Tryz.f69) (b := (Tryz.f69).body.getD .skip) (by kernel_rfl) (by kernel_rfl) (by kernel_rfl) ((piece_Of_eq _ _).trans h1) (m := 0) rfl (AllP.of (l' := []) (by kernel_rfl) trivial) fun v objs' hd => ?_
  unfold piece_Ofd at hd
  split at hd
  ·skip
   cases hd
   exact h2
  ·cases hd
 ·exact ho _ _ _ _ _ h
noncomputable def board_Ofc : Ctx := mkC 20 ((piece_Ofo oNil)) [] lpNil
theorem board_Ofc_ok : CtxOK Tryz.prog board_Ofc := mkC_ok ((piece_Ofo_ok _ oNil_ok))
noncomputable def board_Ofd : V → List Obj → Option (Int × Int) := fun v objs => match v, objs with
 | .agg [.one [.i .u64 y0, .i .u64 y1]], [] => some (y0, y1)
 | _, _ => none
theorem board_Of_eq (x0 x1 : Int) (x2 x3 : List Int) (x4 : Int) (x5 x6 : List (List Int)) : fnE board_Ofc Tryz.f86 ([.s (.ptr 0 0 none 0), .s (.i .i64 x0), .s (.i .i64 x1)]) ([.rcells 56 [.arr .i8 81 x2, .arr .i8 16 x3, .one [.i .i8 x4], .rows [.i .u64, .i .u64] 32 x5, .rows [.i .u64, .i .u64] 2 x6]]) (pureD 1 board_Ofd) = board_Of x0 x1 x2 x3 x4 x5 x6 := by kernel_rfl
noncomputable def board_Ofa {R : Type} (o : Orc) (vs : List V) (objs : List Obj) (K : Bool → V → List Obj → Option R) : Option R := match vs, List.map Obj.toRO objs with
 | [.s (.ptr 0 0 none 0), .s (.i .i64 x0), .s (.i .i64 x1)], [.rcells 56 [.arr .i8 81 x2, .arr .i8 16 x3, .one [.i .i8 x4], .rows [.i .u64, .i .u64] 32 x5, .rows [.i .u64, .i .u64] 2 x6]] => ob (board_Of x0 x1 x2 x3 x4 x5 x6) fun z => K true (.agg [.one [.i .u64 (z.1), .i .u64 (z.2)]]) ([])
 | _, _ => o 86 vs objs K
noncomputable def board_Ofo (o : Orc) : Orc := hook 86 (board_Ofa o) o
theorem board_Ofo_ok (o : Orc) (ho : OSound Tryz.prog o) : OSound Tryz.prog (board_Ofo o) := hook_ok ho fun vs objs K r h => by
 unfold board_Ofa at h
 split at h
 ·skip
  have hq : List.map Obj.toRO objs = _ := (by rename_i hq; first | exact hq | assumption)
  obtain ⟨t, h1, h2⟩ := ob_ok h
  refine purOK_by mixed board_Ofc_ok (m := 1) (fn := Tryz.f86) (b := (Tryz.f86).body.getD .skip) (by kernel_rfl) (by kernel_rfl) (by kernel_rfl) hq (by kernel_rfl) (by kernel_rfl) (AllP.of (l' := []) (by kernel_rfl) trivial) ((board_Of_eq _ _ _ _ _ _ _).trans h1) fun v objs' hd => ?_
  unfold board_Ofd at hd
  split at hd
  ·skip
   cases hd
   exact h2
  ·cases hd
 ·exact ho _ _ _ _ _ h
noncomputable def bits_TrailingZeros64c : Ctx := mkC 14 (oNil) [] lpNil
theorem bits_TrailingZeros64c_ok : CtxOK Tryz.prog bits_TrailingZeros64c := mkC_ok (oNil_ok)
noncomputable def bits_TrailingZeros64d : V → List Obj → Option (Int) := fun v objs => match v, objs with
 | .s (.i .i64 y0), [] => some (y0)
 | _, _ => none
theorem bits_TrailingZeros64_eqb (B : {R : Type} → Bool → Option R → Option R → Option R) (x0 : Int) : fnE { bits_TrailingZeros64c with brg := B } Tryz.f114 ([.s (.i .u64 x0)]) ([]) bits_TrailingZeros64d = bits_TrailingZeros64b B x0 := by kernel_rfl
theorem bits_TrailingZeros64_eq (x0 : Int) : fnE bits_TrailingZeros64c Tryz.f114 ([.s (.i .u64 x0)]) ([]) bits_TrailingZeros64d = bits_TrailingZeros64 x0 := bits_TrailingZeros64_eqb br x0
noncomputable def bits_TrailingZeros64a {R : Type} (o : Orc) (vs : List V) (objs : List Obj) (K : Bool → V → List Obj → Option R) : Option R := match vs, objs with
 | [.s (.i .u64 x0)], [] => ob (bits_TrailingZeros64 x0) fun y0 => K false (.s (.i .i64 y0)) ([])
 | _, _ => o 114 vs objs K
noncomputable def bits_TrailingZeros64o (o : Orc) : Orc := hook 114 (bits_TrailingZeros64a o) o
theorem bits_TrailingZeros64o_ok (o : Orc) (ho : OSound Tryz.prog o) : OSound Tryz.prog (bits_TrailingZeros64o o) := hook_ok ho fun vs objs K r h => by
 unfold bits_TrailingZeros64a at h
 split at h
 ·skip
  obtain ⟨t, h1, h2⟩ := ob_ok h
  refine anyOK_of mixed bits_TrailingZeros64c_ok (fn := Tryz.f114) (b := (Tryz.f114).body.getD .skip) (by kernel_rfl) (by kernel_rfl) (by kernel_rfl) ((bits_TrailingZeros64_eq _).trans h1) (m := 0) rfl (AllP.of (l' := []) (by kernel_rfl) trivial) fun v objs' hd => ?_
  unfold bits_TrailingZeros64d at hd
  split at hd
  ·skip
   cases hd
   exact h2
  ·cases hd
 ·exact ho _ _ _ _ _ h
noncomputable def set_Firstc : Ctx := mkC 18 ((bits_TrailingZeros64o oNil)) [] lpNil
theorem set_Firstc_ok : CtxOK Tryz.prog set_Firstc := mkC_ok ((bits_TrailingZeros64o_ok _ oNil_ok))
noncomputable def set_Firstd : V → List Obj → Option (Int) := fun v objs => match v, objs with
 | .s (.i .i64 y0), [] => some (y0)
 | _, _ => none
theorem set_First_eq (x0 x1 : Int) : fnE set_Firstc Tryz.f84 ([.agg [.one [.i .u64 x0, .i .u64 x1]]]) ([]) set_Firstd = set_First x0 x1 := by kernel_rfl
noncomputable def set_Firsta {R : Type} (o : Orc) (vs : List V) (objs : List Obj) (K : Bool → V → List Obj → Option R) : Option R := match vs, objs with
 | [.agg [.one [.i .u64 x0, .i .u64 x1]]], [] => ob (set_First x0 x1) fun y0 => K false (.s (.i .i64 y0)) ([])
 | _, _ => o 84 vs objs K
noncomputable def set_Firsto (o : Orc) : Orc := hook 84 (set_Firsta o) o
theorem set_Firsto_ok (o : Orc) (ho : OSound Tryz.prog o) : OSound Tryz.prog (set_Firsto o) := hook_ok ho fun vs objs K r h => by
 unfold set_Firsta at h
 split at h
 ·skip
  obtain ⟨t, h1, h2⟩ := ob_ok h
  refine anyOK_of mixed set_Firstc_ok (fn := Tryz.f84) (b := (Tryz.f84).body.getD .skip) (by kernel_rfl) (by kernel_rfl) (by kernel_rfl) ((set_First_eq _ _).trans h1) (m := 0) rfl (AllP.of (l' := []) (by kernel_rfl) trivial) fun v objs' hd => ?_
  unfold set_Firstd at hd
  split at hd
  ·skip
   cases hd
   exact h2
  ·cases hd
 ·exact ho _ _ _ _ _ h
noncomputable def board_Kingc : Ctx := mkC 9 ((set_Firsto (board_Ofo oNil))) [] lpNil
theorem board_Kingc_ok : CtxOK Tryz.prog board_Kingc := mkC_ok ((set_Firsto_ok _ (board_Ofo_ok _ oNil_ok)))
noncomputable def board_Kingd : V → List Obj → Option (Int) := fun v objs => match v, objs with
 | .s (.i .i64 y0), [] => some (y0)
 | _, _ => none
theorem board_King_eq (x0 : Int) (x1 x2 : List Int) (x3 : Int) (x4 x5 : List (List Int)) : fnE board_Kingc Tryz.f80 ([.s (.ptr 0 0 none 0), .s (.i .i64 x0)]) ([.rcells 56 [.arr .i8 81 x1, .arr .i8 16 x2, .one [.i .i8 x3], .rows [.i .u64, .i .u64] 32 x4, .rows [.i .u64, .i .u64] 2 x5]]) (pureD 1 board_Kingd) = board_King x0 x1 x2 x3 x4 x5 := by kernel_rfl
noncomputable def board_Kinga {R : Type} (o : Orc) (vs : List V) (objs : List Obj) (K : Bool → V → List Obj → Option R) : Option R := match vs, List.map Obj.toRO objs with
 | [.s (.ptr 0 0 none 0), .s (.i .i64 x0)], [.rcells 56 [.arr .i8 81 x1, .arr .i8 16 x2, .one [.i .i8 x3], .rows [.i .u64, .i .u64] 32 x4, .rows [.i .u64, .i .u64] 2 x5]] => ob (board_King x0 x1 x2 x3 x4 x5) fun y0 => K true (.s (.i .i64 y0)) ([])
 | _, _ => o 80 vs objs K
noncomputable def board_Kingo (o : Orc) : Orc := hook 80 (board_Kinga o) o
theorem board_Kingo_ok (o : Orc) (ho : OSound Tryz.prog o) : OSound Tryz.prog (board_Kingo o) := hook_ok ho fun vs objs K r h => by
 unfold board_Kinga at h
 split at h
 ·skip
  have hq : List.map Obj.toRO objs = _ := (by rename_i hq; first | exact hq | assumption)
  obtain ⟨t, h1, h2⟩ := ob_ok h
  refine purOK_by mixed board_Kingc_ok (m := 1) (fn := Tryz.f80) (b := (Tryz.f80).body.getD .skip) (by kernel_rfl) (by kernel_rfl) (by kernel_rfl) hq (by kernel_rfl) (by kernel_rfl) (AllP.of (l' := []) (by kernel_rfl) trivial) ((board_King_eq _ _ _ _ _ _).trans h1) fun v objs' hd => ?_
  unfold board_Kingd at hd
  split at hd
  ·skip
   cases hd
   exact h2
  ·cases hd
 ·exact ho _ _ _ _ _ h
noncomputable def set_Allc : Ctx := mkC 2 (oNil) [] lpNil
theorem set_Allc_ok : CtxOK Tryz.prog set_Allc := mkC_ok (oNil_ok)
noncomputable def set_Alld : V → List Obj → Option (Int × Int) := fun v objs => match v, objs with
 | .agg [.one [.i .u64 y0, .i .u64 y1]], [] => some (y0, y1)
 | _, _ => none
theorem set_All_eq : fnE set_Allc Tryz.f44 ([]) ([]) set_Alld = set_All  := by kernel_rfl
noncomputable def set_Alla {R : Type} (o : Orc) (vs : List V) (objs : List Obj) (K : Bool → V → List Obj → Option R) : Option R := match vs, objs with
 | [], [] => ob (set_All ) fun z => K false (.agg [.one [.i .u64 (z.1), .i .u64 (z.2)]]) ([])
 | _, _ => o 44 vs objs K
noncomputable def set_Allo (o : Orc) : Orc := hook 44 (set_Alla o) o
theorem set_Allo_ok (o : Orc) (ho : OSound Tryz.prog o) : OSound Tryz.prog (set_Allo o) := hook_ok ho fun vs objs K r h => by
 unfold set_Alla at h
 split at h
 ·skip
  obtain ⟨t, h1, h2⟩ := ob_ok h
  refine anyOK_of mixed set_Allc_ok (fn := Tryz.f44) (b := (Tryz.f44).body.getD .skip) (by kernel_rfl) (by kernel_rfl) (by kernel_rfl) ((set_All_eq).trans h1) (m := 0) rfl (AllP.of (l' := []) (by kernel_rfl) trivial) fun v objs' hd => ?_
  unfold set_Alld at hd
  split at hd
  ·skip
   cases hd
   exact h2
  ·cases hd
 ·exact ho _ _ _ _ _ h
noncomputable def set_Squaresl2d : Ex → List V → List Obj → Option (Nat × Int × Int × Nat × List Int) := fun e vs objs => match e, vs, objs with
 | .exit 0, [.s (.ptr 0 0 none 0), .s (.sl 1 0 y0 true)], [.cells 52 [.one [.i .u64 y1, .i .u64 y2]], .sli 3 false (.arr .i64 y3 y4)] => some (y0, y1, y2, y3, y4)
 | _, _, _ => none
noncomputable def set_Squaresl5d : Ex → List V → List Obj → Option (Nat × Nat × List Int) := fun e vs objs => match e, vs, objs with
 | .exit 2, [.s (.sl 0 0 y0 true)], [.sli 3 false (.arr .i64 y1 y2)] => some (y0, y1, y2)
 | _, _, _ => none
noncomputable def set_Squaresp2 {R : Type} (vs : List V) (objs : List Obj) (K : Ex → List V → List Obj → Option R) : Option R := match vs, objs with
 | [.s (.ptr 0 0 none 0), .s (.sl 1 0 x0 true)], [.cells 52 [.one [.i .u64 x1, .i .u64 x2]], .sli 3 false (.arr .i64 x3 x4)] => ob (set_Squaresl2 many x0 x1 x2 x3 x4) fun z => K (.exit 0) ([.s (.ptr 0 0 none 0), .s (.sl 1 0 (z.1) true)]) ([.cells 52 [.one [.i .u64 (z.2.1), .i .u64 (z.2.2.1)]], .sli 3 false (.arr .i64 (z.2.2.2.1) (z.2.2.2.2))])
 | _, _ => none
noncomputable def set_Squaresp5 {R : Type} (vs : List V) (objs : List Obj) (K : Ex → List V → List Obj → Option R) : Option R := match vs, objs with
 | [.s (.ptr 0 0 none 0), .s (.sl 1 0 x0 true)], [.cells 52 [.one [.i .u64 x1, .i .u64 x2]], .sli 3 false (.arr .i64 x3 x4)] => ob (set_Squaresl5 many x0 x1 x2 x3 x4) fun z => K (.exit 2) ([.s (.sl 0 0 (z.1) true)]) ([.sli 3 false (.arr .i64 (z.2.1) (z.2.2))])
 | _, _ => none
noncomputable def set_Squareslp : {R : Type} → Nat → List V → List Obj → (Ex → List V → List Obj → Option R) → Option R := fun q vs objs K => bif Nat.beq q 2 then set_Squaresp2 vs objs K else bif Nat.beq q 5 then set_Squaresp5 vs objs K else none
noncomputable def set_Squaresc : Ctx := mkC 38 ((bits_TrailingZeros64o oNil)) [(2, [1, 3], [1, 3]), (5, [1, 3], [3])] set_Squareslp
theorem set_Squaresc_ok : CtxOK Tryz.prog set_Squaresc := mkC_ok ((bits_TrailingZeros64o_ok _ oNil_ok))
noncomputable def set_Squaresl2r (f : Nat) (x0 : Nat) (x1 x2 : Int) (x3 : Nat) (x4 : List Int) : Option (Nat × Int × Int × Nat × List Int) := lrun set_Squaresc 0 [1, 3] [1, 3] (loopOf Tryz.f88 2) f ([.s (.ptr 0 0 none 0), .s (.sl 1 0 x0 true)]) ([.cells 52 [.one [.i .u64 x1, .i .u64 x2]], .sli 3 false (.arr .i64 x3 x4)]) set_Squaresl2d
theorem set_Squaresl2_step (f : Nat) (x0 : Nat) (x1 x2 : Int) (x3 : Nat) (x4 : List Int) : set_Squaresl2r (f + 1) x0 x1 x2 x3 x4 = set_Squaresl2s (set_Squaresl2r f) x0 x1 x2 x3 x4 := by kernel_rfl
theorem set_Squaresl2_eq : ∀ f, set_Squaresl2r f = set_Squaresl2 f
 | 0 => rfl
 | f + 1 => by funext x0 x1 x2 x3 x4; rw [set_Squaresl2_step, set_Squaresl2_eq f]; rfl
noncomputable def set_Squaresl5r (f : Nat) (x0 : Nat) (x1 x2 : Int) (x3 : Nat) (x4 : List Int) : Option (Nat × Nat × List Int) := lrun set_Squaresc 0 [1, 3] [3] (loopOf Tryz.f88 5) f ([.s (.ptr 0 0 none 0), .s (.sl 1 0 x0 true)]) ([.cells 52 [.one [.i .u64 x1, .i .u64 x2]], .sli 3 false (.arr .i64 x3 x4)]) set_Squaresl5d
theorem set_Squaresl5_step (f : Nat) (x0 : Nat) (x1 x2 : Int) (x3 : Nat) (x4 : List Int) : set_Squaresl5r (f + 1) x0 x1 x2 x3 x4 = set_Squaresl5s (set_Squaresl5r f) x0 x1 x2 x3 x4 := by kernel_rfl
theorem set_Squaresl5_eq : ∀ f, set_Squaresl5r f = set_Squaresl5 f
 | 0 => rfl
 | f + 1 => by funext x0 x1 x2 x3 x4; rw [set_Squaresl5_step, set_Squaresl5_eq f]; rfl
theorem set_Squaress2 : LoopSound Tryz.prog set_Squaresc 0 (loopOf Tryz.f88 2) :=
 loopSound_by mixed set_Squaresc_ok (AllP.of (l' := []) (by kernel_rfl) trivial) (q := 2) (kin := [1, 3]) (kout := [1, 3]) (by kernel_rfl) (by kernel_rfl) fun vs objs K r h => by
  replace h : set_Squaresp2 vs objs K = some r := h
  unfold set_Squaresp2 at h
  split at h
  ·skip
   obtain ⟨t, h1, h2⟩ := ob_ok h
   rw [← set_Squaresl2_eq] at h1
   refine ⟨_, set_Squaresl2d, t, many, h1, fun e vs' objs' hd => ?_⟩
   unfold set_Squaresl2d at hd
   split at hd
   ·skip
    cases hd
    exact h2
   ·cases hd
  ·cases h
theorem set_Squaress5 : LoopSound Tryz.prog set_Squaresc 0 (loopOf Tryz.f88 5) :=
 loopSound_by mixed set_Squaresc_ok (AllP.of (l' := []) (by kernel_rfl) trivial) (q := 5) (kin := [1, 3]) (kout := [3]) (by kernel_rfl) (by kernel_rfl) fun vs objs K r h => by
  replace h : set_Squaresp5 vs objs K = some r := h
  unfold set_Squaresp5 at h
  split at h
  ·skip
   obtain ⟨t, h1, h2⟩ := ob_ok h
   rw [← set_Squaresl5_eq] at h1
   refine ⟨_, set_Squaresl5d, t, many, h1, fun e vs' objs' hd => ?_⟩
   unfold set_Squaresl5d at hd
   split at hd
   ·skip
    cases hd
    exact h2
   ·cases hd
  ·cases h
noncomputable def set_Squaresd : V → List Obj → Option (Nat × Nat × List Int) := fun v objs => match v, objs with
 | .s (.sl 0 0 y0 true), [.sli 3 false (.arr .i64 y1 y2)] => some (y0, y1, y2)
 | _, _ => none
theorem set_Squares_eq (x0 x1 : Int) : fnE set_Squaresc Tryz.f88 ([.agg [.one [.i .u64 x0, .i .u64 x1]]]) ([]) set_Squaresd = set_Squares x0 x1 := by kernel_rfl
noncomputable def set_Squaresa {R : Type} (o : Orc) (vs : List V) (objs : List Obj) (K : Bool → V → List Obj → Option R) : Option R := match vs, objs with
 | [.agg [.one [.i .u64 x0, .i .u64 x1]]], [] => ob (set_Squares x0 x1) fun z => K false (.s (.sl 0 0 (z.1) true)) ([.sli 3 false (.arr .i64 (z.2.1) (z.2.2))])
 | _, _ => o 88 vs objs K
noncomputable def set_Squareso (o : Orc) : Orc := hook 88 (set_Squaresa o) o
theorem set_Squareso_ok (o : Orc) (ho : OSound Tryz.prog o) : OSound Tryz.prog (set_Squareso o) := hook_ok ho fun vs objs K r h => by
 unfold set_Squaresa at h
 split at h
 ·skip
  obtain ⟨t, h1, h2⟩ := ob_ok h
  refine anyOK_of mixed set_Squaresc_ok (fn := Tryz.f88) (b := (Tryz.f88).body.getD .skip) (by kernel_rfl) (by kernel_rfl) (by kernel_rfl) ((set_Squares_eq _ _).trans h1) (m := 0) rfl (AllP.of (l' := [loopOf Tryz.f88 2, loopOf Tryz.f88 5]) (by kernel_rfl) ⟨set_Squaress2, set_Squaress5, trivial⟩) fun v objs' hd => ?_
  unfold set_Squaresd at hd
  split at hd
  ·skip
   cases hd
   exact h2
  ·cases hd
 ·exact ho _ _ _ _ _ h
noncomputable def ray_Dirsc : Ctx := mkC 24 (oNil) [] lpNil
theorem ray_Dirsc_ok : CtxOK Tryz.prog ray_Dirsc := mkC_ok (oNil_ok)
noncomputable def ray_Dirsd : V → List Obj → Option (Nat × Nat × List (List Int)) := fun v objs => match v, objs with
 | .s (.sl 0 0 y0 true), [.sli 120 false (.rows [.i .i64, .i .i64] y1 y2)] => some (y0, y1, y2)
 | _, _ => none
theorem ray_Dirs_eq (x0 : Int) : fnE ray_Dirsc Tryz.f111 ([.s (.i .i64 x0)]) ([]) ray_Dirsd = ray_Dirs x0 := by kernel_rfl
noncomputable def ray_Dirsa {R : Type} (o : Orc) (vs : List V) (objs : List Obj) (K : Bool → V → List Obj → Option R) : Option R := match vs, objs with
 | [.s (.i .i64 x0)], [] => ob (ray_Dirs x0) fun z => K false (.s (.sl 0 0 (z.1) true)) ([.sli 120 false (.rows [.i .i64, .i .i64] (z.2.1) (z.2.2))])
 | _, _ => o 111 vs objs K
noncomputable def ray_Dirso (o : Orc) : Orc := hook 111 (ray_Dirsa o) o
theorem ray_Dirso_ok (o : Orc) (ho : OSound Tryz.prog o) : OSound Tryz.prog (ray_Dirso o) := hook_ok ho fun vs objs K r h => by
 unfold ray_Dirsa at h
 split at h
 ·skip
  obtain ⟨t, h1, h2⟩ := ob_ok h
  refine anyOK_of mixed ray_Dirsc_ok (fn := Tryz.f111) (b := (Tryz.f111).body.getD .skip) (by kernel_rfl) (by kernel_rfl) (by kernel_rfl) ((ray_Dirs_eq _).trans h1) (m := 0) rfl (AllP.of (l' := []) (by kernel_rfl) trivial) fun v objs' hd => ?_
  unfold ray_Dirsd at hd
  split at hd
  ·skip
   cases hd
   exact h2
  ·cases hd
 ·exact ho _ _ _ _ _ h
noncomputable def set_Ofl3d : Ex → List V → List Obj → Option (Nat × List Int × Int × Int × Int × Int) := fun e vs objs => match e, vs, objs with
 | .exit 0, [.s (.ptr 1 0 none 0), .s (.ptr 2 0 none 0)], [.sli 3 true (.arr .i64 y0 y1), .cells 52 [.one [.i .u64 y2, .i .u64 y3]], .cells 52 [.one [.i .u64 y4, .i .u64 y5]]] => some (y0, y1, y2, y3, y4, y5)
 | _, _, _ => none
noncomputable def set_Ofp3 {R : Type} (vs : List V) (objs : List Obj) (K : Ex → List V → List Obj → Option R) : Option R := match vs, objs with
 | [.s (.ptr 1 0 none 0), .s (.ptr 2 0 none 0), .s (.sl 0 0 x0 true), .s (.i .i64 x1), .s (.i .i64 x2)], [.sli 3 true (.arr .i64 x3 x4), .cells 52 [.one [.i .u64 x5, .i .u64 x6]], .cells 52 [.one [.i .u64 x7, .i .u64 x8]]] => ob (set_Ofl3 many x0 x1 x2 x3 x4 x5 x6 x7 x8) fun z => K (.exit 0) ([.s (.ptr 1 0 none 0), .s (.ptr 2 0 none 0)]) ([.sli 3 true (.arr .i64 (z.1) (z.2.1)), .cells 52 [.one [.i .u64 (z.2.2.1), .i .u64 (z.2.2.2.1)]], .cells 52 [.one [.i .u64 (z.2.2.2.2.1), .i .u64 (z.2.2.2.2.2)]]])
 | _, _ => none
noncomputable def set_Oflp : {R : Type} → Nat → List V → List Obj → (Ex → List V → List Obj → Option R) → Option R := fun q vs objs K => bif Nat.beq q 3 then set_Ofp3 vs objs K else none
noncomputable def set_Ofc : Ctx := mkC 17 ((set_Witho oNil)) [(3, [2, 3, 6, 7, 8], [2, 3])] set_Oflp
theorem set_Ofc_ok : CtxOK Tryz.prog set_Ofc := mkC_ok ((set_Witho_ok _ oNil_ok))
noncomputable def set_Ofl3r (f : Nat) (x0 : Nat) (x1 x2 : Int) (x3 : Nat) (x4 : List Int) (x5 x6 : Int) (x7 x8 : Int) : Option (Nat × List Int × Int × Int × Int × Int) := lrun set_Ofc 1 [2, 3, 6, 7, 8] [2, 3] (loopOf Tryz.f113 3) f ([.s (.ptr 1 0 none 0), .s (.ptr 2 0 none 0), .s (.sl 0 0 x0 true), .s (.i .i64 x1), .s (.i .i64 x2)]) ([.sli 3 true (.arr .i64 x3 x4), .cells 52 [.one [.i .u64 x5, .i .u64 x6]], .cells 52 [.one [.i .u64 x7, .i .u64 x8]]]) set_Ofl3d
theorem set_Ofl3_step (f : Nat) (x0 : Nat) (x1 x2 : Int) (x3 : Nat) (x4 : List Int) (x5 x6 : Int) (x7 x8 : Int) : set_Ofl3r (f + 1) x0 x1 x2 x3 x4 x5 x6 x7 x8 = set_Ofl3s (set_Ofl3r f) x0 x1 x2 x3 x4 x5 x6 x7 x8 := by kernel_rfl
theorem set_Ofl3_eq : ∀ f, set_Ofl3r f = set_Ofl3 f
 | 0 => rfl
 | f + 1 => by funext x0 x1 x2 x3 x4 x5 x6 x7 x8; rw [set_Ofl3_step, set_Ofl3_eq f]; rfl
theorem set_Ofs3 : LoopSound Tryz.prog set_Ofc 1 (loopOf Tryz.f113 3) :=
 loopSound_by mixed set_Ofc_ok (AllP.of (l' := []) (by kernel_rfl) trivial) (q := 3) (kin := [2, 3, 6, 7, 8]) (kout := [2, 3]) (by kernel_rfl) (by kernel_rfl) fun vs objs K r h => by
  replace h : set_Ofp3 vs objs K = some r := h
  unfold set_Ofp3 at h
  split at h
  ·skip
   obtain ⟨t, h1, h2⟩ := ob_ok h
   rw [← set_Ofl3_eq] at h1
   refine ⟨_, set_Ofl3d, t, many, h1, fun e vs' objs' hd => ?_⟩
   unfold set_Ofl3d at hd
   split at hd
   ·skip
    cases hd
    exact h2
   ·cases hd
  ·cases h
noncomputable def set_Ofd : V → List Obj → Option (Int × Int) := fun v objs => match v, objs with
 | .agg [.one [.i .u64 y0, .i .u64 y1]], [] => some (y0, y1)
 | _, _ => none
theorem set_Of_eq (x0 x1 : Nat) (x2 : List Int) : fnE set_Ofc Tryz.f113 ([.s (.sl 0 0 x0 true)]) ([.sli 3 true (.arr .i64 x1 x2)]) (pureD 1 set_Ofd) = set_Of x0 x1 x2 := by kernel_rfl
noncomputable def set_Ofa {R : Type} (o : Orc) (vs : List V) (objs : List Obj) (K : Bool → V → List Obj → Option R) : Option R := match vs, List.map Obj.toRO objs with
 | [.s (.sl 0 0 x0 true)], [.sli 3 true (.arr .i64 x1 x2)] => ob (set_Of x0 x1 x2) fun z => K true (.agg [.one [.i .u64 (z.1), .i .u64 (z.2)]]) ([])
 | _, _ => o 113 vs objs K
noncomputable def set_Ofo (o : Orc) : Orc := hook 113 (set_Ofa o) o
theorem set_Ofo_ok (o : Orc) (ho : OSound Tryz.prog o) : OSound Tryz.prog (set_Ofo o) := hook_ok ho fun vs objs K r h => by
 unfold set_Ofa at h
 split at h
 ·skip
  have hq : List.map Obj.toRO objs = _ := (by rename_i hq; first | exact hq | assumption)
  obtain ⟨t, h1, h2⟩ := ob_ok h
  refine purOK_by mixed set_Ofc_ok (m := 1) (fn := Tryz.f113) (b := (Tryz.f113).body.getD .skip) (by kernel_rfl) (by kernel_rfl) (by kernel_rfl) hq (by kernel_rfl) (by kernel_rfl) (AllP.of (l' := [loopOf Tryz.f113 3]) (by kernel_rfl) ⟨set_Ofs3, trivial⟩) ((set_Of_eq _ _ _).trans h1) fun v objs' hd => ?_
  unfold set_Ofd at hd
  split at hd
  ·skip
   cases hd
   exact h2
  ·cases hd
 ·exact ho _ _ _ _ _ h
noncomputable def set_Filec : Ctx := mkC 5 (oNil) [] lpNil
theorem set_Filec_ok : CtxOK Tryz.prog set_Filec := mkC_ok (oNil_ok)
noncomputable def set_Filed : V → List Obj → Option (Int) := fun v objs => match v, objs with
 | .s (.i .i64 y0), [] => some (y0)
 | _, _ => none
theorem set_File_eq (x0 : Int) : fnE set_Filec Tryz.f121 ([.s (.i .i64 x0)]) ([]) set_Filed = set_File x0 := by kernel_rfl
noncomputable def set_Filea {R : Type} (o : Orc) (vs : List V) (objs : List Obj) (K : Bool → V → List Obj → Option R) : Option R := match vs, objs with
 | [.s (.i .i64 x0)], [] => ob (set_File x0) fun y0 => K false (.s (.i .i64 y0)) ([])
 | _, _ => o 121 vs objs K
noncomputable def set_Fileo (o : Orc) : Orc := hook 121 (set_Filea o) o
theorem set_Fileo_ok (o : Orc) (ho : OSound Tryz.prog o) : OSound Tryz.prog (set_Fileo o) := hook_ok ho fun vs objs K r h => by
 unfold set_Filea at h
 split at h
 ·skip
  obtain ⟨t, h1, h2⟩ := ob_ok h
  refine anyOK_of mixed set_Filec_ok (fn := Tryz.f121) (b := (Tryz.f121).body.getD .skip) (by kernel_rfl) (by kernel_rfl) (by kernel_rfl) ((set_File_eq _).trans h1) (m := 0) rfl (AllP.of (l' := []) (by kernel_rfl) trivial) fun v objs' hd => ?_
  unfold set_Filed at hd
  split at hd
  ·skip
   cases hd
   exact h2
  ·cases hd
 ·exact ho _ _ _ _ _ h
noncomputable def set_Rankc : Ctx := mkC 5 (oNil) [] lpNil
theorem set_Rankc_ok : CtxOK Tryz.prog set_Rankc := mkC_ok (oNil_ok)
noncomputable def set_Rankd : V → List Obj → Option (Int) := fun v objs => match v, objs with
 | .s (.i .i64 y0), [] => some (y0)
 | _, _ => none
theorem set_Rank_eq (x0 : Int) : fnE set_Rankc Tryz.f131 ([.s (.i .i64 x0)]) ([]) set_Rankd = set_Rank x0 := by kernel_rfl
noncomputable def set_Ranka {R : Type} (o : Orc) (vs : List V) (objs : List Obj) (K : Bool → V → List Obj → Option R) : Option R := match vs, objs with
 | [.s (.i .i64 x0)], [] => ob (set_Rank x0) fun y0 => K false (.s (.i .i64 y0)) ([])
 | _, _ => o 131 vs objs K
noncomputable def set_Ranko (o : Orc) : Orc := hook 131 (set_Ranka o) o
theorem set_Ranko_ok (o : Orc) (ho : OSound Tryz.prog o) : OSound Tryz.prog (set_Ranko o) := hook_ok ho fun vs objs K r h => by
 unfold set_Ranka at h
 split at h
 ·skip
  obtain ⟨t, h1, h2⟩ := ob_ok h
  refine anyOK_of mixed set_Rankc_ok (fn := Tryz.f131) (b := (Tryz.f131).body.getD .skip) (by kernel_rfl) (by kernel_rfl) (by kernel_rfl) ((set_Rank_eq _).trans h1) (m := 0) rfl (AllP.of (l' := []) (by kernel_rfl) trivial) fun v objs' hd => ?_
  unfold set_Rankd at hd
  split at hd
  ·skip
   cases hd
   exact h2
  ·cases hd
 ·exact ho _ _ _ _ _ h
noncomputable def set_Squarec : Ctx := mkC 23 (oNil) [] lpNil
theorem set_Squarec_ok : CtxOK Tryz.prog set_Squarec := mkC_ok (oNil_ok)
noncomputable def set_Squared : V → List Obj → Option (Int) := fun v objs => match v, objs with
 | .s (.i .i64 y0), [] => some (y0)
 | _, _ => none
theorem set_Square_eq (x0 x1 : Int) : fnE set_Squarec Tryz.f79 ([.s (.i .i64 x0), .s (.i .i64 x1)]) ([]) set_Squared = set_Square x0 x1 := by kernel_rfl
noncomputable def set_Squarea {R : Type} (o : Orc) (vs : List V) (objs : List Obj) (K : Bool → V → List Obj → Option R) : Option R := match vs, objs with
 | [.s (.i .i64 x0), .s (.i .i64 x1)], [] => ob (set_Square x0 x1) fun y0 => K false (.s (.i .i64 y0)) ([])
 | _, _ => o 79 vs objs K
noncomputable def set_Squareo (o : Orc) : Orc := hook 79 (set_Squarea o) o
theorem set_Squareo_ok (o : Orc) (ho : OSound Tryz.prog o) : OSound Tryz.prog (set_Squareo o) := hook_ok ho fun vs objs K r h => by
 unfold set_Squarea at h
 split at h
 ·skip
  obtain ⟨t, h1, h2⟩ := ob_ok h
  refine anyOK_of mixed set_Squarec_ok (fn := Tryz.f79) (b := (Tryz.f79).body.getD .skip) (by kernel_rfl) (by kernel_rfl) (by kernel_rfl) ((set_Square_eq _ _).trans h1) (m := 0) rfl (AllP.of (l' := []) (by kernel_rfl) trivial) fun v objs' hd => ?_
  unfold set_Squared at hd
  split at hd
  ·skip
   cases hd
   exact h2
  ·cases hd
 ·exact ho _ _ _ _ _ h
noncomputable def step_Dir_Fromc : Ctx := mkC 42 ((set_Squareo (set_Ranko (set_Fileo oNil)))) [] lpNil
theorem step_Dir_Fromc_ok : CtxOK Tryz.prog step_Dir_Fromc := mkC_ok ((set_Squareo_ok _ (set_Ranko_ok _ (set_Fileo_ok _ oNil_ok))))
noncomputable def step_Dir_Fromd : V → List Obj → Option (Int) := fun v objs => match v, objs with
 | .s (.i .i64 y0), [] => some (y0)
 | _, _ => none
theorem step_Dir_From_eq (x0 x1 x2 : Int) : fnE step_Dir_Fromc Tryz.f126 ([.agg [.one [.i .i64 x0, .i .i64 x1]], .s (.i .i64 x2)]) ([]) step_Dir_Fromd = step_Dir_From x0 x1 x2 := by kernel_rfl
noncomputable def step_Dir_Froma {R : Type} (o : Orc) (vs : List V) (objs : List Obj) (K : Bool → V → List Obj → Option R) : Option R := match vs, objs with
 | [.agg [.one [.i .i64 x0, .i .i64 x1]], .s (.i .i64 x2)], [] => ob (step_Dir_From x0 x1 x2) fun y0 => K false (.s (.i .i64 y0)) ([])
 | _, _ => o 126 vs objs K
noncomputable def step_Dir_Fromo (o : Orc) : Orc := hook 126 (step_Dir_Froma o) o
theorem step_Dir_Fromo_ok (o : Orc) (ho : OSound Tryz.prog o) : OSound Tryz.prog (step_Dir_Fromo o) := hook_ok ho fun vs objs K r h => by
 unfold step_Dir_Froma at h
 split at h
 ·skip
  obtain ⟨t, h1, h2⟩ := ob_ok h
  refine anyOK_of mixed step_Dir_Fromc_ok (fn := Tryz.f126) (b := (Tryz.f126).body.getD .skip) (by kernel_rfl) (by kernel_rfl) (by kernel_rfl) ((step_Dir_From_eq _ _ _).trans h1) (m := 0) rfl (AllP.of (l' := []) (by kernel_rfl) trivial) fun v objs' hd => ?_
  unfold step_Dir_Fromd at hd
  split at hd
  ·skip
   cases hd
   exact h2
  ·cases hd
 ·exact ho _ _ _ _ _ h
noncomputable def set_Andc : Ctx := mkC 16 (oNil) [] lpNil
theorem set_Andc_ok : CtxOK Tryz.prog set_Andc := mkC_ok (oNil_ok)
noncomputable def set_Andd : V → List Obj → Option (Int × Int) := fun v objs => match v, objs with
 | .agg [.one [.i .u64 y0, .i .u64 y1]], [] => some (y0, y1)
 | _, _ => none
theorem set_And_eq (x0 x1 : Int) (x2 x3 : Int) : fnE set_Andc Tryz.f92 ([.agg [.one [.i .u64 x0, .i .u64 x1]], .agg [.one [.i .u64 x2, .i .u64 x3]]]) ([]) set_Andd = set_And x0 x1 x2 x3 := by kernel_rfl
noncomputable def set_Anda {R : Type} (o : Orc) (vs : List V) (objs : List Obj) (K : Bool → V → List Obj → Option R) : Option R := match vs, objs with
 | [.agg [.one [.i .u64 x0, .i .u64 x1]], .agg [.one [.i .u64 x2, .i .u64 x3]]], [] => ob (set_And x0 x1 x2 x3) fun z => K false (.agg [.one [.i .u64 (z.1), .i .u64 (z.2)]]) ([])
 | _, _ => o 92 vs objs K
noncomputable def set_Ando (o : Orc) : Orc := hook 92 (set_Anda o) o
theorem set_Ando_ok (o : Orc) (ho : OSound Tryz.prog o) : OSound Tryz.prog (set_Ando o) := hook_ok ho fun vs objs K r h => by
 unfold set_Anda at h
 split at h
 ·skip
  obtain ⟨t, h1, h2⟩ := ob_ok h
  refine anyOK_of mixed set_Andc_ok (fn := Tryz.f92) (b := (Tryz.f92).body.getD .skip) (by kernel_rfl) (by kernel_rfl) (by kernel_rfl) ((set_And_eq _ _ _ _).trans h1) (m := 0) rfl (AllP.of (l' := []) (by kernel_rfl) trivial) fun v objs' hd => ?_
  unfold set_Andd at hd
  split at hd
  ·skip
   cases hd
   exact h2
  ·cases hd
 ·exact ho _ _ _ _ _ h
noncomputable def set_Emptyc : Ctx := mkC 6 (oNil) [] lpNil
theorem set_Emptyc_ok : CtxOK Tryz.prog set_Emptyc := mkC_ok (oNil_ok)
noncomputable def set_Emptyd : V → List Obj → Option (Bool) := fun v objs => match v, objs with
 | .s (.b y0), [] => some (y0)
 | _, _ => none
theorem set_Empty_eq (x0 x1 : Int) : fnE set_Emptyc Tryz.f62 ([.agg [.one [.i .u64 x0, .i .u64 x1]]]) ([]) set_Emptyd = set_Empty x0 x1 := by kernel_rfl
noncomputable def set_Emptya {R : Type} (o : Orc) (vs : List V) (objs : List Obj) (K : Bool → V → List Obj → Option R) : Option R := match vs, objs with
 | [.agg [.one [.i .u64 x0, .i .u64 x1]]], [] => ob (set_Empty x0 x1) fun y0 => K false (.s (.b y0)) ([])
 | _, _ => o 62 vs objs K
noncomputable def set_Emptyo (o : Orc) : Orc := hook 62 (set_Emptya o) o
theorem set_Emptyo_ok (o : Orc) (ho : OSound Tryz.prog o) : OSound Tryz.prog (set_Emptyo o) := hook_ok ho fun vs objs K r h => by
 unfold set_Emptya at h
 split at h
 ·skip
  obtain ⟨t, h1, h2⟩ := ob_ok h
  refine anyOK_of mixed set_Emptyc_ok (fn := Tryz.f62) (b := (Tryz.f62).body.getD .skip) (by kernel_rfl) (by kernel_rfl) (by kernel_rfl) ((set_Empty_eq _ _).trans h1) (m := 0) rfl (AllP.of (l' := []) (by kernel_rfl) trivial) fun v objs' hd => ?_
  unfold set_Emptyd at hd
  split at hd
  ·skip
   cases hd
   exact h2
  ·cases hd
 ·exact ho _ _ _ _ _ h
noncomputable def set_Hasc : Ctx := mkC 11 ((set_Emptyo (set_Ando (set_bito oNil)))) [] lpNil
theorem set_Hasc_ok : CtxOK Tryz.prog set_Hasc := mkC_ok ((set_Emptyo_ok _ (set_Ando_ok _ (set_bito_ok _ oNil_ok))))
noncomputable def set_Hasd : V → List Obj → Option (Bool) := fun v objs => match v, objs with
 | .s (.b y0), [] => some (y0)
 | _, _ => none
theorem set_Has_eq (x0 x1 x2 : Int) : fnE set_Hasc Tryz.f95 ([.agg [.one [.i .u64 x0, .i .u64 x1]], .s (.i .i64 x2)]) ([]) set_Hasd = set_Has x0 x1 x2 := by kernel_rfl
noncomputable def set_Hasa {R : Type} (o : Orc) (vs : List V) (objs : List Obj) (K : Bool → V → List Obj → Option R) : Option R := match vs, objs with
 | [.agg [.one [.i .u64 x0, .i .u64 x1]], .s (.i .i64 x2)], [] => ob (set_Has x0 x1 x2) fun y0 => K false (.s (.b y0)) ([])
 | _, _ => o 95 vs objs K
noncomputable def set_Haso (o : Orc) : Orc := hook 95 (set_Hasa o) o
theorem set_Haso_ok (o : Orc) (ho : OSound Tryz.prog o) : OSound Tryz.prog (set_Haso o) := hook_ok ho fun vs objs K r h => by
 unfold set_Hasa at h
 split at h
 ·skip
  obtain ⟨t, h1, h2⟩ := ob_ok h
  refine anyOK_of mixed set_Hasc_ok (fn := Tryz.f95) (b := (Tryz.f95).body.getD .skip) (by kernel_rfl) (by kernel_rfl) (by kernel_rfl) ((set_Has_eq _ _ _).trans h1) (m := 0) rfl (AllP.of (l' := []) (by kernel_rfl) trivial) fun v objs' hd => ?_
  unfold set_Hasd at hd
  split at hd
  ·skip
   cases hd
   exact h2
  ·cases hd
 ·exact ho _ _ _ _ _ h
noncomputable def ray_Wayl5d : Ex → List V → List Obj → Option (Int × Int × Int × Int) := fun e vs objs => match e, vs, objs with
 | .exit 0, [.s (.ptr 0 0 none 0), .s (.ptr 1 0 none 0)], [.cells 52 [.one [.i .u64 y0, .i .u64 y1]], .cells 52 [.one [.i .u64 y2, .i .u64 y3]]] => some (y0, y1, y2, y3)
 | _, _, _ => none
noncomputable def ray_Wayp5 {R : Type} (vs : List V) (objs : List Obj) (K : Ex → List V → List Obj → Option R) : Option R := match vs, objs with
 | [.s (.i .i64 x0), .s (.ptr 0 0 none 0), .s (.ptr 1 0 none 0), .s (.ptr 2 0 none 0), .s (.ptr 3 0 none 0)], [.cells 120 [.one [.i .i64 x1, .i .i64 x2]], .cells 52 [.one [.i .u64 x3, .i .u64 x4]], .cells 52 [.one [.i .u64 x5, .i .u64 x6]], .cells 52 [.one [.i .u64 x7, .i .u64 x8]]] => ob (ray_Wayl5 many x0 x1 x2 x3 x4 x5 x6 x7 x8) fun z => K (.exit 0) ([.s (.ptr 0 0 none 0), .s (.ptr 1 0 none 0)]) ([.cells 52 [.one [.i .u64 (z.1), .i .u64 (z.2.1)]], .cells 52 [.one [.i .u64 (z.2.2.1), .i .u64 (z.2.2.2)]]])
 | _, _ => none
noncomputable def ray_Waylp : {R : Type} → Nat → List V → List Obj → (Ex → List V → List Obj → Option R) → Option R := fun q vs objs K => bif Nat.beq q 5 then ray_Wayp5 vs objs K else none
noncomputable def ray_Wayc : Ctx := mkC 27 ((set_Haso (set_Witho (step_Dir_Fromo oNil)))) [(5, [0, 4, 5, 6, 7], [6, 7])] ray_Waylp
theorem ray_Wayc_ok : CtxOK Tryz.prog ray_Wayc := mkC_ok ((set_Haso_ok _ (set_Witho_ok _ (step_Dir_Fromo_ok _ oNil_ok))))
noncomputable def ray_Wayl5r (f : Nat) (x0 x1 : Int) (x2 x3 : Int) (x4 x5 : Int) (x6 x7 x8 : Int) : Option (Int × Int × Int × Int) := lrun ray_Wayc 0 [0, 4, 5, 6, 7] [6, 7] (loopOf Tryz.f112 5) f ([.s (.i .i64 x0), .s (.ptr 0 0 none 0), .s (.ptr 1 0 none 0), .s (.ptr 2 0 none 0), .s (.ptr 3 0 none 0)]) ([.cells 120 [.one [.i .i64 x1, .i .i64 x2]], .cells 52 [.one [.i .u64 x3, .i .u64 x4]], .cells 52 [.one [.i .u64 x5, .i .u64 x6]], .cells 52 [.one [.i .u64 x7, .i .u64 x8]]]) ray_Wayl5d
theorem ray_Wayl5_step (f : Nat) (x0 x1 : Int) (x2 x3 : Int) (x4 x5 : Int) (x6 x7 x8 : Int) : ray_Wayl5r (f + 1) x0 x1 x2 x3 x4 x5 x6 x7 x8 = ray_Wayl5s (ray_Wayl5r f) x0 x1 x2 x3 x4 x5 x6 x7 x8 := by kernel_rfl
theorem ray_Wayl5_eq : ∀ f, ray_Wayl5r f = ray_Wayl5 f
 | 0 => rfl
 | f + 1 => by funext x0 x1 x2 x3 x4 x5 x6 x7 x8; rw [ray_Wayl5_step, ray_Wayl5_eq f]; rfl
theorem ray_Ways5 : LoopSound Tryz.prog ray_Wayc 0 (loopOf Tryz.f112 5) :=
 loopSound_by mixed ray_Wayc_ok (AllP.of (l' := []) (by kernel_rfl) trivial) (q := 5) (kin := [0, 4, 5, 6, 7]) (kout := [6, 7]) (by kernel_rfl) (by kernel_rfl) fun vs objs K r h => by
  replace h : ray_Wayp5 vs objs K = some r := h
  unfold ray_Wayp5 at h
  split at h
  ·skip
   obtain ⟨t, h1, h2⟩ := ob_ok h
   rw [← ray_Wayl5_eq] at h1
   refine ⟨_, ray_Wayl5d, t, many, h1, fun e vs' objs' hd => ?_⟩
   unfold ray_Wayl5d at hd
   split at hd
   ·skip
    cases hd
    exact h2
   ·cases hd
  ·cases h
noncomputable def ray_Wayd : V → List Obj → Option (Int × Int) := fun v objs => match v, objs with
 | .agg [.one [.i .u64 y0, .i .u64 y1]], [] => some (y0, y1)
 | _, _ => none
theorem ray_Way_eq (x0 x1 : Int) (x2 x3 x4 : Int) : fnE ray_Wayc Tryz.f112 ([.s (.i .i64 x0), .agg [.one [.i .i64 x1, .i .i64 x2]], .agg [.one [.i .u64 x3, .i .u64 x4]]]) ([]) ray_Wayd = ray_Way x0 x1 x2 x3 x4 := by kernel_rfl
noncomputable def ray_Waya {R : Type} (o : Orc) (vs : List V) (objs : List Obj) (K : Bool → V → List Obj → Option R) : Option R := match vs, objs with
 | [.s (.i .i64 x0), .agg [.one [.i .i64 x1, .i .i64 x2]], .agg [.one [.i .u64 x3, .i .u64 x4]]], [] => ob (ray_Way x0 x1 x2 x3 x4) fun z => K false (.agg [.one [.i .u64 (z.1), .i .u64 (z.2)]]) ([])
 | _, _ => o 112 vs objs K
noncomputable def ray_Wayo (o : Orc) : Orc := hook 112 (ray_Waya o) o
theorem ray_Wayo_ok (o : Orc) (ho : OSound Tryz.prog o) : OSound Tryz.prog (ray_Wayo o) := hook_ok ho fun vs objs K r h => by
 unfold ray_Waya at h
 split at h
 ·skip
  obtain ⟨t, h1, h2⟩ := ob_ok h
  refine anyOK_of mixed ray_Wayc_ok (fn := Tryz.f112) (b := (Tryz.f112).body.getD .skip) (by kernel_rfl) (by kernel_rfl) (by kernel_rfl) ((ray_Way_eq _ _ _ _ _).trans h1) (m := 0) rfl (AllP.of (l' := [loopOf Tryz.f112 5]) (by kernel_rfl) ⟨ray_Ways5, trivial⟩) fun v objs' hd => ?_
  unfold ray_Wayd at hd
  split at hd
  ·skip
   cases hd
   exact h2
  ·cases hd
 ·exact ho _ _ _ _ _ h
noncomputable def ray_Between_v2l2d : Ex → List V → List Obj → Option ((Int × Int) ⊕ (Int × Int)) := fun e vs objs => match e, vs, objs with
 | .ret, [.s (.ptr 0 0 none 0)], [.cells 52 [.one [.i .u64 y0, .i .u64 y1]]] => some (.inl (y0, y1))
 | .exit 0, [.s (.ptr 0 0 none 0)], [.cells 52 [.one [.i .u64 y0, .i .u64 y1]]] => some (.inr (y0, y1))
 | _, _, _ => none
noncomputable def ray_Between_v2p2 {R : Type} (vs : List V) (objs : List Obj) (K : Ex → List V → List Obj → Option R) : Option R := match vs, objs with
 | [.s (.i .i64 x0), .s (.i .i64 x1), .s (.ptr 0 0 none 0), .s (.sl 1 0 x2 true), .s (.i .i64 x3), .s (.i .i64 x4)], [.cells 52 [.one [.i .u64 x5, .i .u64 x6]], .sli 120 false (.rows [.i .i64, .i .i64] x7 x8)] => ob (ray_Between_v2l2 many x0 x1 x2 x3 x4 x5 x6 x7 x8) fun t0 => sw t0 (fun z => K (.ret) ([.s (.ptr 0 0 none 0)]) ([.cells 52 [.one [.i .u64 (z.1), .i .u64 (z.2)]]])) (fun z => K (.exit 0) ([.s (.ptr 0 0 none 0)]) ([.cells 52 [.one [.i .u64 (z.1), .i .u64 (z.2)]]]))
 | _, _ => none
noncomputable def ray_Between_v2lp : {R : Type} → Nat → List V → List Obj → (Ex → List V → List Obj → Option R) → Option R := fun q vs objs K => bif Nat.beq q 2 then ray_Between_v2p2 vs objs K else none
noncomputable def ray_Between_v2c : Ctx := mkC 30 ((set_Withouto (set_Haso (ray_Wayo (set_Ofo (ray_Dirso oNil)))))) [(2, [0, 1, 4, 10, 11, 12], [4])] ray_Between_v2lp
theorem ray_Between_v2c_ok : CtxOK Tryz.prog ray_Between_v2c := mkC_ok ((set_Withouto_ok _ (set_Haso_ok _ (ray_Wayo_ok _ (set_Ofo_ok _ (ray_Dirso_ok _ oNil_ok))))))
noncomputable def ray_Between_v2l2r (f : Nat) (x0 x1 : Int) (x2 : Nat) (x3 x4 : Int) (x5 x6 : Int) (x7 : Nat) (x8 : List (List Int)) : Option ((Int × Int) ⊕ (Int × Int)) := lrun ray_Between_v2c 0 [0, 1, 4, 10, 11, 12] [4] (loopOf Tryz.f83 2) f ([.s (.i .i64 x0), .s (.i .i64 x1), .s (.ptr 0 0 none 0), .s (.sl 1 0 x2 true), .s (.i .i64 x3), .s (.i .i64 x4)]) ([.cells 52 [.one [.i .u64 x5, .i .u64 x6]], .sli 120 false (.rows [.i .i64, .i .i64] x7 x8)]) ray_Between_v2l2d
theorem ray_Between_v2l2_step (f : Nat) (x0 x1 : Int) (x2 : Nat) (x3 x4 : Int) (x5 x6 : Int) (x7 : Nat) (x8 : List (List Int)) : ray_Between_v2l2r (f + 1) x0 x1 x2 x3 x4 x5 x6 x7 x8 = ray_Between_v2l2s (ray_Between_v2l2r f) x0 x1 x2 x3 x4 x5 x6 x7 x8 := by kernel_rfl
theorem ray_Between_v2l2_eq : ∀ f, ray_Between_v2l2r f = ray_Between_v2l2 f
 | 0 => rfl
 | f + 1 => by funext x0 x1 x2 x3 x4 x5 x6 x7 x8; rw [ray_Between_v2l2_step, ray_Between_v2l2_eq f]; rfl
theorem ray_Between_v2s2 : LoopSound Tryz.prog ray_Between_v2c 0 (loopOf Tryz.f83 2) :=
 loopSound_by mixed ray_Between_v2c_ok (AllP.of (l' := []) (by kernel_rfl) trivial) (q := 2) (kin := [0, 1, 4, 10, 11, 12]) (kout := [4]) (by kernel_rfl) (by kernel_rfl) fun vs objs K r h => by
  replace h : ray_Between_v2p2 vs objs K = some r := h
  unfold ray_Between_v2p2 at h
  split at h
  ·skip
   obtain ⟨t, h1, h2⟩ := ob_ok h
   rw [← ray_Between_v2l2_eq] at h1
   refine ⟨_, ray_Between_v2l2d, t, many, h1, fun e vs' objs' hd => ?_⟩
   unfold ray_Between_v2l2d at hd
   split at hd
   ·skip
    cases hd
    exact h2
   ·skip
    cases hd
    exact h2
   ·cases hd
  ·cases h
noncomputable def ray_Between_v2d : V → List Obj → Option (Int × Int) := fun v objs => match v, objs with
 | .agg [.one [.i .u64 y0, .i .u64 y1]], [] => some (y0, y1)
 | _, _ => none
theorem ray_Between_v2_eq (x0 x1 : Int) : fnE ray_Between_v2c Tryz.f83 ([.s (.i .i64 x0), .s (.i .i64 x1)]) ([]) ray_Between_v2d = ray_Between_v2 x0 x1 := by kernel_rfl
noncomputable def ray_Between_v2a {R : Type} (o : Orc) (vs : List V) (objs : List Obj) (K : Bool → V → List Obj → Option R) : Option R := match vs, objs with
 | [.s (.i .i64 x0), .s (.i .i64 x1)], [] => ob (ray_Between_v2 x0 x1) fun z => K false (.agg [.one [.i .u64 (z.1), .i .u64 (z.2)]]) ([])
 | _, _ => o 83 vs objs K
noncomputable def ray_Between_v2o (o : Orc) : Orc := hook 83 (ray_Between_v2a o) o
theorem ray_Between_v2o_ok (o : Orc) (ho : OSound Tryz.prog o) : OSound Tryz.prog (ray_Between_v2o o) := hook_ok ho fun vs objs K r h => by
 unfold ray_Between_v2a at h
 split at h
 ·skip
  obtain ⟨t, h1, h2⟩ := ob_ok h
  refine anyOK_of mixed ray_Between_v2c_ok (fn := Tryz.f83) (b := (Tryz.f83).body.getD .skip) (by kernel_rfl) (by kernel_rfl) (by kernel_rfl) ((ray_Between_v2_eq _ _).trans h1) (m := 0) rfl (AllP.of (l' := [loopOf Tryz.f83 2]) (by kernel_rfl) ⟨ray_Between_v2s2, trivial⟩) fun v objs' hd => ?_
  unfold ray_Between_v2d at hd
  split at hd
  ·skip
   cases hd
   exact h2
  ·cases hd
 ·exact ho _ _ _ _ _ h
noncomputable def board_Takenc : Ctx := mkC 14 ((set_Oro oNil)) [] lpNil
theorem board_Takenc_ok : CtxOK Tryz.prog board_Takenc := mkC_ok ((set_Oro_ok _ oNil_ok))
noncomputable def board_Takend : V → List Obj → Option (Int × Int) := fun v objs => match v, objs with
 | .agg [.one [.i .u64 y0, .i .u64 y1]], [] => some (y0, y1)
 | _, _ => none
theorem board_Taken_eq (x0 x1 : List Int) (x2 : Int) (x3 x4 : List (List Int)) : fnE board_Takenc Tryz.f90 ([.s (.ptr 0 0 none 0)]) ([.rcells 56 [.arr .i8 81 x0, .arr .i8 16 x1, .one [.i .i8 x2], .rows [.i .u64, .i .u64] 32 x3, .rows [.i .u64, .i .u64] 2 x4]]) (pureD 1 board_Takend) = board_Taken x0 x1 x2 x3 x4 := by kernel_rfl
noncomputable def board_Takena {R : Type} (o : Orc) (vs : List V) (objs : List Obj) (K : Bool → V → List Obj → Option R) : Option R := match vs, List.map Obj.toRO objs with
 | [.s (.ptr 0 0 none 0)], [.rcells 56 [.arr .i8 81 x0, .arr .i8 16 x1, .one [.i .i8 x2], .rows [.i .u64, .i .u64] 32 x3, .rows [.i .u64, .i .u64] 2 x4]] => ob (board_Taken x0 x1 x2 x3 x4) fun z => K true (.agg [.one [.i .u64 (z.1), .i .u64 (z.2)]]) ([])
 | _, _ => o 90 vs objs K
noncomputable def board_Takeno (o : Orc) : Orc := hook 90 (board_Takena o) o
theorem board_Takeno_ok (o : Orc) (ho : OSound Tryz.prog o) : OSound Tryz.prog (board_Takeno o) := hook_ok ho fun vs objs K r h => by
 unfold board_Takena at h
 split at h
 ·skip
  have hq : List.map Obj.toRO objs = _ := (by rename_i hq; first | exact hq | assumption)
  obtain ⟨t, h1, h2⟩ := ob_ok h
  refine purOK_by mixed board_Takenc_ok (m := 1) (fn := Tryz.f90) (b := (Tryz.f90).body.getD .skip) (by kernel_rfl) (by kernel_rfl) (by kernel_rfl) hq (by kernel_rfl) (by kernel_rfl) (AllP.of (l' := []) (by kernel_rfl) trivial) ((board_Taken_eq _ _ _ _ _).trans h1) fun v objs' hd => ?_
  unfold board_Takend at hd
  split at hd
  ·skip
   cases hd
   exact h2
  ·cases hd
 ·exact ho _ _ _ _ _ h
noncomputable def bits_OnesCount64c : Ctx := mkC 35 (oNil) [] lpNil
theorem bits_OnesCount64c_ok : CtxOK Tryz.prog bits_OnesCount64c := mkC_ok (oNil_ok)
noncomputable def bits_OnesCount64d : V → List Obj → Option (Int) := fun v objs => match v, objs with
 | .s (.i .i64 y0), [] => some (y0)
 | _, _ => none
theorem bits_OnesCount64_eq (x0 : Int) : fnE bits_OnesCount64c Tryz.f110 ([.s (.i .u64 x0)]) ([]) bits_OnesCount64d = bits_OnesCount64 x0 := by kernel_rfl
noncomputable def bits_OnesCount64a {R : Type} (o : Orc) (vs : List V) (objs : List Obj) (K : Bool → V → List Obj → Option R) : Option R := match vs, objs with
 | [.s (.i .u64 x0)], [] => ob (bits_OnesCount64 x0) fun y0 => K false (.s (.i .i64 y0)) ([])
 | _, _ => o 110 vs objs K
noncomputable def bits_OnesCount64o (o : Orc) : Orc := hook 110 (bits_OnesCount64a o) o
theorem bits_OnesCount64o_ok (o : Orc) (ho : OSound Tryz.prog o) : OSound Tryz.prog (bits_OnesCount64o o) := hook_ok ho fun vs objs K r h => by
 unfold bits_OnesCount64a at h
 split at h
 ·skip
  obtain ⟨t, h1, h2⟩ := ob_ok h
  refine anyOK_of mixed bits_OnesCount64c_ok (fn := Tryz.f110) (b := (Tryz.f110).body.getD .skip) (by kernel_rfl) (by kernel_rfl) (by kernel_rfl) ((bits_OnesCount64_eq _).trans h1) (m := 0) rfl (AllP.of (l' := []) (by kernel_rfl) trivial) fun v objs' hd => ?_
  unfold bits_OnesCount64d at hd
  split at hd
  ·skip
   cases hd
   exact h2
  ·cases hd
 ·exact ho _ _ _ _ _ h
noncomputable def set_Countc : Ctx := mkC 10 ((bits_OnesCount64o oNil)) [] lpNil
theorem set_Countc_ok : CtxOK Tryz.prog set_Countc := mkC_ok ((bits_OnesCount64o_ok _ oNil_ok))
noncomputable def set_Countd : V → List Obj → Option (Int) := fun v objs => match v, objs with
 | .s (.i .i64 y0), [] => some (y0)
 | _, _ => none
theorem set_Count_eq (x0 x1 : Int) : fnE set_Countc Tryz.f82 ([.agg [.one [.i .u64 x0, .i .u64 x1]]]) ([]) set_Countd = set_Count x0 x1 := by kernel_rfl
noncomputable def set_Counta {R : Type} (o : Orc) (vs : List V) (objs : List Obj) (K : Bool → V → List Obj → Option R) : Option R := match vs, objs with
 | [.agg [.one [.i .u64 x0, .i .u64 x1]]], [] => ob (set_Count x0 x1) fun y0 => K false (.s (.i .i64 y0)) ([])
 | _, _ => o 82 vs objs K
noncomputable def set_Counto (o : Orc) : Orc := hook 82 (set_Counta o) o
theorem set_Counto_ok (o : Orc) (ho : OSound Tryz.prog o) : OSound Tryz.prog (set_Counto o) := hook_ok ho fun vs objs K r h => by
 unfold set_Counta at h
 split at h
 ·skip
  obtain ⟨t, h1, h2⟩ := ob_ok h
  refine anyOK_of mixed set_Countc_ok (fn := Tryz.f82) (b := (Tryz.f82).body.getD .skip) (by kernel_rfl) (by kernel_rfl) (by kernel_rfl) ((set_Count_eq _ _).trans h1) (m := 0) rfl (AllP.of (l' := []) (by kernel_rfl) trivial) fun v objs' hd => ?_
  unfold set_Countd at hd
  split at hd
  ·skip
   cases hd
   exact h2
  ·cases hd
 ·exact ho _ _ _ _ _ h
noncomputable def board_Piecesc : Ctx := mkC 18 (oNil) [] lpNil
theorem board_Piecesc_ok : CtxOK Tryz.prog board_Piecesc := mkC_ok (oNil_ok)
noncomputable def board_Piecesd : V → List Obj → Option (Int × Int) := fun v objs => match v, objs with
 | .agg [.one [.i .u64 y0, .i .u64 y1]], [] => some (y0, y1)
 | _, _ => none
theorem board_Pieces_eq (x0 : Int) (x1 x2 : List Int) (x3 : Int) (x4 x5 : List (List Int)) : fnE board_Piecesc Tryz.f87 ([.s (.ptr 0 0 none 0), .s (.i .i64 x0)]) ([.rcells 56 [.arr .i8 81 x1, .arr .i8 16 x2, .one [.i .i8 x3], .rows [.i .u64, .i .u64] 32 x4, .rows [.i .u64, .i .u64] 2 x5]]) (pureD 1 board_Piecesd) = board_Pieces x0 x1 x2 x3 x4 x5 := by kernel_rfl
noncomputable def board_Piecesa {R : Type} (o : Orc) (vs : List V) (objs : List Obj) (K : Bool → V → List Obj → Option R) : Option R := match vs, List.map Obj.toRO objs with
 | [.s (.ptr 0 0 none 0), .s (.i .i64 x0)], [.rcells 56 [.arr .i8 81 x1, .arr .i8 16 x2, .one [.i .i8 x3], .rows [.i .u64, .i .u64] 32 x4, .rows [.i .u64, .i .u64] 2 x5]] => ob (board_Pieces x0 x1 x2 x3 x4 x5) fun z => K true (.agg [.one [.i .u64 (z.1), .i .u64 (z.2)]]) ([])
 | _, _ => o 87 vs objs K
noncomputable def board_Pieceso (o : Orc) : Orc := hook 87 (board_Piecesa o) o
theorem board_Pieceso_ok (o : Orc) (ho : OSound Tryz.prog o) : OSound Tryz.prog (board_Pieceso o) := hook_ok ho fun vs objs K r h => by
 unfold board_Piecesa at h
 split at h
 ·skip
  have hq : List.map Obj.toRO objs = _ := (by rename_i hq; first | exact hq | assumption)
  obtain ⟨t, h1, h2⟩ := ob_ok h
  refine purOK_by mixed board_Piecesc_ok (m := 1) (fn := Tryz.f87) (b := (Tryz.f87).body.getD .skip) (by kernel_rfl) (by kernel_rfl) (by kernel_rfl) hq (by kernel_rfl) (by kernel_rfl) (AllP.of (l' := []) (by kernel_rfl) trivial) ((board_Pieces_eq _ _ _ _ _ _).trans h1) fun v objs' hd => ?_
  unfold board_Piecesd at hd
  split at hd
  ·skip
   cases hd
   exact h2
  ·cases hd
 ·exact ho _ _ _ _ _ h
noncomputable def board_Atc : Ctx := mkC 18 (oNil) [] lpNil
theorem board_Atc_ok : CtxOK Tryz.prog board_Atc := mkC_ok (oNil_ok)
noncomputable def board_Atd : V → List Obj → Option (Int) := fun v objs => match v, objs with
 | .s (.i .i8 y0), [] => some (y0)
 | _, _ => none
theorem board_At_eq (x0 : Int) (x1 x2 : List Int) (x3 : Int) (x4 x5 : List (List Int)) : fnE board_Atc Tryz.f68 ([.s (.ptr 0 0 none 0), .s (.i .i64 x0)]) ([.rcells 56 [.arr .i8 81 x1, .arr .i8 16 x2, .one [.i .i8 x3], .rows [.i .u64, .i .u64] 32 x4, .rows [.i .u64, .i .u64] 2 x5]]) (pureD 1 board_Atd) = board_At x0 x1 x2 x3 x4 x5 := by kernel_rfl
noncomputable def board_Ata {R : Type} (o : Orc) (vs : List V) (objs : List Obj) (K : Bool → V → List Obj → Option R) : Option R := match vs, List.map Obj.toRO objs with
 | [.s (.ptr 0 0 none 0), .s (.i .i64 x0)], [.rcells 56 [.arr .i8 81 x1, .arr .i8 16 x2, .one [.i .i8 x3], .rows [.i .u64, .i .u64] 32 x4, .rows [.i .u64, .i .u64] 2 x5]] => ob (board_At x0 x1 x2 x3 x4 x5) fun y0 => K true (.s (.i .i8 y0)) ([])
 | _, _ => o 68 vs objs K
noncomputable def board_Ato (o : Orc) : Orc := hook 68 (board_Ata o) o
theorem board_Ato_ok (o : Orc) (ho : OSound Tryz.prog o) : OSound Tryz.prog (board_Ato o) := hook_ok ho fun vs objs K r h => by
 unfold board_Ata at h
 split at h
 ·skip
  have hq : List.map Obj.toRO objs = _ := (by rename_i hq; first | exact hq | assumption)
  obtain ⟨t, h1, h2⟩ := ob_ok h
  refine purOK_by mixed board_Atc_ok (m := 1) (fn := Tryz.f68) (b := (Tryz.f68).body.getD .skip) (by kernel_rfl) (by kernel_rfl) (by kernel_rfl) hq (by kernel_rfl) (by kernel_rfl) (AllP.of (l' := []) (by kernel_rfl) trivial) ((board_At_eq _ _ _ _ _ _).trans h1) fun v objs' hd => ?_
  unfold board_Atd at hd
  split at hd
  ·skip
   cases hd
   exact h2
  ·cases hd
 ·exact ho _ _ _ _ _ h
noncomputable def step_Dirsa (n : Nat) {R : Type} (o : Orc) (vs : List V) (objs : List Obj) (K : Bool → V → List Obj → Option R) : Option R := match vs, objs with
 | [.s (.i .i64 x0)], [] => ob (step_Dirs n x0) fun z => K false (.s (.sl 0 0 (z.1) true)) ([.sli 120 false (.rows [.i .i64, .i .i64] (z.2.1) (z.2.2))])
 | _, _ => o 127 vs objs K
noncomputable def step_Dirso (n : Nat) (o : Orc) : Orc := fun f vs objs K => bif Nat.beq f 127 then step_Dirsa n o vs objs K else o f vs objs K
noncomputable def step_Dirsoo (n : Nat) : Orc := step_Dirso n oNil
noncomputable def step_Dirsc (n : Nat) : Ctx := mkC 57 (step_Dirsoo n) [] lpNil
noncomputable def step_Dirsd : V → List Obj → Option (Nat × Nat × List (List Int)) := fun v objs => match v, objs with
 | .s (.sl 0 0 y0 true), [.sli 120 false (.rows [.i .i64, .i .i64] y1 y2)] => some (y0, y1, y2)
 | _, _ => none
theorem step_Dirs_eq (n : Nat) (x0 : Int) : fnE (step_Dirsc n) Tryz.f127 ([.s (.i .i64 x0)]) ([]) step_Dirsd = step_Dirs (n + 1) x0 := by kernel_rfl
theorem step_Dirs_up (n : Nat) (hc : CtxOK Tryz.prog (step_Dirsc n)) {vs : List V} {objs : List Obj} (x0 : Int) {R : Type} {K : Bool → V → List Obj → Option R} {r : R} (hv : vs = [.s (.i .i64 x0)]) (ho : objs = []) (h : ob (step_Dirs (n + 1) x0) (fun z => K false (.s (.sl 0 0 (z.1) true)) ([.sli 120 false (.rows [.i .i64, .i .i64] (z.2.1) (z.2.2))])) = some r) :
  ∃ p v objs', K p v objs' = some r ∧ AnyOK Tryz.prog 127 vs objs p v objs' := by
 subst hv
 subst ho
 obtain ⟨t, h1, h2⟩ := ob_ok h
 refine anyOK_by mixed hc (objs := []) (fn := Tryz.f127) (b := (Tryz.f127).body.getD .skip) (by kernel_rfl) (by kernel_rfl) (by kernel_rfl) (AllP.of (l' := []) (by kernel_rfl) trivial) ((step_Dirs_eq n x0).trans h1) fun v objs' hd => ?_
 unfold step_Dirsd at hd
 split at hd
 ·skip
  cases hd
  exact h2
 ·cases hd
theorem step_Dirso_ok : ∀ (n : Nat) (o : Orc) (ho : OSound Tryz.prog o), OSound Tryz.prog (step_Dirso n o) := by
 intro n
 induction n with
 | zero =>
   intro o ho R f vs objs K r h
   replace h : (bif Nat.beq f 127 then step_Dirsa 0 o vs objs K else o f vs objs K) = some r := h
   cases hf : Nat.beq f 127 with
   | false => rw [hf] at h; exact ho f vs objs K r h
   | true =>
     rw [hf] at h
     have e := Nat.eq_of_beq_eq_true hf
     subst e
     replace h : step_Dirsa 0 o vs objs K = some r := h
     unfold step_Dirsa at h
     split at h
     ·skip
      cases h
     ·exact ho _ _ _ _ _ h
 | succ n ih =>
   intro o ho R f vs objs K r h
   replace h : (bif Nat.beq f 127 then step_Dirsa (n + 1) o vs objs K else o f vs objs K) = some r := h
   cases hf : Nat.beq f 127 with
   | false => rw [hf] at h; exact ho f vs objs K r h
   | true =>
     rw [hf] at h
     have e := Nat.eq_of_beq_eq_true hf
     subst e
     replace h : step_Dirsa (n + 1) o vs objs K = some r := h
     unfold step_Dirsa at h
     split at h
     ·skip
      exact step_Dirs_up n ⟨tab_ok, ih _ oNil_ok, eqs_ok, bytes_ok, fun _ _ _ => rfl⟩ _ rfl rfl h
     ·exact ho _ _ _ _ _ h
noncomputable def step_Dir_Turnc : Ctx := mkC 15 (oNil) [] lpNil
theorem step_Dir_Turnc_ok : CtxOK Tryz.prog step_Dir_Turnc := mkC_ok (oNil_ok)
noncomputable def step_Dir_Turnd : V → List Obj → Option (Int × Int) := fun v objs => match v, objs with
 | .agg [.one [.i .i64 y0, .i .i64 y1]], [] => some (y0, y1)
 | _, _ => none
theorem step_Dir_Turn_eq (x0 x1 x2 : Int) : fnE step_Dir_Turnc Tryz.f116 ([.agg [.one [.i .i64 x0, .i .i64 x1]], .s (.i .i64 x2)]) ([]) step_Dir_Turnd = step_Dir_Turn x0 x1 x2 := by kernel_rfl
noncomputable def step_Dir_Turna {R : Type} (o : Orc) (vs : List V) (objs : List Obj) (K : Bool → V → List Obj → Option R) : Option R := match vs, objs with
 | [.agg [.one [.i .i64 x0, .i .i64 x1]], .s (.i .i64 x2)], [] => ob (step_Dir_Turn x0 x1 x2) fun z => K false (.agg [.one [.i .i64 (z.1), .i .i64 (z.2)]]) ([])
 | _, _ => o 116 vs objs K
noncomputable def step_Dir_Turno (o : Orc) : Orc := hook 116 (step_Dir_Turna o) o
theorem step_Dir_Turno_ok (o : Orc) (ho : OSound Tryz.prog o) : OSound Tryz.prog (step_Dir_Turno o) := hook_ok ho fun vs objs K r h => by
 unfold step_Dir_Turna at h
 split at h
 ·skip
  obtain ⟨t, h1, h2⟩ := ob_ok h
  refine anyOK_of mixed step_Dir_Turnc_ok (fn := Tryz.f116) (b := (Tryz.f116).body.getD .skip) (by kernel_rfl) (by kernel_rfl) (by kernel_rfl) ((step_Dir_Turn_eq _ _ _).trans h1) (m := 0) rfl (AllP.of (l' := []) (by kernel_rfl) trivial) fun v objs' hd => ?_
  unfold step_Dir_Turnd at hd
  split at hd
  ·skip
   cases hd
   exact h2
  ·cases hd
 ·exact ho _ _ _ _ _ h
noncomputable def step_Ofl3d : Ex → List V → List Obj → Option (Int × Int × Int × Int) := fun e vs objs => match e, vs, objs with
 | .exit 0, [.s (.ptr 0 0 none 0), .s (.ptr 1 0 none 0)], [.cells 52 [.one [.i .u64 y0, .i .u64 y1]], .cells 52 [.one [.i .u64 y2, .i .u64 y3]]] => some (y0, y1, y2, y3)
 | _, _, _ => none
noncomputable def step_Ofp3 {R : Type} (vs : List V) (objs : List Obj) (K : Ex → List V → List Obj → Option R) : Option R := match vs, objs with
 | [.s (.i .i8 x0), .s (.i .i64 x1), .s (.ptr 0 0 none 0), .s (.ptr 1 0 none 0), .s (.sl 2 0 x2 true), .s (.i .i64 x3), .s (.i .i64 x4)], [.cells 52 [.one [.i .u64 x5, .i .u64 x6]], .cells 52 [.one [.i .u64 x7, .i .u64 x8]], .sli 120 false (.rows [.i .i64, .i .i64] x9 x10)] => ob (step_Ofl3 many x0 x1 x2 x3 x4 x5 x6 x7 x8 x9 x10) fun z => K (.exit 0) ([.s (.ptr 0 0 none 0), .s (.ptr 1 0 none 0)]) ([.cells 52 [.one [.i .u64 (z.1), .i .u64 (z.2.1)]], .cells 52 [.one [.i .u64 (z.2.2.1), .i .u64 (z.2.2.2)]]])
 | _, _ => none
noncomputable def step_Oflp : {R : Type} → Nat → List V → List Obj → (Ex → List V → List Obj → Option R) → Option R := fun q vs objs K => bif Nat.beq q 3 then step_Ofp3 vs objs K else none
noncomputable def step_Ofc : Ctx := mkC 26 ((set_Witho (step_Dir_Fromo (step_Dir_Turno (piece_Sideo (step_Dirso many (piece_Kindo oNil))))))) [(3, [0, 1, 4, 5, 10, 11, 12], [4, 5])] step_Oflp
theorem step_Ofc_ok : CtxOK Tryz.prog step_Ofc := mkC_ok ((set_Witho_ok _ (step_Dir_Fromo_ok _ (step_Dir_Turno_ok _ (piece_Sideo_ok _ (step_Dirso_ok many _ (piece_Kindo_ok _ oNil_ok)))))))
noncomputable def step_Ofl3r (f : Nat) (x0 x1 : Int) (x2 : Nat) (x3 x4 : Int) (x5 x6 : Int) (x7 x8 : Int) (x9 : Nat) (x10 : List (List Int)) : Option (Int × Int × Int × Int) := lrun step_Ofc 0 [0, 1, 4, 5, 10, 11, 12] [4, 5] (loopOf Tryz.f115 3) f ([.s (.i .i8 x0), .s (.i .i64 x1), .s (.ptr 0 0 none 0), .s (.ptr 1 0 none 0), .s (.sl 2 0 x2 true), .s (.i .i64 x3), .s (.i .i64 x4)]) ([.cells 52 [.one [.i .u64 x5, .i .u64 x6]], .cells 52 [.one [.i .u64 x7, .i .u64 x8]], .sli 120 false (.rows [.i .i64, .i .i64] x9 x10)]) step_Ofl3d
theorem step_Ofl3_step (f : Nat) (x0 x1 : Int) (x2 : Nat) (x3 x4 : Int) (x5 x6 : Int) (x7 x8 : Int) (x9 : Nat) (x10 : List (List Int)) : step_Ofl3r (f + 1) x0 x1 x2 x3 x4 x5 x6 x7 x8 x9 x10 = step_Ofl3s (step_Ofl3r f) x0 x1 x2 x3 x4 x5 x6 x7 x8 x9 x10 := by kernel_rfl
theorem step_Ofl3_eq : ∀ f, step_Ofl3r f = step_Ofl3 f
 | 0 => rfl
 | f + 1 => by funext x0 x1 x2 x3 x4 x5 x6 x7 x8 x9 x10; rw [step_Ofl3_step, step_Ofl3_eq f]; rfl
theorem step_Ofs3 : LoopSound Tryz.prog step_Ofc 0 (loopOf Tryz.f115 3) :=
 loopSound_by mixed step_Ofc_ok (AllP.of (l' := []) (by kernel_rfl) trivial) (q := 3) (kin := [0, 1, 4, 5, 10, 11, 12]) (kout := [4, 5]) (by kernel_rfl) (by kernel_rfl) fun vs objs K r h => by
  replace h : step_Ofp3 vs objs K = some r := h
  unfold step_Ofp3 at h
  split at h
  ·skip
   obtain ⟨t, h1, h2⟩ := ob_ok h
   rw [← step_Ofl3_eq] at h1
   refine ⟨_, step_Ofl3d, t, many, h1, fun e vs' objs' hd => ?_⟩
   unfold step_Ofl3d at hd
   split at hd
   ·skip
    cases hd
    exact h2
   ·cases hd
  ·cases h
noncomputable def step_Ofd : V → List Obj → Option (Int × Int) := fun v objs => match v, objs with
 | .agg [.one [.i .u64 y0, .i .u64 y1]], [] => some (y0, y1)
 | _, _ => none
theorem step_Of_eq (x0 x1 : Int) : fnE step_Ofc Tryz.f115 ([.s (.i .i8 x0), .s (.i .i64 x1)]) ([]) step_Ofd = step_Of x0 x1 := by kernel_rfl
noncomputable def step_Ofa {R : Type} (o : Orc) (vs : List V) (objs : List Obj) (K : Bool → V → List Obj → Option R) : Option R := match vs, objs with
 | [.s (.i .i8 x0), .s (.i .i64 x1)], [] => ob (step_Of x0 x1) fun z => K false (.agg [.one [.i .u64 (z.1), .i .u64 (z.2)]]) ([])
 | _, _ => o 115 vs objs K
noncomputable def step_Ofo (o : Orc) : Orc := hook 115 (step_Ofa o) o
theorem step_Ofo_ok (o : Orc) (ho : OSound Tryz.prog o) : OSound Tryz.prog (step_Ofo o) := hook_ok ho fun vs objs K r h => by
 unfold step_Ofa at h
 split at h
 ·skip
  obtain ⟨t, h1, h2⟩ := ob_ok h
  refine anyOK_of mixed step_Ofc_ok (fn := Tryz.f115) (b := (Tryz.f115).body.getD .skip) (by kernel_rfl) (by kernel_rfl) (by kernel_rfl) ((step_Of_eq _ _).trans h1) (m := 0) rfl (AllP.of (l' := [loopOf Tryz.f115 3]) (by kernel_rfl) ⟨step_Ofs3, trivial⟩) fun v objs' hd => ?_
  unfold step_Ofd at hd
  split at hd
  ·skip
   cases hd
   exact h2
  ·cases hd
 ·exact ho _ _ _ _ _ h
end Go.Kk.KkMS
