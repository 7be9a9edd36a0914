/- Printed by a tool of this project (KkGen): the program's functions come to the plain ones. -/
import Derived.Test.YtljnnegjhcdlkaaGreatDoorProg
import Derived.Test.YtljnnegjhcdlkaaGreatDoorKkB
import Derived.Test.YtljnnegjhcdlkaaGreatDoorKkPl
namespace Go.Kk.KkMS
noncomputable section
open Go.Proofs Go.Kk.Pl
set_option maxRecDepth 100000
set_option maxHeartbeats 4000000
def tab : Tab := [(1, .sc (.f)),
 (2, .sc (.i .i64)),
 (3, .sc (.i .i64)),
 (4, .sc (.b)),
 (5, .sc (.i .u8)),
 (6, .sc (.i .u8)),
 (7, .st [.one [.i .i64, .i .i64, .b, .i .u8]] [(0, 0, 2), (0, 1, 3), (0, 2, 4), (0, 3, 6)]),
 (8, .st [.one [.i .i64, .i .i64, .b, .i .u8]] [(0, 0, 2), (0, 1, 3), (0, 2, 4), (0, 3, 6)]),
 (9, .sc (.str)),
 (10, .sc (.str)),
 (11, .sc (.str)),
 (12, .sc (.i .u64)),
 (13, .st [.one [.str, .i .u64]] [(0, 0, 9), (0, 1, 12)]),
 (14, .st [.one [.str, .i .u64]] [(0, 0, 9), (0, 1, 12)]),
 (15, .sc (.p)),
 (16, .sc (.p)),
 (17, .sc (.p)),
 (18, .st [.one [.p]] [(0, 0, 17)]),
 (19, .st [.one [.p]] [(0, 0, 17)]),
 (21, .sc (.i .i32)),
 (22, .sc (.i .i8)),
 (23, .sc (.i .i8)),
 (24, .ar 81 1 23 (.arr .i8 81)),
 (25, .ar 8 1 22 (.arr .i8 8)),
 (26, .ar 2 8 25 (.arr .i8 16)),
 (27, .st [.arr .i8 81, .arr .i8 16, .one [.i .i8]] [(0, 0, 24), (1, 0, 26), (2, 0, 22)]),
 (28, .st [.arr .i8 81, .arr .i8 16, .one [.i .i8]] [(0, 0, 24), (1, 0, 26), (2, 0, 22)]),
 (29, .sc (.f)),
 (30, .sc (.f)),
 (31, .sc (.p)),
 (32, .sc (.f)),
 (33, .sc (.f)),
 (34, .sc (.f)),
 (35, .sc (.f)),
 (36, .sc (.sl 39)),
 (37, .sc (.f)),
 (38, .st [.one [.i .i64, .i .i64, .i .i64, .b]] [(0, 0, 3), (0, 1, 3), (0, 2, 3), (0, 3, 4)]),
 (39, .st [.one [.i .i64, .i .i64, .i .i64, .b]] [(0, 0, 3), (0, 1, 3), (0, 2, 3), (0, 3, 4)]),
 (41, .sc (.f)),
 (42, .sc (.p)),
 (43, .sc (.f)),
 (44, .sc (.i .u64)),
 (45, .sc (.i .u64)),
 (46, .sc (.f)),
 (47, .sc (.f)),
 (48, .sc (.sl 92)),
 (49, .st [.one [.p, .i .u64, .sl 92]] [(0, 0, 31), (0, 1, 45), (0, 2, 48)]),
 (50, .st [.one [.p, .i .u64, .sl 92]] [(0, 0, 31), (0, 1, 45), (0, 2, 48)]),
 (51, .st [.one [.i .u64, .i .u64]] [(0, 0, 44), (0, 1, 44)]),
 (52, .st [.one [.i .u64, .i .u64]] [(0, 0, 44), (0, 1, 44)]),
 (53, .ar 32 1 52 (.rows [.i .u64, .i .u64] 32)),
 (54, .ar 2 1 52 (.rows [.i .u64, .i .u64] 2)),
 (55, .st [.arr .i8 81, .arr .i8 16, .one [.i .i8], .rows [.i .u64, .i .u64] 32, .rows [.i .u64, .i .u64] 2] [(0, 0, 28), (3, 0, 53), (4, 0, 54)]),
 (56, .st [.arr .i8 81, .arr .i8 16, .one [.i .i8], .rows [.i .u64, .i .u64] 32, .rows [.i .u64, .i .u64] 2] [(0, 0, 28), (3, 0, 53), (4, 0, 54)]),
 (57, .sc (.f)),
 (59, .sc (.f)),
 (60, .sc (.f)),
 (61, .sc (.f)),
 (62, .sc (.f)),
 (63, .sc (.i .i64)),
 (64, .sc (.f)),
 (65, .sc (.f)),
 (66, .sc (.f)),
 (67, .sc (.f)),
 (68, .sc (.f)),
 (69, .sc (.f)),
 (70, .ar 81 1 4 (.barr 81)),
 (71, .sc (.f)),
 (72, .sc (.f)),
 (73, .sc (.f)),
 (74, .sc (.f)),
 (75, .sc (.f)),
 (76, .sc (.f)),
 (77, .sc (.m 3 52)),
 (78, .st [.one [.p, .i .i64, .i .i64, .i .u64, .i .u64, .m 3 52, .b]] [(0, 0, 31), (0, 1, 3), (0, 2, 3), (0, 3, 52), (0, 5, 77), (0, 6, 4)]),
 (79, .st [.one [.p, .i .i64, .i .i64, .i .u64, .i .u64, .m 3 52, .b]] [(0, 0, 31), (0, 1, 3), (0, 2, 3), (0, 3, 52), (0, 5, 77), (0, 6, 4)]),
 (80, .sc (.f)),
 (81, .sc (.f)),
 (82, .sc (.f)),
 (83, .sc (.f)),
 (84, .sc (.f)),
 (85, .sc (.f)),
 (86, .sc (.f)),
 (87, .sc (.f)),
 (88, .sc (.f)),
 (89, .sc (.f)),
 (90, .sc (.f)),
 (91, .st [.one [.i .i64, .i .i64, .i .i64, .b, .i .i8, .i .i8]] [(0, 0, 39), (0, 4, 23), (0, 5, 23)]),
 (92, .st [.one [.i .i64, .i .i64, .i .i64, .b, .i .i8, .i .i8]] [(0, 0, 39), (0, 4, 23), (0, 5, 23)]),
 (93, .sc (.f)),
 (94, .sc (.f)),
 (95, .sc (.f)),
 (96, .sc (.f)),
 (97, .sc (.f)),
 (98, .ar 9 1 3 (.arr .i64 9)),
 (99, .sc (.f)),
 (100, .sc (.f)),
 (101, .sc (.f)),
 (102, .sc (.sl 3)),
 (103, .sc (.f)),
 (104, .sc (.f)),
 (106, .sc (.f)),
 (107, .sc (.f)),
 (108, .sc (.f)),
 (110, .sc (.f)),
 (111, .sc (.f)),
 (112, .ar 2 1 3 (.arr .i64 2)),
 (113, .sc (.f)),
 (114, .sc (.f)),
 (115, .sc (.f)),
 (116, .sc (.f)),
 (117, .sc (.sl 120)),
 (118, .sc (.f)),
 (119, .st [.one [.i .i64, .i .i64]] [(0, 0, 3), (0, 1, 3)]),
 (120, .st [.one [.i .i64, .i .i64]] [(0, 0, 3), (0, 1, 3)]),
 (121, .sc (.f)),
 (122, .sc (.f)),
 (123, .sc (.f)),
 (124, .sc (.f)),
 (125, .sc (.f)),
 (126, .sc (.i .u64)),
 (127, .ar 64 1 5 (.arr .u8 64)),
 (128, .sc (.f)),
 (129, .sc (.f)),
 (130, .st [.one [.p, .p, .p, .str]] [(0, 0, 17), (0, 1, 17), (0, 2, 17), (0, 3, 9)]),
 (131, .st [.one [.p, .p, .p, .str]] [(0, 0, 17), (0, 1, 17), (0, 2, 17), (0, 3, 9)]),
 (135, .sc (.i .u32)),
 (136, .sc (.i .u8)),
 (137, .sc (.i .u8)),
 (138, .sc (.f)),
 (139, .sc (.p)),
 (140, .sc (.i .i32)),
 (141, .sc (.i .i32)),
 (142, .st [.one [.i .u64, .i .u64, .i .u32, .i .u8, .i .u8, .i .u8, .i .u8, .f, .p, .i .i32, .i .i32]] [(0, 0, 12), (0, 1, 12), (0, 2, 135), (0, 3, 136), (0, 4, 5), (0, 5, 5), (0, 6, 137), (0, 7, 138), (0, 8, 139), (0, 9, 140), (0, 10, 141)]),
 (143, .st [.one [.i .u64, .i .u64, .i .u32, .i .u8, .i .u8, .i .u8, .i .u8, .f, .p, .i .i32, .i .i32]] [(0, 0, 12), (0, 1, 12), (0, 2, 135), (0, 3, 136), (0, 4, 5), (0, 5, 5), (0, 6, 137), (0, 7, 138), (0, 8, 139), (0, 9, 140), (0, 10, 141)])]
def eqs : List TypeId := [3, 24, 26, 27, 28, 39, 52, 70, 120, 112]
def bytes : List (TypeId × Nat) := [(39, 32), (92, 40), (3, 8), (120, 16)]
theorem mixed : Tryz.prog.follows .mixedOrders = true := by kernel_rfl
theorem tab_ok : ∀ t L, Tab.get tab t = some L → LayOK Tryz.prog tab t L := tabB_ok (P := Tryz.prog) (tab := tab) (l := tab) (by kernel_rfl)
theorem eqs_ok : ∀ t L, memT t eqs = true → Tab.get tab t = some L → ∃ f ck, f ≤ 10000 ∧ tyCK Tryz.prog f t = some ck ∧ cksOf L.segTs = some ck ∧ Tryz.prog.eqGuardType Tryz.prog.depth t = false := eqsB_ok (P := Tryz.prog) (tab := tab) (l := eqs) (by kernel_rfl)
theorem bytes_ok : ∀ t n, byN t bytes = some n → ∃ i, Tryz.prog.info? t = some i ∧ i.bytes = n := bytesB_ok (P := Tryz.prog) (l := bytes) (by kernel_rfl)
def mkC (nt : Nat) (orc : Orc) (keeps : List (Nat × List Nat × List Nat)) (lp : {R : Type} → Nat → List V → List Obj → (Ex → List V → List Obj → Option R) → Option R) : Ctx := { tab := tab, eqs := eqs, bytes := bytes, nt := nt, orc := orc, keeps := keeps, lp := lp }
theorem mkC_ok {nt : Nat} {orc : Orc} {keeps : List (Nat × List Nat × List Nat)} {lp : {R : Type} → Nat → List V → List Obj → (Ex → List V → List Obj → Option R) → Option R} (h : OSound Tryz.prog orc) : CtxOK Tryz.prog (mkC nt orc keeps lp) := ⟨tab_ok, h, eqs_ok, bytes_ok, fun _ _ _ => rfl⟩
def set_bitc : Ctx := mkC 21 (oNil) [] lpNil
theorem set_bitc_ok : CtxOK Tryz.prog set_bitc := mkC_ok (oNil_ok)
def set_bitd : V → List Obj → Option (Int × Int) := fun v objs => match v, objs with
 | .agg [.one [.i .u64 y0, .i .u64 y1]], [] => some (y0, y1)
 | _, _ => none
theorem set_bit_eq (x0 : Int) : fnE set_bitc Tryz.f102 ([.s (.i .i64 x0)]) ([]) set_bitd = qAK x0 := by kernel_rfl
def set_bita {R : Type} (o : Orc) (vs : List V) (objs : List Obj) (K : Bool → V → List Obj → Option R) : Option R := match vs, objs with
 | [.s (.i .i64 x0)], [] => ob (qAK x0) fun z => K false (.agg [.one [.i .u64 (z.1), .i .u64 (z.2)]]) ([])
 | _, _ => o 102 vs objs K
def set_bito (o : Orc) : Orc := hook 102 (set_bita o) o
theorem set_bito_ok (o : Orc) (ho : OSound Tryz.prog o) : OSound Tryz.prog (set_bito o) := hook_ok ho fun vs objs K r h => by
 unfold set_bita at h
 split at h
 ·skip
  obtain ⟨t, h1, h2⟩ := ob_ok h
  refine anyOK_of mixed set_bitc_ok (fn := Tryz.f102) (b := (Tryz.f102).body.getD .skip) (by kernel_rfl) (by kernel_rfl) (by kernel_rfl) ((set_bit_eq _).trans h1) (m := 0) rfl (AllP.of (l' := []) (by kernel_rfl) trivial) fun v objs' hd => ?_
  unfold set_bitd at hd
  split at hd
  ·skip
   cases hd
   exact h2
  ·cases hd
 ·exact ho _ _ _ _ _ h
def qN5 : Ctx := mkC 16 (oNil) [] lpNil
theorem qUK : CtxOK Tryz.prog qN5 := mkC_ok (oNil_ok)
def qN6 : V → List Obj → Option (Int × Int) := fun v objs => match v, objs with
 | .agg [.one [.i .u64 y0, .i .u64 y1]], [] => some (y0, y1)
 | _, _ => none
theorem qUJ (x0 x1 : Int) (x2 x3 : Int) : fnE qN5 Tryz.f91 ([.agg [.one [.i .u64 x0, .i .u64 x1]], .agg [.one [.i .u64 x2, .i .u64 x3]]]) ([]) qN6 = qAW x0 x1 x2 x3 := by kernel_rfl
def qN4 {R : Type} (o : Orc) (vs : List V) (objs : List Obj) (K : Bool → V → List Obj → Option R) : Option R := match vs, objs with
 | [.agg [.one [.i .u64 x0, .i .u64 x1]], .agg [.one [.i .u64 x2, .i .u64 x3]]], [] => ob (qAW x0 x1 x2 x3) fun z => K false (.agg [.one [.i .u64 (z.1), .i .u64 (z.2)]]) ([])
 | _, _ => o 91 vs objs K
def qD2 (o : Orc) : Orc := hook 91 (qN4 o) o
theorem qHB (o : Orc) (ho : OSound Tryz.prog o) : OSound Tryz.prog (qD2 o) := hook_ok ho fun vs objs K r h => by
 unfold qN4 at h
 split at h
 ·skip
  obtain ⟨t, h1, h2⟩ := ob_ok h
  refine anyOK_of mixed qUK (fn := Tryz.f91) (b := (Tryz.f91).body.getD .skip) (by kernel_rfl) (by kernel_rfl) (by kernel_rfl) ((qUJ _ _ _ _).trans h1) (m := 0) rfl (AllP.of (l' := []) (by kernel_rfl) trivial) fun v objs' hd => ?_
  unfold qN6 at hd
  split at hd
  ·skip
   cases hd
   exact h2
  ·cases hd
 ·exact ho _ _ _ _ _ h
def qOZ : Ctx := mkC 9 ((qD2 (set_bito oNil))) [] lpNil
theorem qUi : CtxOK Tryz.prog qOZ := mkC_ok ((qHB _ (set_bito_ok _ oNil_ok)))
def qOa : V → List Obj → Option (Int × Int) := fun v objs => match v, objs with
 | .agg [.one [.i .u64 y0, .i .u64 y1]], [] => some (y0, y1)
 | _, _ => none
theorem qUh (x0 x1 x2 : Int) : fnE qOZ Tryz.f55 ([.agg [.one [.i .u64 x0, .i .u64 x1]], .s (.i .i64 x2)]) ([]) qOa = qo x0 x1 x2 := by kernel_rfl
def qOY {R : Type} (o : Orc) (vs : List V) (objs : List Obj) (K : Bool → V → List Obj → Option R) : Option R := match vs, objs with
 | [.agg [.one [.i .u64 x0, .i .u64 x1]], .s (.i .i64 x2)], [] => ob (qo x0 x1 x2) fun z => K false (.agg [.one [.i .u64 (z.1), .i .u64 (z.2)]]) ([])
 | _, _ => o 55 vs objs K
def qDH (o : Orc) : Orc := hook 55 (qOY o) o
theorem qD7 (o : Orc) (ho : OSound Tryz.prog o) : OSound Tryz.prog (qDH o) := hook_ok ho fun vs objs K r h => by
 unfold qOY at h
 split at h
 ·skip
  obtain ⟨t, h1, h2⟩ := ob_ok h
  refine anyOK_of mixed qUi (fn := Tryz.f55) (b := (Tryz.f55).body.getD .skip) (by kernel_rfl) (by kernel_rfl) (by kernel_rfl) ((qUh _ _ _).trans h1) (m := 0) rfl (AllP.of (l' := []) (by kernel_rfl) trivial) fun v objs' hd => ?_
  unfold qOa at hd
  split at hd
  ·skip
   cases hd
   exact h2
  ·cases hd
 ·exact ho _ _ _ _ _ h
def qKQ : Ctx := mkC 28 (oNil) [] lpNil
theorem qRJ : CtxOK Tryz.prog qKQ := mkC_ok (oNil_ok)
def qKR : V → List Obj → Option (Int) := fun v objs => match v, objs with
 | .s (.i .i64 y0), [] => some (y0)
 | _, _ => none
theorem qRI (x0 : Int) : fnE qKQ Tryz.f57 ([.s (.i .i8 x0)]) ([]) qKR = qA x0 := by kernel_rfl
def qKP {R : Type} (o : Orc) (vs : List V) (objs : List Obj) (K : Bool → V → List Obj → Option R) : Option R := match vs, objs with
 | [.s (.i .i8 x0)], [] => ob (qA x0) fun y0 => K false (.s (.i .i64 y0)) ([])
 | _, _ => o 57 vs objs K
def qi (o : Orc) : Orc := hook 57 (qKP o) o
theorem qz (o : Orc) (ho : OSound Tryz.prog o) : OSound Tryz.prog (qi o) := hook_ok ho fun vs objs K r h => by
 unfold qKP at h
 split at h
 ·skip
  obtain ⟨t, h1, h2⟩ := ob_ok h
  refine anyOK_of mixed qRJ (fn := Tryz.f57) (b := (Tryz.f57).body.getD .skip) (by kernel_rfl) (by kernel_rfl) (by kernel_rfl) ((qRI _).trans h1) (m := 0) rfl (AllP.of (l' := []) (by kernel_rfl) trivial) fun v objs' hd => ?_
  unfold qKR at hd
  split at hd
  ·skip
   cases hd
   exact h2
  ·cases hd
 ·exact ho _ _ _ _ _ h
def qKa : Ctx := mkC 10 ((qi oNil)) [] lpNil
theorem qRP : CtxOK Tryz.prog qKa := mkC_ok ((qz _ oNil_ok))
def qKb : V → List Obj → Option (Int) := fun v objs => match v, objs with
 | .s (.i .i64 y0), [] => some (y0)
 | _, _ => none
theorem qRO (x0 : Int) : fnE qKa Tryz.f56 ([.s (.i .i8 x0)]) ([]) qKb = qD x0 := by kernel_rfl
def qKZ {R : Type} (o : Orc) (vs : List V) (objs : List Obj) (K : Bool → V → List Obj → Option R) : Option R := match vs, objs with
 | [.s (.i .i8 x0)], [] => ob (qD x0) fun y0 => K false (.s (.i .i64 y0)) ([])
 | _, _ => o 56 vs objs K
def qBO (o : Orc) : Orc := hook 56 (qKZ o) o
theorem qB4 (o : Orc) (ho : OSound Tryz.prog o) : OSound Tryz.prog (qBO o) := hook_ok ho fun vs objs K r h => by
 unfold qKZ at h
 split at h
 ·skip
  obtain ⟨t, h1, h2⟩ := ob_ok h
  refine anyOK_of mixed qRP (fn := Tryz.f56) (b := (Tryz.f56).body.getD .skip) (by kernel_rfl) (by kernel_rfl) (by kernel_rfl) ((qRO _).trans h1) (m := 0) rfl (AllP.of (l' := []) (by kernel_rfl) trivial) fun v objs' hd => ?_
  unfold qKb at hd
  split at hd
  ·skip
   cases hd
   exact h2
  ·cases hd
 ·exact ho _ _ _ _ _ h
def qOH : Ctx := mkC 16 (oNil) [] lpNil
theorem qUU : CtxOK Tryz.prog qOH := mkC_ok (oNil_ok)
def qOI : V → List Obj → Option (Int × Int) := fun v objs => match v, objs with
 | .agg [.one [.i .u64 y0, .i .u64 y1]], [] => some (y0, y1)
 | _, _ => none
theorem qUT (x0 x1 : Int) (x2 x3 : Int) : fnE qOH Tryz.f85 ([.agg [.one [.i .u64 x0, .i .u64 x1]], .agg [.one [.i .u64 x2, .i .u64 x3]]]) ([]) qOI = qn x0 x1 x2 x3 := by kernel_rfl
def qOG {R : Type} (o : Orc) (vs : List V) (objs : List Obj) (K : Bool → V → List Obj → Option R) : Option R := match vs, objs with
 | [.agg [.one [.i .u64 x0, .i .u64 x1]], .agg [.one [.i .u64 x2, .i .u64 x3]]], [] => ob (qn x0 x1 x2 x3) fun z => K false (.agg [.one [.i .u64 (z.1), .i .u64 (z.2)]]) ([])
 | _, _ => o 85 vs objs K
def qBX (o : Orc) : Orc := hook 85 (qOG o) o
theorem qCe (o : Orc) (ho : OSound Tryz.prog o) : OSound Tryz.prog (qBX o) := hook_ok ho fun vs objs K r h => by
 unfold qOG at h
 split at h
 ·skip
  obtain ⟨t, h1, h2⟩ := ob_ok h
  refine anyOK_of mixed qUU (fn := Tryz.f85) (b := (Tryz.f85).body.getD .skip) (by kernel_rfl) (by kernel_rfl) (by kernel_rfl) ((qUT _ _ _ _).trans h1) (m := 0) rfl (AllP.of (l' := []) (by kernel_rfl) trivial) fun v objs' hd => ?_
  unfold qOI at hd
  split at hd
  ·skip
   cases hd
   exact h2
  ·cases hd
 ·exact ho _ _ _ _ _ h
def qOW : Ctx := mkC 9 ((qBX (set_bito oNil))) [] lpNil
theorem qUg : CtxOK Tryz.prog qOW := mkC_ok ((qCe _ (set_bito_ok _ oNil_ok)))
def qOX : V → List Obj → Option (Int × Int) := fun v objs => match v, objs with
 | .agg [.one [.i .u64 y0, .i .u64 y1]], [] => some (y0, y1)
 | _, _ => none
theorem qUf (x0 x1 x2 : Int) : fnE qOW Tryz.f58 ([.agg [.one [.i .u64 x0, .i .u64 x1]], .s (.i .i64 x2)]) ([]) qOX = qF x0 x1 x2 := by kernel_rfl
def qOV {R : Type} (o : Orc) (vs : List V) (objs : List Obj) (K : Bool → V → List Obj → Option R) : Option R := match vs, objs with
 | [.agg [.one [.i .u64 x0, .i .u64 x1]], .s (.i .i64 x2)], [] => ob (qF x0 x1 x2) fun z => K false (.agg [.one [.i .u64 (z.1), .i .u64 (z.2)]]) ([])
 | _, _ => o 58 vs objs K
def qAY (o : Orc) : Orc := hook 58 (qOV o) o
theorem qA8 (o : Orc) (ho : OSound Tryz.prog o) : OSound Tryz.prog (qAY o) := hook_ok ho fun vs objs K r h => by
 unfold qOV at h
 split at h
 ·skip
  obtain ⟨t, h1, h2⟩ := ob_ok h
  refine anyOK_of mixed qUg (fn := Tryz.f58) (b := (Tryz.f58).body.getD .skip) (by kernel_rfl) (by kernel_rfl) (by kernel_rfl) ((qUf _ _ _).trans h1) (m := 0) rfl (AllP.of (l' := []) (by kernel_rfl) trivial) fun v objs' hd => ?_
  unfold qOX at hd
  split at hd
  ·skip
   cases hd
   exact h2
  ·cases hd
 ·exact ho _ _ _ _ _ h
def qIL : Ctx := mkC 90 ((qAY (qi (qBO (qDH oNil))))) [] lpNil
theorem qPh : CtxOK Tryz.prog qIL := mkC_ok ((qA8 _ (qz _ (qB4 _ (qD7 _ oNil_ok)))))
def qIM : V → List Obj → Option (List Int × List Int × Int × List (List Int) × List (List Int)) := fun v objs => match v, objs with
 | .tup [], [.cells 56 [.arr .i8 81 y0, .arr .i8 16 y1, .one [.i .i8 y2], .rows [.i .u64, .i .u64] 32 y3, .rows [.i .u64, .i .u64] 2 y4]] => some (y0, y1, y2, y3, y4)
 | _, _ => none
theorem qPg (x0 x1 : Int) (x2 x3 : List Int) (x4 : Int) (x5 x6 : List (List Int)) : fnE qIL Tryz.f29 ([.s (.ptr 0 0 none 0), .s (.i .i64 x0), .s (.i .i8 x1)]) ([.cells 56 [.arr .i8 81 x2, .arr .i8 16 x3, .one [.i .i8 x4], .rows [.i .u64, .i .u64] 32 x5, .rows [.i .u64, .i .u64] 2 x6]]) qIM = qAN x0 x1 x2 x3 x4 x5 x6 := by kernel_rfl
def qIK {R : Type} (o : Orc) (vs : List V) (objs : List Obj) (K : Bool → V → List Obj → Option R) : Option R := match vs, objs with
 | [.s (.ptr 0 0 none 0), .s (.i .i64 x0), .s (.i .i8 x1)], [.cells 56 [.arr .i8 81 x2, .arr .i8 16 x3, .one [.i .i8 x4], .rows [.i .u64, .i .u64] 32 x5, .rows [.i .u64, .i .u64] 2 x6]] => ob (qAN x0 x1 x2 x3 x4 x5 x6) fun z => K false (.tup []) ([.cells 56 [.arr .i8 81 (z.1), .arr .i8 16 (z.2.1), .one [.i .i8 (z.2.2.1)], .rows [.i .u64, .i .u64] 32 (z.2.2.2.1), .rows [.i .u64, .i .u64] 2 (z.2.2.2.2)]])
 | _, _ => o 29 vs objs K
def qDR (o : Orc) : Orc := hook 29 (qIK o) o
theorem qEZ (o : Orc) (ho : OSound Tryz.prog o) : OSound Tryz.prog (qDR o) := hook_ok ho fun vs objs K r h => by
 unfold qIK at h
 split at h
 ·skip
  obtain ⟨t, h1, h2⟩ := ob_ok h
  refine anyOK_of mixed qPh (fn := Tryz.f29) (b := (Tryz.f29).body.getD .skip) (by kernel_rfl) (by kernel_rfl) (by kernel_rfl) ((qPg _ _ _ _ _ _ _).trans h1) (m := 1) rfl (AllP.of (l' := []) (by kernel_rfl) trivial) fun v objs' hd => ?_
  unfold qIM at hd
  split at hd
  ·skip
   cases hd
   exact h2
  ·cases hd
 ·exact ho _ _ _ _ _ h
def qEU : Ex → List V → List Obj → Option (List Int × List Int × Int × List (List Int) × List (List Int)) := fun e vs objs => match e, vs, objs with
 | .exit 0, [.s (.ptr 0 0 none 0)], [.cells 56 [.arr .i8 81 y0, .arr .i8 16 y1, .one [.i .i8 y2], .rows [.i .u64, .i .u64] 32 y3, .rows [.i .u64, .i .u64] 2 y4]] => some (y0, y1, y2, y3, y4)
 | _, _, _ => none
def qEX {R : Type} (vs : List V) (objs : List Obj) (K : Ex → List V → List Obj → Option R) : Option R := match vs, objs with
 | [.s (.ptr 0 0 none 0), .agg [.arr .i8 81 x0], .s (.i .i64 x1)], [.cells 56 [.arr .i8 81 x2, .arr .i8 16 x3, .one [.i .i8 x4], .rows [.i .u64, .i .u64] 32 x5, .rows [.i .u64, .i .u64] 2 x6]] => ob (qQ many x0 x1 x2 x3 x4 x5 x6) fun z => K (.exit 0) ([.s (.ptr 0 0 none 0)]) ([.cells 56 [.arr .i8 81 (z.1), .arr .i8 16 (z.2.1), .one [.i .i8 (z.2.2.1)], .rows [.i .u64, .i .u64] 32 (z.2.2.2.1), .rows [.i .u64, .i .u64] 2 (z.2.2.2.2)]])
 | _, _ => none
def qPa : {R : Type} → Nat → List V → List Obj → (Ex → List V → List Obj → Option R) → Option R := fun q vs objs K => bif Nat.beq q 4 then qEX vs objs K else none
def qDP : Ctx := mkC 32 ((qDR oNil)) [(4, [3, 21, 22], [3])] qPa
theorem qIA : CtxOK Tryz.prog qDP := mkC_ok ((qEZ _ oNil_ok))
def qEV (f : Nat) (x0 : List Int) (x1 : Int) (x2 x3 : List Int) (x4 : Int) (x5 x6 : List (List Int)) : Option (List Int × List Int × Int × List (List Int) × List (List Int)) := lrun qDP 0 [3, 21, 22] [3] (loopOf Tryz.f9 4) f ([.s (.ptr 0 0 none 0), .agg [.arr .i8 81 x0], .s (.i .i64 x1)]) ([.cells 56 [.arr .i8 81 x2, .arr .i8 16 x3, .one [.i .i8 x4], .rows [.i .u64, .i .u64] 32 x5, .rows [.i .u64, .i .u64] 2 x6]]) qEU
theorem qPZ (f : Nat) (x0 : List Int) (x1 : Int) (x2 x3 : List Int) (x4 : Int) (x5 x6 : List (List Int)) : qEV (f + 1) x0 x1 x2 x3 x4 x5 x6 = qp (qEV f) x0 x1 x2 x3 x4 x5 x6 := by kernel_rfl
theorem qIC : ∀ f, qEV f = qQ f
 | 0 => rfl
 | f + 1 => by funext x0 x1 x2 x3 x4 x5 x6; rw [qPZ, qIC f]; rfl
theorem qPb : LoopSound Tryz.prog qDP 0 (loopOf Tryz.f9 4) :=
 loopSound_by mixed qIA (AllP.of (l' := []) (by kernel_rfl) trivial) (q := 4) (kin := [3, 21, 22]) (kout := [3]) (by kernel_rfl) (by kernel_rfl) fun vs objs K r h => by
  replace h : qEX vs objs K = some r := h
  unfold qEX at h
  split at h
  ·skip
   obtain ⟨t, h1, h2⟩ := ob_ok h
   rw [← qIC] at h1
   refine ⟨_, qEU, t, many, h1, fun e vs' objs' hd => ?_⟩
   unfold qEU at hd
   split at hd
   ·skip
    cases hd
    exact h2
   ·cases hd
  ·cases h
def qIB : V → List Obj → Option (List Int × List Int × Int × List (List Int) × List (List Int)) := fun v objs => match v, objs with
 | .s (.ptr 0 0 none 0), [.cells 56 [.arr .i8 81 y0, .arr .i8 16 y1, .one [.i .i8 y2], .rows [.i .u64, .i .u64] 32 y3, .rows [.i .u64, .i .u64] 2 y4]] => some (y0, y1, y2, y3, y4)
 | _, _ => none
theorem qPY (x0 x1 : List Int) (x2 : Int) : fnE qDP Tryz.f9 ([.agg [.arr .i8 81 x0, .arr .i8 16 x1, .one [.i .i8 x2]]]) ([]) qIB = qAM x0 x1 x2 := by kernel_rfl
def qH9 {R : Type} (o : Orc) (vs : List V) (objs : List Obj) (K : Bool → V → List Obj → Option R) : Option R := match vs, objs with
 | [.agg [.arr .i8 81 x0, .arr .i8 16 x1, .one [.i .i8 x2]]], [] => ob (qAM x0 x1 x2) fun z => K false (.s (.ptr 0 0 none 0)) ([.cells 56 [.arr .i8 81 (z.1), .arr .i8 16 (z.2.1), .one [.i .i8 (z.2.2.1)], .rows [.i .u64, .i .u64] 32 (z.2.2.2.1), .rows [.i .u64, .i .u64] 2 (z.2.2.2.2)]])
 | _, _ => o 9 vs objs K
def qDQ (o : Orc) : Orc := hook 9 (qH9 o) o
theorem qEW (o : Orc) (ho : OSound Tryz.prog o) : OSound Tryz.prog (qDQ o) := hook_ok ho fun vs objs K r h => by
 unfold qH9 at h
 split at h
 ·skip
  obtain ⟨t, h1, h2⟩ := ob_ok h
  refine anyOK_of mixed qIA (fn := Tryz.f9) (b := (Tryz.f9).body.getD .skip) (by kernel_rfl) (by kernel_rfl) (by kernel_rfl) ((qPY _ _ _).trans h1) (m := 0) rfl (AllP.of (l' := [loopOf Tryz.f9 4]) (by kernel_rfl) ⟨qPb, trivial⟩) fun v objs' hd => ?_
  unfold qIB at hd
  split at hd
  ·skip
   cases hd
   exact h2
  ·cases hd
 ·exact ho _ _ _ _ _ h
def qJY : Ctx := mkC 19 (oNil) [] lpNil
theorem qQe : CtxOK Tryz.prog qJY := mkC_ok (oNil_ok)
def qJZ : V → List Obj → Option (Int) := fun v objs => match v, objs with
 | .s (.i .u64 y0), [] => some (y0)
 | _, _ => none
theorem qQd (x0 : Int) : fnE qJY Tryz.f106 ([.s (.i .u64 x0)]) ([]) qJZ = qx x0 := by kernel_rfl
def qJX {R : Type} (o : Orc) (vs : List V) (objs : List Obj) (K : Bool → V → List Obj → Option R) : Option R := match vs, objs with
 | [.s (.i .u64 x0)], [] => ob (qx x0) fun y0 => K false (.s (.i .u64 y0)) ([])
 | _, _ => o 106 vs objs K
def qDU (o : Orc) : Orc := hook 106 (qJX o) o
theorem qE9 (o : Orc) (ho : OSound Tryz.prog o) : OSound Tryz.prog (qDU o) := hook_ok ho fun vs objs K r h => by
 unfold qJX at h
 split at h
 ·skip
  obtain ⟨t, h1, h2⟩ := ob_ok h
  refine anyOK_of mixed qQe (fn := Tryz.f106) (b := (Tryz.f106).body.getD .skip) (by kernel_rfl) (by kernel_rfl) (by kernel_rfl) ((qQd _).trans h1) (m := 0) rfl (AllP.of (l' := []) (by kernel_rfl) trivial) fun v objs' hd => ?_
  unfold qJZ at hd
  split at hd
  ·skip
   cases hd
   exact h2
  ·cases hd
 ·exact ho _ _ _ _ _ h
def qJQ : Ctx := mkC 23 ((qDU (qi oNil))) [] lpNil
theorem qQa : CtxOK Tryz.prog qJQ := mkC_ok ((qE9 _ (qz _ oNil_ok)))
def qJR : V → List Obj → Option (Int) := fun v objs => match v, objs with
 | .s (.i .u64 y0), [] => some (y0)
 | _, _ => none
theorem qQZ (x0 x1 : Int) : fnE qJQ Tryz.f64 ([.s (.i .i64 x0), .s (.i .i8 x1)]) ([]) qJR = qS x0 x1 := by kernel_rfl
def qJP {R : Type} (o : Orc) (vs : List V) (objs : List Obj) (K : Bool → V → List Obj → Option R) : Option R := match vs, objs with
 | [.s (.i .i64 x0), .s (.i .i8 x1)], [] => ob (qS x0 x1) fun y0 => K false (.s (.i .u64 y0)) ([])
 | _, _ => o 64 vs objs K
def qE7 (o : Orc) : Orc := hook 64 (qJP o) o
theorem qJS (o : Orc) (ho : OSound Tryz.prog o) : OSound Tryz.prog (qE7 o) := hook_ok ho fun vs objs K r h => by
 unfold qJP at h
 split at h
 ·skip
  obtain ⟨t, h1, h2⟩ := ob_ok h
  refine anyOK_of mixed qQa (fn := Tryz.f64) (b := (Tryz.f64).body.getD .skip) (by kernel_rfl) (by kernel_rfl) (by kernel_rfl) ((qQZ _ _).trans h1) (m := 0) rfl (AllP.of (l' := []) (by kernel_rfl) trivial) fun v objs' hd => ?_
  unfold qJR at hd
  split at hd
  ·skip
   cases hd
   exact h2
  ·cases hd
 ·exact ho _ _ _ _ _ h
def qJG : Ctx := mkC 41 ((qDU oNil)) [] lpNil
theorem qQP : CtxOK Tryz.prog qJG := mkC_ok ((qE9 _ oNil_ok))
def qJH : V → List Obj → Option (Int) := fun v objs => match v, objs with
 | .s (.i .u64 y0), [] => some (y0)
 | _, _ => none
theorem qQO (x0 x1 x2 : Int) : fnE qJG Tryz.f65 ([.s (.i .i64 x0), .s (.i .i64 x1), .s (.i .i64 x2)]) ([]) qJH = qc x0 x1 x2 := by kernel_rfl
def qJF {R : Type} (o : Orc) (vs : List V) (objs : List Obj) (K : Bool → V → List Obj → Option R) : Option R := match vs, objs with
 | [.s (.i .i64 x0), .s (.i .i64 x1), .s (.i .i64 x2)], [] => ob (qc x0 x1 x2) fun y0 => K false (.s (.i .u64 y0)) ([])
 | _, _ => o 65 vs objs K
def qEx (o : Orc) : Orc := hook 65 (qJF o) o
theorem qJI (o : Orc) (ho : OSound Tryz.prog o) : OSound Tryz.prog (qEx o) := hook_ok ho fun vs objs K r h => by
 unfold qJF at h
 split at h
 ·skip
  obtain ⟨t, h1, h2⟩ := ob_ok h
  refine anyOK_of mixed qQP (fn := Tryz.f65) (b := (Tryz.f65).body.getD .skip) (by kernel_rfl) (by kernel_rfl) (by kernel_rfl) ((qQO _ _ _).trans h1) (m := 0) rfl (AllP.of (l' := []) (by kernel_rfl) trivial) fun v objs' hd => ?_
  unfold qJH at hd
  split at hd
  ·skip
   cases hd
   exact h2
  ·cases hd
 ·exact ho _ _ _ _ _ h
def qJU : Ctx := mkC 2 ((qDU oNil)) [] lpNil
theorem qQc : CtxOK Tryz.prog qJU := mkC_ok ((qE9 _ oNil_ok))
def qJV : V → List Obj → Option (Int) := fun v objs => match v, objs with
 | .s (.i .u64 y0), [] => some (y0)
 | _, _ => none
theorem qQb : fnE qJU Tryz.f66 ([]) ([]) qJV = qe  := by kernel_rfl
def qJT {R : Type} (o : Orc) (vs : List V) (objs : List Obj) (K : Bool → V → List Obj → Option R) : Option R := match vs, objs with
 | [], [] => ob (qe ) fun y0 => K false (.s (.i .u64 y0)) ([])
 | _, _ => o 66 vs objs K
def qE8 (o : Orc) : Orc := hook 66 (qJT o) o
theorem qJW (o : Orc) (ho : OSound Tryz.prog o) : OSound Tryz.prog (qE8 o) := hook_ok ho fun vs objs K r h => by
 unfold qJT at h
 split at h
 ·skip
  obtain ⟨t, h1, h2⟩ := ob_ok h
  refine anyOK_of mixed qQc (fn := Tryz.f66) (b := (Tryz.f66).body.getD .skip) (by kernel_rfl) (by kernel_rfl) (by kernel_rfl) ((qQb).trans h1) (m := 0) rfl (AllP.of (l' := []) (by kernel_rfl) trivial) fun v objs' hd => ?_
  unfold qJV at hd
  split at hd
  ·skip
   cases hd
   exact h2
  ·cases hd
 ·exact ho _ _ _ _ _ h
def qE0 : Ex → List V → List Obj → Option (Int × List Int × List Int × Int) := fun e vs objs => match e, vs, objs with
 | .exit 0, [.s (.ptr 0 0 none 0), .s (.i .u64 y0)], [.cells 28 [.arr .i8 81 y1, .arr .i8 16 y2, .one [.i .i8 y3]]] => some (y0, y1, y2, y3)
 | _, _, _ => none
def qEy : Ex → List V → List Obj → Option (Int × List Int × Int × List Int × List Int × Int) := fun e vs objs => match e, vs, objs with
 | .exit 4, [.s (.ptr 0 0 none 0), .s (.i .u64 y0), .agg [.arr .i8 16 y1], .s (.i .i64 y2)], [.cells 28 [.arr .i8 81 y3, .arr .i8 16 y4, .one [.i .i8 y5]]] => some (y0, y1, y2, y3, y4, y5)
 | _, _, _ => none
def qE2 : Ex → List V → List Obj → Option (Int × List Int × List Int × Int) := fun e vs objs => match e, vs, objs with
 | .exit 2, [.s (.ptr 0 0 none 0), .s (.i .u64 y0)], [.cells 28 [.arr .i8 81 y1, .arr .i8 16 y2, .one [.i .i8 y3]]] => some (y0, y1, y2, y3)
 | _, _, _ => none
def qE5 {R : Type} (vs : List V) (objs : List Obj) (K : Ex → List V → List Obj → Option R) : Option R := match vs, objs with
 | [.s (.ptr 0 0 none 0), .s (.i .u64 x0), .agg [.arr .i8 81 x1], .s (.i .i64 x2)], [.cells 28 [.arr .i8 81 x3, .arr .i8 16 x4, .one [.i .i8 x5]]] => ob (qW many x0 x1 x2 x3 x4 x5) fun z => K (.exit 0) ([.s (.ptr 0 0 none 0), .s (.i .u64 (z.1))]) ([.cells 28 [.arr .i8 81 (z.2.1), .arr .i8 16 (z.2.2.1), .one [.i .i8 (z.2.2.2)]]])
 | _, _ => none
def qE4 {R : Type} (vs : List V) (objs : List Obj) (K : Ex → List V → List Obj → Option R) : Option R := match vs, objs with
 | [.s (.ptr 0 0 none 0), .s (.i .u64 x0), .s (.i .i64 x1), .agg [.arr .i8 16 x2], .s (.i .i64 x3), .agg [.arr .i8 8 x4], .s (.i .i64 x5)], [.cells 28 [.arr .i8 81 x6, .arr .i8 16 x7, .one [.i .i8 x8]]] => ob (qd many x0 x1 x2 x3 x4 x5 x6 x7 x8) fun z => K (.exit 4) ([.s (.ptr 0 0 none 0), .s (.i .u64 (z.1)), .agg [.arr .i8 16 (z.2.1)], .s (.i .i64 (z.2.2.1))]) ([.cells 28 [.arr .i8 81 (z.2.2.2.1), .arr .i8 16 (z.2.2.2.2.1), .one [.i .i8 (z.2.2.2.2.2)]]])
 | _, _ => none
def qE6 {R : Type} (vs : List V) (objs : List Obj) (K : Ex → List V → List Obj → Option R) : Option R := match vs, objs with
 | [.s (.ptr 0 0 none 0), .s (.i .u64 x0), .agg [.arr .i8 16 x1], .s (.i .i64 x2)], [.cells 28 [.arr .i8 81 x3, .arr .i8 16 x4, .one [.i .i8 x5]]] => ob (qO many x0 x1 x2 x3 x4 x5) fun z => K (.exit 2) ([.s (.ptr 0 0 none 0), .s (.i .u64 (z.1))]) ([.cells 28 [.arr .i8 81 (z.2.1), .arr .i8 16 (z.2.2.1), .one [.i .i8 (z.2.2.2)]]])
 | _, _ => none
def qQU : {R : Type} → Nat → List V → List Obj → (Ex → List V → List Obj → Option R) → Option R := fun q vs objs K => bif Nat.beq q 3 then qE5 vs objs K else bif Nat.beq q 11 then qE4 vs objs K else bif Nat.beq q 8 then qE6 vs objs K else none
def qAi : Ctx := mkC 49 ((qE8 (qEx (qE7 oNil)))) [(3, [1, 3, 11, 12], [1, 3]), (8, [1, 3, 23, 24], [1, 3]), (11, [1, 3, 6, 23, 24, 28, 29], [1, 3, 23, 24])] qQU
theorem qDT : CtxOK Tryz.prog qAi := mkC_ok ((qJW _ (qJI _ (qJS _ oNil_ok))))
def qE1 (f : Nat) (x0 : Int) (x1 : List Int) (x2 : Int) (x3 x4 : List Int) (x5 : Int) : Option (Int × List Int × List Int × Int) := lrun qAi 0 [1, 3, 11, 12] [1, 3] (loopOf Tryz.f33 3) f ([.s (.ptr 0 0 none 0), .s (.i .u64 x0), .agg [.arr .i8 81 x1], .s (.i .i64 x2)]) ([.cells 28 [.arr .i8 81 x3, .arr .i8 16 x4, .one [.i .i8 x5]]]) qE0
theorem qQS (f : Nat) (x0 : Int) (x1 : List Int) (x2 : Int) (x3 x4 : List Int) (x5 : Int) : qE1 (f + 1) x0 x1 x2 x3 x4 x5 = qv (qE1 f) x0 x1 x2 x3 x4 x5 := by kernel_rfl
theorem qJM : ∀ f, qE1 f = qW f
 | 0 => rfl
 | f + 1 => by funext x0 x1 x2 x3 x4 x5; rw [qQS, qJM f]; rfl
def qEz (f : Nat) (x0 x1 : Int) (x2 : List Int) (x3 : Int) (x4 : List Int) (x5 : Int) (x6 x7 : List Int) (x8 : Int) : Option (Int × List Int × Int × List Int × List Int × Int) := lrun qAi 0 [1, 3, 6, 23, 24, 28, 29] [1, 3, 23, 24] (loopOf Tryz.f33 11) f ([.s (.ptr 0 0 none 0), .s (.i .u64 x0), .s (.i .i64 x1), .agg [.arr .i8 16 x2], .s (.i .i64 x3), .agg [.arr .i8 8 x4], .s (.i .i64 x5)]) ([.cells 28 [.arr .i8 81 x6, .arr .i8 16 x7, .one [.i .i8 x8]]]) qEy
theorem qQR (f : Nat) (x0 x1 : Int) (x2 : List Int) (x3 : Int) (x4 : List Int) (x5 : Int) (x6 x7 : List Int) (x8 : Int) : qEz (f + 1) x0 x1 x2 x3 x4 x5 x6 x7 x8 = qu (qEz f) x0 x1 x2 x3 x4 x5 x6 x7 x8 := by kernel_rfl
theorem qJL : ∀ f, qEz f = qd f
 | 0 => rfl
 | f + 1 => by funext x0 x1 x2 x3 x4 x5 x6 x7 x8; rw [qQR, qJL f]; rfl
def qE3 (f : Nat) (x0 : Int) (x1 : List Int) (x2 : Int) (x3 x4 : List Int) (x5 : Int) : Option (Int × List Int × List Int × Int) := lrun qAi 0 [1, 3, 23, 24] [1, 3] (loopOf Tryz.f33 8) f ([.s (.ptr 0 0 none 0), .s (.i .u64 x0), .agg [.arr .i8 16 x1], .s (.i .i64 x2)]) ([.cells 28 [.arr .i8 81 x3, .arr .i8 16 x4, .one [.i .i8 x5]]]) qE2
theorem qQT (f : Nat) (x0 : Int) (x1 : List Int) (x2 : Int) (x3 x4 : List Int) (x5 : Int) : qE3 (f + 1) x0 x1 x2 x3 x4 x5 = qw (qE3 f) x0 x1 x2 x3 x4 x5 := by kernel_rfl
theorem qJN : ∀ f, qE3 f = qO f
 | 0 => rfl
 | f + 1 => by funext x0 x1 x2 x3 x4 x5; rw [qQT, qJN f]; rfl
theorem qQX : LoopSound Tryz.prog qAi 0 (loopOf Tryz.f33 3) :=
 loopSound_by mixed qDT (AllP.of (l' := []) (by kernel_rfl) trivial) (q := 3) (kin := [1, 3, 11, 12]) (kout := [1, 3]) (by kernel_rfl) (by kernel_rfl) fun vs objs K r h => by
  replace h : qE5 vs objs K = some r := h
  unfold qE5 at h
  split at h
  ·skip
   obtain ⟨t, h1, h2⟩ := ob_ok h
   rw [← qJM] at h1
   refine ⟨_, qE0, t, many, h1, fun e vs' objs' hd => ?_⟩
   unfold qE0 at hd
   split at hd
   ·skip
    cases hd
    exact h2
   ·cases hd
  ·cases h
theorem qQW : LoopSound Tryz.prog qAi 0 (loopOf Tryz.f33 11) :=
 loopSound_by mixed qDT (AllP.of (l' := []) (by kernel_rfl) trivial) (q := 11) (kin := [1, 3, 6, 23, 24, 28, 29]) (kout := [1, 3, 23, 24]) (by kernel_rfl) (by kernel_rfl) fun vs objs K r h => by
  replace h : qE4 vs objs K = some r := h
  unfold qE4 at h
  split at h
  ·skip
   obtain ⟨t, h1, h2⟩ := ob_ok h
   rw [← qJL] at h1
   refine ⟨_, qEy, t, many, h1, fun e vs' objs' hd => ?_⟩
   unfold qEy at hd
   split at hd
   ·skip
    cases hd
    exact h2
   ·cases hd
  ·cases h
theorem qQY : LoopSound Tryz.prog qAi 0 (loopOf Tryz.f33 8) :=
 loopSound_by mixed qDT (AllP.of (l' := [loopOf Tryz.f33 11]) (by kernel_rfl) ⟨qQW, trivial⟩) (q := 8) (kin := [1, 3, 23, 24]) (kout := [1, 3]) (by kernel_rfl) (by kernel_rfl) fun vs objs K r h => by
  replace h : qE6 vs objs K = some r := h
  unfold qE6 at h
  split at h
  ·skip
   obtain ⟨t, h1, h2⟩ := ob_ok h
   rw [← qJN] at h1
   refine ⟨_, qE2, t, many, h1, fun e vs' objs' hd => ?_⟩
   unfold qE2 at hd
   split at hd
   ·skip
    cases hd
    exact h2
   ·cases hd
  ·cases h
def qJK : V → List Obj → Option (Int) := fun v objs => match v, objs with
 | .s (.i .u64 y0), [] => some (y0)
 | _, _ => none
theorem qQQ (x0 x1 : List Int) (x2 : Int) : fnE qAi Tryz.f33 ([.agg [.arr .i8 81 x0, .arr .i8 16 x1, .one [.i .i8 x2]]]) ([]) qJK = qAO x0 x1 x2 := by kernel_rfl
def qJJ {R : Type} (o : Orc) (vs : List V) (objs : List Obj) (K : Bool → V → List Obj → Option R) : Option R := match vs, objs with
 | [.agg [.arr .i8 81 x0, .arr .i8 16 x1, .one [.i .i8 x2]]], [] => ob (qAO x0 x1 x2) fun y0 => K false (.s (.i .u64 y0)) ([])
 | _, _ => o 33 vs objs K
def qJO (o : Orc) : Orc := hook 33 (qJJ o) o
theorem qQV (o : Orc) (ho : OSound Tryz.prog o) : OSound Tryz.prog (qJO o) := hook_ok ho fun vs objs K r h => by
 unfold qJJ at h
 split at h
 ·skip
  obtain ⟨t, h1, h2⟩ := ob_ok h
  refine anyOK_of mixed qDT (fn := Tryz.f33) (b := (Tryz.f33).body.getD .skip) (by kernel_rfl) (by kernel_rfl) (by kernel_rfl) ((qQQ _ _ _).trans h1) (m := 0) rfl (AllP.of (l' := [loopOf Tryz.f33 3, loopOf Tryz.f33 8]) (by kernel_rfl) ⟨qQX, qQY, trivial⟩) fun v objs' hd => ?_
  unfold qJK at hd
  split at hd
  ·skip
   cases hd
   exact h2
  ·cases hd
 ·exact ho _ _ _ _ _ h
def qIt : Ctx := mkC 14 ((qJO (qDQ oNil))) [] lpNil
theorem qP2 : CtxOK Tryz.prog qIt := mkC_ok ((qQV _ (qEW _ oNil_ok)))
def qIu : V → List Obj → Option (Int × Nat × List Int × List Int × Int × List (List Int) × List (List Int) × Nat × List (List Int)) := fun v objs => match v, objs with
 | .s (.ptr 0 0 none 0), [.cells 50 [.one [.ptr 1 0 none 0, .i .u64 y0, .sl 2 0 y1 true]], .cells 56 [.arr .i8 81 y2, .arr .i8 16 y3, .one [.i .i8 y4], .rows [.i .u64, .i .u64] 32 y5, .rows [.i .u64, .i .u64] 2 y6], .sli 92 false (.rows [.i .i64, .i .i64, .i .i64, .b, .i .i8, .i .i8] y7 y8)] => some (y0, y1, y2, y3, y4, y5, y6, y7, y8)
 | _, _ => none
theorem qP1 (x0 x1 : List Int) (x2 : Int) : fnE qIt Tryz.f19 ([.agg [.arr .i8 81 x0, .arr .i8 16 x1, .one [.i .i8 x2]]]) ([]) qIu = qAd x0 x1 x2 := by kernel_rfl
def qIs {R : Type} (o : Orc) (vs : List V) (objs : List Obj) (K : Bool → V → List Obj → Option R) : Option R := match vs, objs with
 | [.agg [.arr .i8 81 x0, .arr .i8 16 x1, .one [.i .i8 x2]]], [] => ob (qAd x0 x1 x2) fun z => K false (.s (.ptr 0 0 none 0)) ([.cells 50 [.one [.ptr 1 0 none 0, .i .u64 (z.1), .sl 2 0 (z.2.1) true]], .cells 56 [.arr .i8 81 (z.2.2.1), .arr .i8 16 (z.2.2.2.1), .one [.i .i8 (z.2.2.2.2.1)], .rows [.i .u64, .i .u64] 32 (z.2.2.2.2.2.1), .rows [.i .u64, .i .u64] 2 (z.2.2.2.2.2.2.1)], .sli 92 false (.rows [.i .i64, .i .i64, .i .i64, .b, .i .i8, .i .i8] (z.2.2.2.2.2.2.2.1) (z.2.2.2.2.2.2.2.2))])
 | _, _ => o 19 vs objs K
def qEe (o : Orc) : Orc := hook 19 (qIs o) o
theorem qIv (o : Orc) (ho : OSound Tryz.prog o) : OSound Tryz.prog (qEe o) := hook_ok ho fun vs objs K r h => by
 unfold qIs at h
 split at h
 ·skip
  obtain ⟨t, h1, h2⟩ := ob_ok h
  refine anyOK_of mixed qP2 (fn := Tryz.f19) (b := (Tryz.f19).body.getD .skip) (by kernel_rfl) (by kernel_rfl) (by kernel_rfl) ((qP1 _ _ _).trans h1) (m := 0) rfl (AllP.of (l' := []) (by kernel_rfl) trivial) fun v objs' hd => ?_
  unfold qIu at hd
  split at hd
  ·skip
   cases hd
   exact h2
  ·cases hd
 ·exact ho _ _ _ _ _ h
def qKT : Ctx := mkC 28 (oNil) [] lpNil
theorem qRL : CtxOK Tryz.prog qKT := mkC_ok (oNil_ok)
def qKU : V → List Obj → Option (Int) := fun v objs => match v, objs with
 | .s (.i .i8 y0), [] => some (y0)
 | _, _ => none
theorem qRK (x0 x1 : Int) : fnE qKT Tryz.f69 ([.s (.i .i64 x0), .s (.i .i64 x1)]) ([]) qKU = qG x0 x1 := by kernel_rfl
def qKS {R : Type} (o : Orc) (vs : List V) (objs : List Obj) (K : Bool → V → List Obj → Option R) : Option R := match vs, objs with
 | [.s (.i .i64 x0), .s (.i .i64 x1)], [] => ob (qG x0 x1) fun y0 => K false (.s (.i .i8 y0)) ([])
 | _, _ => o 69 vs objs K
def qBN (o : Orc) : Orc := hook 69 (qKS o) o
theorem qB3 (o : Orc) (ho : OSound Tryz.prog o) : OSound Tryz.prog (qBN o) := hook_ok ho fun vs objs K r h => by
 unfold qKS at h
 split at h
 ·skip
  obtain ⟨t, h1, h2⟩ := ob_ok h
  refine anyOK_of mixed qRL (fn := Tryz.f69) (b := (Tryz.f69).body.getD .skip) (by kernel_rfl) (by kernel_rfl) (by kernel_rfl) ((qRK _ _).trans h1) (m := 0) rfl (AllP.of (l' := []) (by kernel_rfl) trivial) fun v objs' hd => ?_
  unfold qKU at hd
  split at hd
  ·skip
   cases hd
   exact h2
  ·cases hd
 ·exact ho _ _ _ _ _ h
def qIE : Ctx := mkC 20 ((qBN oNil)) [] lpNil
theorem qPd : CtxOK Tryz.prog qIE := mkC_ok ((qB3 _ oNil_ok))
def qIF : V → List Obj → Option (Int × Int) := fun v objs => match v, objs with
 | .agg [.one [.i .u64 y0, .i .u64 y1]], [] => some (y0, y1)
 | _, _ => none
theorem qPc (x0 x1 : Int) (x2 x3 : List Int) (x4 : Int) (x5 x6 : List (List Int)) : fnE qIE Tryz.f86 ([.s (.ptr 0 0 none 0), .s (.i .i64 x0), .s (.i .i64 x1)]) ([.rcells 56 [.arr .i8 81 x2, .arr .i8 16 x3, .one [.i .i8 x4], .rows [.i .u64, .i .u64] 32 x5, .rows [.i .u64, .i .u64] 2 x6]]) (pureD 1 qIF) = qq x0 x1 x2 x3 x4 x5 x6 := by kernel_rfl
def qID {R : Type} (o : Orc) (vs : List V) (objs : List Obj) (K : Bool → V → List Obj → Option R) : Option R := match vs, List.map Obj.toRO objs with
 | [.s (.ptr 0 0 none 0), .s (.i .i64 x0), .s (.i .i64 x1)], [.rcells 56 [.arr .i8 81 x2, .arr .i8 16 x3, .one [.i .i8 x4], .rows [.i .u64, .i .u64] 32 x5, .rows [.i .u64, .i .u64] 2 x6]] => ob (qq x0 x1 x2 x3 x4 x5 x6) fun z => K true (.agg [.one [.i .u64 (z.1), .i .u64 (z.2)]]) ([])
 | _, _ => o 86 vs objs K
def qBi (o : Orc) : Orc := hook 86 (qID o) o
theorem qCk (o : Orc) (ho : OSound Tryz.prog o) : OSound Tryz.prog (qBi o) := hook_ok ho fun vs objs K r h => by
 unfold qID at h
 split at h
 ·skip
  have hq : List.map Obj.toRO objs = _ := (by rename_i hq; first | exact hq | assumption)
  obtain ⟨t, h1, h2⟩ := ob_ok h
  refine purOK_by mixed qPd (m := 1) (fn := Tryz.f86) (b := (Tryz.f86).body.getD .skip) (by kernel_rfl) (by kernel_rfl) (by kernel_rfl) hq (by kernel_rfl) (by kernel_rfl) (AllP.of (l' := []) (by kernel_rfl) trivial) ((qPc _ _ _ _ _ _ _).trans h1) fun v objs' hd => ?_
  unfold qIF at hd
  split at hd
  ·skip
   cases hd
   exact h2
  ·cases hd
 ·exact ho _ _ _ _ _ h
def qEP : Ctx := mkC 14 (oNil) [] lpNil
theorem qPO : CtxOK Tryz.prog qEP := mkC_ok (oNil_ok)
def qEQ : V → List Obj → Option (Int) := fun v objs => match v, objs with
 | .s (.i .i64 y0), [] => some (y0)
 | _, _ => none
theorem qPN (B : {R : Type} → Bool → Option R → Option R → Option R) (x0 : Int) : fnE { qEP with brg := B } Tryz.f114 ([.s (.i .u64 x0)]) ([]) qEQ = qEO B x0 := by kernel_rfl
theorem qPM (x0 : Int) : fnE qEP Tryz.f114 ([.s (.i .u64 x0)]) ([]) qEQ = qAc x0 := qPN br x0
def qHu {R : Type} (o : Orc) (vs : List V) (objs : List Obj) (K : Bool → V → List Obj → Option R) : Option R := match vs, objs with
 | [.s (.i .u64 x0)], [] => ob (qAc x0) fun y0 => K false (.s (.i .i64 y0)) ([])
 | _, _ => o 114 vs objs K
def qER (o : Orc) : Orc := hook 114 (qHu o) o
theorem qHv (o : Orc) (ho : OSound Tryz.prog o) : OSound Tryz.prog (qER o) := hook_ok ho fun vs objs K r h => by
 unfold qHu at h
 split at h
 ·skip
  obtain ⟨t, h1, h2⟩ := ob_ok h
  refine anyOK_of mixed qPO (fn := Tryz.f114) (b := (Tryz.f114).body.getD .skip) (by kernel_rfl) (by kernel_rfl) (by kernel_rfl) ((qPM _).trans h1) (m := 0) rfl (AllP.of (l' := []) (by kernel_rfl) trivial) fun v objs' hd => ?_
  unfold qEQ at hd
  split at hd
  ·skip
   cases hd
   exact h2
  ·cases hd
 ·exact ho _ _ _ _ _ h
def qNt : Ctx := mkC 18 ((qER oNil)) [] lpNil
theorem qUB : CtxOK Tryz.prog qNt := mkC_ok ((qHv _ oNil_ok))
def qNu : V → List Obj → Option (Int) := fun v objs => match v, objs with
 | .s (.i .i64 y0), [] => some (y0)
 | _, _ => none
theorem qUA (x0 x1 : Int) : fnE qNt Tryz.f84 ([.agg [.one [.i .u64 x0, .i .u64 x1]]]) ([]) qNu = qBV x0 x1 := by kernel_rfl
def qNs {R : Type} (o : Orc) (vs : List V) (objs : List Obj) (K : Bool → V → List Obj → Option R) : Option R := match vs, objs with
 | [.agg [.one [.i .u64 x0, .i .u64 x1]]], [] => ob (qBV x0 x1) fun y0 => K false (.s (.i .i64 y0)) ([])
 | _, _ => o 84 vs objs K
def qDz (o : Orc) : Orc := hook 84 (qNs o) o
theorem qG7 (o : Orc) (ho : OSound Tryz.prog o) : OSound Tryz.prog (qDz o) := hook_ok ho fun vs objs K r h => by
 unfold qNs at h
 split at h
 ·skip
  obtain ⟨t, h1, h2⟩ := ob_ok h
  refine anyOK_of mixed qUB (fn := Tryz.f84) (b := (Tryz.f84).body.getD .skip) (by kernel_rfl) (by kernel_rfl) (by kernel_rfl) ((qUA _ _).trans h1) (m := 0) rfl (AllP.of (l' := []) (by kernel_rfl) trivial) fun v objs' hd => ?_
  unfold qNu at hd
  split at hd
  ·skip
   cases hd
   exact h2
  ·cases hd
 ·exact ho _ _ _ _ _ h
def qH7 : Ctx := mkC 9 ((qDz (qBi oNil))) [] lpNil
theorem qPX : CtxOK Tryz.prog qH7 := mkC_ok ((qG7 _ (qCk _ oNil_ok)))
def qH8 : V → List Obj → Option (Int) := fun v objs => match v, objs with
 | .s (.i .i64 y0), [] => some (y0)
 | _, _ => none
theorem qPW (x0 : Int) (x1 x2 : List Int) (x3 : Int) (x4 x5 : List (List Int)) : fnE qH7 Tryz.f80 ([.s (.ptr 0 0 none 0), .s (.i .i64 x0)]) ([.rcells 56 [.arr .i8 81 x1, .arr .i8 16 x2, .one [.i .i8 x3], .rows [.i .u64, .i .u64] 32 x4, .rows [.i .u64, .i .u64] 2 x5]]) (pureD 1 qH8) = qBH x0 x1 x2 x3 x4 x5 := by kernel_rfl
def qH6 {R : Type} (o : Orc) (vs : List V) (objs : List Obj) (K : Bool → V → List Obj → Option R) : Option R := match vs, List.map Obj.toRO objs with
 | [.s (.ptr 0 0 none 0), .s (.i .i64 x0)], [.rcells 56 [.arr .i8 81 x1, .arr .i8 16 x2, .one [.i .i8 x3], .rows [.i .u64, .i .u64] 32 x4, .rows [.i .u64, .i .u64] 2 x5]] => ob (qBH x0 x1 x2 x3 x4 x5) fun y0 => K true (.s (.i .i64 y0)) ([])
 | _, _ => o 80 vs objs K
def qDO (o : Orc) : Orc := hook 80 (qH6 o) o
theorem qET (o : Orc) (ho : OSound Tryz.prog o) : OSound Tryz.prog (qDO o) := hook_ok ho fun vs objs K r h => by
 unfold qH6 at h
 split at h
 ·skip
  have hq : List.map Obj.toRO objs = _ := (by rename_i hq; first | exact hq | assumption)
  obtain ⟨t, h1, h2⟩ := ob_ok h
  refine purOK_by mixed qPX (m := 1) (fn := Tryz.f80) (b := (Tryz.f80).body.getD .skip) (by kernel_rfl) (by kernel_rfl) (by kernel_rfl) hq (by kernel_rfl) (by kernel_rfl) (AllP.of (l' := []) (by kernel_rfl) trivial) ((qPW _ _ _ _ _ _).trans h1) fun v objs' hd => ?_
  unfold qH8 at hd
  split at hd
  ·skip
   cases hd
   exact h2
  ·cases hd
 ·exact ho _ _ _ _ _ h
def qNc : Ctx := mkC 2 (oNil) [] lpNil
theorem qT1 : CtxOK Tryz.prog qNc := mkC_ok (oNil_ok)
def qNd : V → List Obj → Option (Int × Int) := fun v objs => match v, objs with
 | .agg [.one [.i .u64 y0, .i .u64 y1]], [] => some (y0, y1)
 | _, _ => none
theorem qT0 : fnE qNc Tryz.f44 ([]) ([]) qNd = qBT  := by kernel_rfl
def qNb {R : Type} (o : Orc) (vs : List V) (objs : List Obj) (K : Bool → V → List Obj → Option R) : Option R := match vs, objs with
 | [], [] => ob (qBT ) fun z => K false (.agg [.one [.i .u64 (z.1), .i .u64 (z.2)]]) ([])
 | _, _ => o 44 vs objs K
def qDC (o : Orc) : Orc := hook 44 (qNb o) o
theorem qDy (o : Orc) (ho : OSound Tryz.prog o) : OSound Tryz.prog (qDC o) := hook_ok ho fun vs objs K r h => by
 unfold qNb at h
 split at h
 ·skip
  obtain ⟨t, h1, h2⟩ := ob_ok h
  refine anyOK_of mixed qT1 (fn := Tryz.f44) (b := (Tryz.f44).body.getD .skip) (by kernel_rfl) (by kernel_rfl) (by kernel_rfl) ((qT0).trans h1) (m := 0) rfl (AllP.of (l' := []) (by kernel_rfl) trivial) fun v objs' hd => ?_
  unfold qNd at hd
  split at hd
  ·skip
   cases hd
   exact h2
  ·cases hd
 ·exact ho _ _ _ _ _ h
def qHI : Ex → List V → List Obj → Option (Nat × Int × Int × Nat × List Int) := fun e vs objs => match e, vs, objs with
 | .exit 0, [.s (.ptr 0 0 none 0), .s (.sl 1 0 y0 true)], [.cells 52 [.one [.i .u64 y1, .i .u64 y2]], .sli 3 false (.arr .i64 y3 y4)] => some (y0, y1, y2, y3, y4)
 | _, _, _ => none
def qHK : Ex → List V → List Obj → Option (Nat × Nat × List Int) := fun e vs objs => match e, vs, objs with
 | .exit 2, [.s (.sl 0 0 y0 true)], [.sli 3 false (.arr .i64 y1 y2)] => some (y0, y1, y2)
 | _, _, _ => none
def qHM {R : Type} (vs : List V) (objs : List Obj) (K : Ex → List V → List Obj → Option R) : Option R := match vs, objs with
 | [.s (.ptr 0 0 none 0), .s (.sl 1 0 x0 true)], [.cells 52 [.one [.i .u64 x1, .i .u64 x2]], .sli 3 false (.arr .i64 x3 x4)] => ob (qCh many x0 x1 x2 x3 x4) fun z => K (.exit 0) ([.s (.ptr 0 0 none 0), .s (.sl 1 0 (z.1) true)]) ([.cells 52 [.one [.i .u64 (z.2.1), .i .u64 (z.2.2.1)]], .sli 3 false (.arr .i64 (z.2.2.2.1) (z.2.2.2.2))])
 | _, _ => none
def qHN {R : Type} (vs : List V) (objs : List Obj) (K : Ex → List V → List Obj → Option R) : Option R := match vs, objs with
 | [.s (.ptr 0 0 none 0), .s (.sl 1 0 x0 true)], [.cells 52 [.one [.i .u64 x1, .i .u64 x2]], .sli 3 false (.arr .i64 x3 x4)] => ob (qCi many x0 x1 x2 x3 x4) fun z => K (.exit 2) ([.s (.sl 0 0 (z.1) true)]) ([.sli 3 false (.arr .i64 (z.2.1) (z.2.2))])
 | _, _ => none
def qUc : {R : Type} → Nat → List V → List Obj → (Ex → List V → List Obj → Option R) → Option R := fun q vs objs K => bif Nat.beq q 2 then qHM vs objs K else bif Nat.beq q 5 then qHN vs objs K else none
def qCg : Ctx := mkC 38 ((qER oNil)) [(2, [1, 3], [1, 3]), (5, [1, 3], [3])] qUc
theorem qHH : CtxOK Tryz.prog qCg := mkC_ok ((qHv _ oNil_ok))
def qHJ (f : Nat) (x0 : Nat) (x1 x2 : Int) (x3 : Nat) (x4 : List Int) : Option (Nat × Int × Int × Nat × List Int) := lrun qCg 0 [1, 3] [1, 3] (loopOf Tryz.f88 2) f ([.s (.ptr 0 0 none 0), .s (.sl 1 0 x0 true)]) ([.cells 52 [.one [.i .u64 x1, .i .u64 x2]], .sli 3 false (.arr .i64 x3 x4)]) qHI
theorem qUa (f : Nat) (x0 : Nat) (x1 x2 : Int) (x3 : Nat) (x4 : List Int) : qHJ (f + 1) x0 x1 x2 x3 x4 = qD4 (qHJ f) x0 x1 x2 x3 x4 := by kernel_rfl
theorem qOT : ∀ f, qHJ f = qCh f
 | 0 => rfl
 | f + 1 => by funext x0 x1 x2 x3 x4; rw [qUa, qOT f]; rfl
def qHL (f : Nat) (x0 : Nat) (x1 x2 : Int) (x3 : Nat) (x4 : List Int) : Option (Nat × Nat × List Int) := lrun qCg 0 [1, 3] [3] (loopOf Tryz.f88 5) f ([.s (.ptr 0 0 none 0), .s (.sl 1 0 x0 true)]) ([.cells 52 [.one [.i .u64 x1, .i .u64 x2]], .sli 3 false (.arr .i64 x3 x4)]) qHK
theorem qUb (f : Nat) (x0 : Nat) (x1 x2 : Int) (x3 : Nat) (x4 : List Int) : qHL (f + 1) x0 x1 x2 x3 x4 = qD5 (qHL f) x0 x1 x2 x3 x4 := by kernel_rfl
theorem qOU : ∀ f, qHL f = qCi f
 | 0 => rfl
 | f + 1 => by funext x0 x1 x2 x3 x4; rw [qUb, qOU f]; rfl
theorem qUd : LoopSound Tryz.prog qCg 0 (loopOf Tryz.f88 2) :=
 loopSound_by mixed qHH (AllP.of (l' := []) (by kernel_rfl) trivial) (q := 2) (kin := [1, 3]) (kout := [1, 3]) (by kernel_rfl) (by kernel_rfl) fun vs objs K r h => by
  replace h : qHM vs objs K = some r := h
  unfold qHM at h
  split at h
  ·skip
   obtain ⟨t, h1, h2⟩ := ob_ok h
   rw [← qOT] at h1
   refine ⟨_, qHI, t, many, h1, fun e vs' objs' hd => ?_⟩
   unfold qHI at hd
   split at hd
   ·skip
    cases hd
    exact h2
   ·cases hd
  ·cases h
theorem qUe : LoopSound Tryz.prog qCg 0 (loopOf Tryz.f88 5) :=
 loopSound_by mixed qHH (AllP.of (l' := []) (by kernel_rfl) trivial) (q := 5) (kin := [1, 3]) (kout := [3]) (by kernel_rfl) (by kernel_rfl) fun vs objs K r h => by
  replace h : qHN vs objs K = some r := h
  unfold qHN at h
  split at h
  ·skip
   obtain ⟨t, h1, h2⟩ := ob_ok h
   rw [← qOU] at h1
   refine ⟨_, qHK, t, many, h1, fun e vs' objs' hd => ?_⟩
   unfold qHK at hd
   split at hd
   ·skip
    cases hd
    exact h2
   ·cases hd
  ·cases h
def qOS : V → List Obj → Option (Nat × Nat × List Int) := fun v objs => match v, objs with
 | .s (.sl 0 0 y0 true), [.sli 3 false (.arr .i64 y1 y2)] => some (y0, y1, y2)
 | _, _ => none
theorem qUZ (x0 x1 : Int) : fnE qCg Tryz.f88 ([.agg [.one [.i .u64 x0, .i .u64 x1]]]) ([]) qOS = qAX x0 x1 := by kernel_rfl
def qOR {R : Type} (o : Orc) (vs : List V) (objs : List Obj) (K : Bool → V → List Obj → Option R) : Option R := match vs, objs with
 | [.agg [.one [.i .u64 x0, .i .u64 x1]]], [] => ob (qAX x0 x1) fun z => K false (.s (.sl 0 0 (z.1) true)) ([.sli 3 false (.arr .i64 (z.2.1) (z.2.2))])
 | _, _ => o 88 vs objs K
def qDG (o : Orc) : Orc := hook 88 (qOR o) o
theorem qD6 (o : Orc) (ho : OSound Tryz.prog o) : OSound Tryz.prog (qDG o) := hook_ok ho fun vs objs K r h => by
 unfold qOR at h
 split at h
 ·skip
  obtain ⟨t, h1, h2⟩ := ob_ok h
  refine anyOK_of mixed qHH (fn := Tryz.f88) (b := (Tryz.f88).body.getD .skip) (by kernel_rfl) (by kernel_rfl) (by kernel_rfl) ((qUZ _ _).trans h1) (m := 0) rfl (AllP.of (l' := [loopOf Tryz.f88 2, loopOf Tryz.f88 5]) (by kernel_rfl) ⟨qUd, qUe, trivial⟩) fun v objs' hd => ?_
  unfold qOS at hd
  split at hd
  ·skip
   cases hd
   exact h2
  ·cases hd
 ·exact ho _ _ _ _ _ h
def qKl : Ctx := mkC 24 (oNil) [] lpNil
theorem qRX : CtxOK Tryz.prog qKl := mkC_ok (oNil_ok)
def qKm : V → List Obj → Option (Nat × Nat × List (List Int)) := fun v objs => match v, objs with
 | .s (.sl 0 0 y0 true), [.sli 120 false (.rows [.i .i64, .i .i64] y1 y2)] => some (y0, y1, y2)
 | _, _ => none
theorem qRW (x0 : Int) : fnE qKl Tryz.f111 ([.s (.i .i64 x0)]) ([]) qKm = qBP x0 := by kernel_rfl
def qKk {R : Type} (o : Orc) (vs : List V) (objs : List Obj) (K : Bool → V → List Obj → Option R) : Option R := match vs, objs with
 | [.s (.i .i64 x0)], [] => ob (qBP x0) fun z => K false (.s (.sl 0 0 (z.1) true)) ([.sli 120 false (.rows [.i .i64, .i .i64] (z.2.1) (z.2.2))])
 | _, _ => o 111 vs objs K
def qFd (o : Orc) : Orc := hook 111 (qKk o) o
theorem qKn (o : Orc) (ho : OSound Tryz.prog o) : OSound Tryz.prog (qFd o) := hook_ok ho fun vs objs K r h => by
 unfold qKk at h
 split at h
 ·skip
  obtain ⟨t, h1, h2⟩ := ob_ok h
  refine anyOK_of mixed qRX (fn := Tryz.f111) (b := (Tryz.f111).body.getD .skip) (by kernel_rfl) (by kernel_rfl) (by kernel_rfl) ((qRW _).trans h1) (m := 0) rfl (AllP.of (l' := []) (by kernel_rfl) trivial) fun v objs' hd => ?_
  unfold qKm at hd
  split at hd
  ·skip
   cases hd
   exact h2
  ·cases hd
 ·exact ho _ _ _ _ _ h
def qHC : Ex → List V → List Obj → Option (Nat × List Int × Int × Int × Int × Int) := fun e vs objs => match e, vs, objs with
 | .exit 0, [.s (.ptr 1 0 none 0), .s (.ptr 2 0 none 0)], [.sli 3 true (.arr .i64 y0 y1), .cells 52 [.one [.i .u64 y2, .i .u64 y3]], .cells 52 [.one [.i .u64 y4, .i .u64 y5]]] => some (y0, y1, y2, y3, y4, y5)
 | _, _, _ => none
def qHE {R : Type} (vs : List V) (objs : List Obj) (K : Ex → List V → List Obj → Option R) : Option R := match vs, objs with
 | [.s (.ptr 1 0 none 0), .s (.ptr 2 0 none 0), .s (.sl 0 0 x0 true), .s (.i .i64 x1), .s (.i .i64 x2)], [.sli 3 true (.arr .i64 x3 x4), .cells 52 [.one [.i .u64 x5, .i .u64 x6]], .cells 52 [.one [.i .u64 x7, .i .u64 x8]]] => ob (qA7 many x0 x1 x2 x3 x4 x5 x6 x7 x8) fun z => K (.exit 0) ([.s (.ptr 1 0 none 0), .s (.ptr 2 0 none 0)]) ([.sli 3 true (.arr .i64 (z.1) (z.2.1)), .cells 52 [.one [.i .u64 (z.2.2.1), .i .u64 (z.2.2.2.1)]], .cells 52 [.one [.i .u64 (z.2.2.2.2.1), .i .u64 (z.2.2.2.2.2)]]])
 | _, _ => none
def qUQ : {R : Type} → Nat → List V → List Obj → (Ex → List V → List Obj → Option R) → Option R := fun q vs objs K => bif Nat.beq q 3 then qHE vs objs K else none
def qD3 : Ctx := mkC 17 ((qAY oNil)) [(3, [2, 3, 6, 7, 8], [2, 3])] qUQ
theorem qOC : CtxOK Tryz.prog qD3 := mkC_ok ((qA8 _ oNil_ok))
def qHD (f : Nat) (x0 : Nat) (x1 x2 : Int) (x3 : Nat) (x4 : List Int) (x5 x6 : Int) (x7 x8 : Int) : Option (Nat × List Int × Int × Int × Int × Int) := lrun qD3 1 [2, 3, 6, 7, 8] [2, 3] (loopOf Tryz.f113 3) f ([.s (.ptr 1 0 none 0), .s (.ptr 2 0 none 0), .s (.sl 0 0 x0 true), .s (.i .i64 x1), .s (.i .i64 x2)]) ([.sli 3 true (.arr .i64 x3 x4), .cells 52 [.one [.i .u64 x5, .i .u64 x6]], .cells 52 [.one [.i .u64 x7, .i .u64 x8]]]) qHC
theorem qUP (f : Nat) (x0 : Nat) (x1 x2 : Int) (x3 : Nat) (x4 : List Int) (x5 x6 : Int) (x7 x8 : Int) : qHD (f + 1) x0 x1 x2 x3 x4 x5 x6 x7 x8 = qCd (qHD f) x0 x1 x2 x3 x4 x5 x6 x7 x8 := by kernel_rfl
theorem qOE : ∀ f, qHD f = qA7 f
 | 0 => rfl
 | f + 1 => by funext x0 x1 x2 x3 x4 x5 x6 x7 x8; rw [qUP, qOE f]; rfl
theorem qUS : LoopSound Tryz.prog qD3 1 (loopOf Tryz.f113 3) :=
 loopSound_by mixed qOC (AllP.of (l' := []) (by kernel_rfl) trivial) (q := 3) (kin := [2, 3, 6, 7, 8]) (kout := [2, 3]) (by kernel_rfl) (by kernel_rfl) fun vs objs K r h => by
  replace h : qHE vs objs K = some r := h
  unfold qHE at h
  split at h
  ·skip
   obtain ⟨t, h1, h2⟩ := ob_ok h
   rw [← qOE] at h1
   refine ⟨_, qHC, t, many, h1, fun e vs' objs' hd => ?_⟩
   unfold qHC at hd
   split at hd
   ·skip
    cases hd
    exact h2
   ·cases hd
  ·cases h
def qOD : V → List Obj → Option (Int × Int) := fun v objs => match v, objs with
 | .agg [.one [.i .u64 y0, .i .u64 y1]], [] => some (y0, y1)
 | _, _ => none
theorem qUO (x0 x1 : Nat) (x2 : List Int) : fnE qD3 Tryz.f113 ([.s (.sl 0 0 x0 true)]) ([.sli 3 true (.arr .i64 x1 x2)]) (pureD 1 qOD) = qCc x0 x1 x2 := by kernel_rfl
def qOB {R : Type} (o : Orc) (vs : List V) (objs : List Obj) (K : Bool → V → List Obj → Option R) : Option R := match vs, List.map Obj.toRO objs with
 | [.s (.sl 0 0 x0 true)], [.sli 3 true (.arr .i64 x1 x2)] => ob (qCc x0 x1 x2) fun z => K true (.agg [.one [.i .u64 (z.1), .i .u64 (z.2)]]) ([])
 | _, _ => o 113 vs objs K
def qOF (o : Orc) : Orc := hook 113 (qOB o) o
theorem qUR (o : Orc) (ho : OSound Tryz.prog o) : OSound Tryz.prog (qOF o) := hook_ok ho fun vs objs K r h => by
 unfold qOB at h
 split at h
 ·skip
  have hq : List.map Obj.toRO objs = _ := (by rename_i hq; first | exact hq | assumption)
  obtain ⟨t, h1, h2⟩ := ob_ok h
  refine purOK_by mixed qOC (m := 1) (fn := Tryz.f113) (b := (Tryz.f113).body.getD .skip) (by kernel_rfl) (by kernel_rfl) (by kernel_rfl) hq (by kernel_rfl) (by kernel_rfl) (AllP.of (l' := [loopOf Tryz.f113 3]) (by kernel_rfl) ⟨qUS, trivial⟩) ((qUO _ _ _).trans h1) fun v objs' hd => ?_
  unfold qOD at hd
  split at hd
  ·skip
   cases hd
   exact h2
  ·cases hd
 ·exact ho _ _ _ _ _ h
def qNp : Ctx := mkC 5 (oNil) [] lpNil
theorem qT9 : CtxOK Tryz.prog qNp := mkC_ok (oNil_ok)
def qNq : V → List Obj → Option (Int) := fun v objs => match v, objs with
 | .s (.i .i64 y0), [] => some (y0)
 | _, _ => none
theorem qT8 (x0 : Int) : fnE qNp Tryz.f121 ([.s (.i .i64 x0)]) ([]) qNq = qCa x0 := by kernel_rfl
def qNo {R : Type} (o : Orc) (vs : List V) (objs : List Obj) (K : Bool → V → List Obj → Option R) : Option R := match vs, objs with
 | [.s (.i .i64 x0)], [] => ob (qCa x0) fun y0 => K false (.s (.i .i64 y0)) ([])
 | _, _ => o 121 vs objs K
def qG6 (o : Orc) : Orc := hook 121 (qNo o) o
theorem qNr (o : Orc) (ho : OSound Tryz.prog o) : OSound Tryz.prog (qG6 o) := hook_ok ho fun vs objs K r h => by
 unfold qNo at h
 split at h
 ·skip
  obtain ⟨t, h1, h2⟩ := ob_ok h
  refine anyOK_of mixed qT9 (fn := Tryz.f121) (b := (Tryz.f121).body.getD .skip) (by kernel_rfl) (by kernel_rfl) (by kernel_rfl) ((qT8 _).trans h1) (m := 0) rfl (AllP.of (l' := []) (by kernel_rfl) trivial) fun v objs' hd => ?_
  unfold qNq at hd
  split at hd
  ·skip
   cases hd
   exact h2
  ·cases hd
 ·exact ho _ _ _ _ _ h
def qOK : Ctx := mkC 5 (oNil) [] lpNil
theorem qUW : CtxOK Tryz.prog qOK := mkC_ok (oNil_ok)
def qOL : V → List Obj → Option (Int) := fun v objs => match v, objs with
 | .s (.i .i64 y0), [] => some (y0)
 | _, _ => none
theorem qUV (x0 : Int) : fnE qOK Tryz.f131 ([.s (.i .i64 x0)]) ([]) qOL = qBY x0 := by kernel_rfl
def qOJ {R : Type} (o : Orc) (vs : List V) (objs : List Obj) (K : Bool → V → List Obj → Option R) : Option R := match vs, objs with
 | [.s (.i .i64 x0)], [] => ob (qBY x0) fun y0 => K false (.s (.i .i64 y0)) ([])
 | _, _ => o 131 vs objs K
def qHF (o : Orc) : Orc := hook 131 (qOJ o) o
theorem qOM (o : Orc) (ho : OSound Tryz.prog o) : OSound Tryz.prog (qHF o) := hook_ok ho fun vs objs K r h => by
 unfold qOJ at h
 split at h
 ·skip
  obtain ⟨t, h1, h2⟩ := ob_ok h
  refine anyOK_of mixed qUW (fn := Tryz.f131) (b := (Tryz.f131).body.getD .skip) (by kernel_rfl) (by kernel_rfl) (by kernel_rfl) ((qUV _).trans h1) (m := 0) rfl (AllP.of (l' := []) (by kernel_rfl) trivial) fun v objs' hd => ?_
  unfold qOL at hd
  split at hd
  ·skip
   cases hd
   exact h2
  ·cases hd
 ·exact ho _ _ _ _ _ h
def qOO : Ctx := mkC 23 (oNil) [] lpNil
theorem qUY : CtxOK Tryz.prog qOO := mkC_ok (oNil_ok)
def qOP : V → List Obj → Option (Int) := fun v objs => match v, objs with
 | .s (.i .i64 y0), [] => some (y0)
 | _, _ => none
theorem qUX (x0 x1 : Int) : fnE qOO Tryz.f79 ([.s (.i .i64 x0), .s (.i .i64 x1)]) ([]) qOP = qCf x0 x1 := by kernel_rfl
def qON {R : Type} (o : Orc) (vs : List V) (objs : List Obj) (K : Bool → V → List Obj → Option R) : Option R := match vs, objs with
 | [.s (.i .i64 x0), .s (.i .i64 x1)], [] => ob (qCf x0 x1) fun y0 => K false (.s (.i .i64 y0)) ([])
 | _, _ => o 79 vs objs K
def qHG (o : Orc) : Orc := hook 79 (qON o) o
theorem qOQ (o : Orc) (ho : OSound Tryz.prog o) : OSound Tryz.prog (qHG o) := hook_ok ho fun vs objs K r h => by
 unfold qON at h
 split at h
 ·skip
  obtain ⟨t, h1, h2⟩ := ob_ok h
  refine anyOK_of mixed qUY (fn := Tryz.f79) (b := (Tryz.f79).body.getD .skip) (by kernel_rfl) (by kernel_rfl) (by kernel_rfl) ((qUX _ _).trans h1) (m := 0) rfl (AllP.of (l' := []) (by kernel_rfl) trivial) fun v objs' hd => ?_
  unfold qOP at hd
  split at hd
  ·skip
   cases hd
   exact h2
  ·cases hd
 ·exact ho _ _ _ _ _ h
def qOg : Ctx := mkC 42 ((qHG (qHF (qG6 oNil)))) [] lpNil
theorem qUm : CtxOK Tryz.prog qOg := mkC_ok ((qOQ _ (qOM _ (qNr _ oNil_ok))))
def qOh : V → List Obj → Option (Int) := fun v objs => match v, objs with
 | .s (.i .i64 y0), [] => some (y0)
 | _, _ => none
theorem qUl (x0 x1 x2 : Int) : fnE qOg Tryz.f126 ([.agg [.one [.i .i64 x0, .i .i64 x1]], .s (.i .i64 x2)]) ([]) qOh = qBZ x0 x1 x2 := by kernel_rfl
def qOf {R : Type} (o : Orc) (vs : List V) (objs : List Obj) (K : Bool → V → List Obj → Option R) : Option R := match vs, objs with
 | [.agg [.one [.i .i64 x0, .i .i64 x1]], .s (.i .i64 x2)], [] => ob (qBZ x0 x1 x2) fun y0 => K false (.s (.i .i64 y0)) ([])
 | _, _ => o 126 vs objs K
def qHP (o : Orc) : Orc := hook 126 (qOf o) o
theorem qOi (o : Orc) (ho : OSound Tryz.prog o) : OSound Tryz.prog (qHP o) := hook_ok ho fun vs objs K r h => by
 unfold qOf at h
 split at h
 ·skip
  obtain ⟨t, h1, h2⟩ := ob_ok h
  refine anyOK_of mixed qUm (fn := Tryz.f126) (b := (Tryz.f126).body.getD .skip) (by kernel_rfl) (by kernel_rfl) (by kernel_rfl) ((qUl _ _ _).trans h1) (m := 0) rfl (AllP.of (l' := []) (by kernel_rfl) trivial) fun v objs' hd => ?_
  unfold qOh at hd
  split at hd
  ·skip
   cases hd
   exact h2
  ·cases hd
 ·exact ho _ _ _ _ _ h
def qNf : Ctx := mkC 16 (oNil) [] lpNil
theorem qT3 : CtxOK Tryz.prog qNf := mkC_ok (oNil_ok)
def qNg : V → List Obj → Option (Int × Int) := fun v objs => match v, objs with
 | .agg [.one [.i .u64 y0, .i .u64 y1]], [] => some (y0, y1)
 | _, _ => none
theorem qT2 (x0 x1 : Int) (x2 x3 : Int) : fnE qNf Tryz.f92 ([.agg [.one [.i .u64 x0, .i .u64 x1]], .agg [.one [.i .u64 x2, .i .u64 x3]]]) ([]) qNg = qm x0 x1 x2 x3 := by kernel_rfl
def qNe {R : Type} (o : Orc) (vs : List V) (objs : List Obj) (K : Bool → V → List Obj → Option R) : Option R := match vs, objs with
 | [.agg [.one [.i .u64 x0, .i .u64 x1]], .agg [.one [.i .u64 x2, .i .u64 x3]]], [] => ob (qm x0 x1 x2 x3) fun z => K false (.agg [.one [.i .u64 (z.1), .i .u64 (z.2)]]) ([])
 | _, _ => o 92 vs objs K
def qBU (o : Orc) : Orc := hook 92 (qNe o) o
theorem qCX (o : Orc) (ho : OSound Tryz.prog o) : OSound Tryz.prog (qBU o) := hook_ok ho fun vs objs K r h => by
 unfold qNe at h
 split at h
 ·skip
  obtain ⟨t, h1, h2⟩ := ob_ok h
  refine anyOK_of mixed qT3 (fn := Tryz.f92) (b := (Tryz.f92).body.getD .skip) (by kernel_rfl) (by kernel_rfl) (by kernel_rfl) ((qT2 _ _ _ _).trans h1) (m := 0) rfl (AllP.of (l' := []) (by kernel_rfl) trivial) fun v objs' hd => ?_
  unfold qNg at hd
  split at hd
  ·skip
   cases hd
   exact h2
  ·cases hd
 ·exact ho _ _ _ _ _ h
def qNm : Ctx := mkC 6 (oNil) [] lpNil
theorem qT7 : CtxOK Tryz.prog qNm := mkC_ok (oNil_ok)
def qNn : V → List Obj → Option (Bool) := fun v objs => match v, objs with
 | .s (.b y0), [] => some (y0)
 | _, _ => none
theorem qT6 (x0 x1 : Int) : fnE qNm Tryz.f62 ([.agg [.one [.i .u64 x0, .i .u64 x1]]]) ([]) qNn = qAV x0 x1 := by kernel_rfl
def qNl {R : Type} (o : Orc) (vs : List V) (objs : List Obj) (K : Bool → V → List Obj → Option R) : Option R := match vs, objs with
 | [.agg [.one [.i .u64 x0, .i .u64 x1]]], [] => ob (qAV x0 x1) fun y0 => K false (.s (.b y0)) ([])
 | _, _ => o 62 vs objs K
def qCZ (o : Orc) : Orc := hook 62 (qNl o) o
theorem qDD (o : Orc) (ho : OSound Tryz.prog o) : OSound Tryz.prog (qCZ o) := hook_ok ho fun vs objs K r h => by
 unfold qNl at h
 split at h
 ·skip
  obtain ⟨t, h1, h2⟩ := ob_ok h
  refine anyOK_of mixed qT7 (fn := Tryz.f62) (b := (Tryz.f62).body.getD .skip) (by kernel_rfl) (by kernel_rfl) (by kernel_rfl) ((qT6 _ _).trans h1) (m := 0) rfl (AllP.of (l' := []) (by kernel_rfl) trivial) fun v objs' hd => ?_
  unfold qNn at hd
  split at hd
  ·skip
   cases hd
   exact h2
  ·cases hd
 ·exact ho _ _ _ _ _ h
def qNw : Ctx := mkC 11 ((qCZ (qBU (set_bito oNil)))) [] lpNil
theorem qUD : CtxOK Tryz.prog qNw := mkC_ok ((qDD _ (qCX _ (set_bito_ok _ oNil_ok))))
def qNx : V → List Obj → Option (Bool) := fun v objs => match v, objs with
 | .s (.b y0), [] => some (y0)
 | _, _ => none
theorem qUC (x0 x1 x2 : Int) : fnE qNw Tryz.f95 ([.agg [.one [.i .u64 x0, .i .u64 x1]], .s (.i .i64 x2)]) ([]) qNx = qV x0 x1 x2 := by kernel_rfl
def qNv {R : Type} (o : Orc) (vs : List V) (objs : List Obj) (K : Bool → V → List Obj → Option R) : Option R := match vs, objs with
 | [.agg [.one [.i .u64 x0, .i .u64 x1]], .s (.i .i64 x2)], [] => ob (qV x0 x1 x2) fun y0 => K false (.s (.b y0)) ([])
 | _, _ => o 95 vs objs K
def qBW (o : Orc) : Orc := hook 95 (qNv o) o
theorem qCb (o : Orc) (ho : OSound Tryz.prog o) : OSound Tryz.prog (qBW o) := hook_ok ho fun vs objs K r h => by
 unfold qNv at h
 split at h
 ·skip
  obtain ⟨t, h1, h2⟩ := ob_ok h
  refine anyOK_of mixed qUD (fn := Tryz.f95) (b := (Tryz.f95).body.getD .skip) (by kernel_rfl) (by kernel_rfl) (by kernel_rfl) ((qUC _ _ _).trans h1) (m := 0) rfl (AllP.of (l' := []) (by kernel_rfl) trivial) fun v objs' hd => ?_
  unfold qNx at hd
  split at hd
  ·skip
   cases hd
   exact h2
  ·cases hd
 ·exact ho _ _ _ _ _ h
def qFi : Ex → List V → List Obj → Option (Int × Int × Int × Int) := fun e vs objs => match e, vs, objs with
 | .exit 0, [.s (.ptr 0 0 none 0), .s (.ptr 1 0 none 0)], [.cells 52 [.one [.i .u64 y0, .i .u64 y1]], .cells 52 [.one [.i .u64 y2, .i .u64 y3]]] => some (y0, y1, y2, y3)
 | _, _, _ => none
def qFl {R : Type} (vs : List V) (objs : List Obj) (K : Ex → List V → List Obj → Option R) : Option R := match vs, objs with
 | [.s (.i .i64 x0), .s (.ptr 0 0 none 0), .s (.ptr 1 0 none 0), .s (.ptr 2 0 none 0), .s (.ptr 3 0 none 0)], [.cells 120 [.one [.i .i64 x1, .i .i64 x2]], .cells 52 [.one [.i .u64 x3, .i .u64 x4]], .cells 52 [.one [.i .u64 x5, .i .u64 x6]], .cells 52 [.one [.i .u64 x7, .i .u64 x8]]] => ob (qBQ many x0 x1 x2 x3 x4 x5 x6 x7 x8) fun z => K (.exit 0) ([.s (.ptr 0 0 none 0), .s (.ptr 1 0 none 0)]) ([.cells 52 [.one [.i .u64 (z.1), .i .u64 (z.2.1)]], .cells 52 [.one [.i .u64 (z.2.2.1), .i .u64 (z.2.2.2)]]])
 | _, _ => none
def qRe : {R : Type} → Nat → List V → List Obj → (Ex → List V → List Obj → Option R) → Option R := fun q vs objs K => bif Nat.beq q 5 then qFl vs objs K else none
def qDe : Ctx := mkC 27 ((qBW (qAY (qHP oNil)))) [(5, [0, 4, 5, 6, 7], [6, 7])] qRe
theorem qKt : CtxOK Tryz.prog qDe := mkC_ok ((qCb _ (qA8 _ (qOi _ oNil_ok))))
def qFj (f : Nat) (x0 x1 : Int) (x2 x3 : Int) (x4 x5 : Int) (x6 x7 x8 : Int) : Option (Int × Int × Int × Int) := lrun qDe 0 [0, 4, 5, 6, 7] [6, 7] (loopOf Tryz.f112 5) f ([.s (.i .i64 x0), .s (.ptr 0 0 none 0), .s (.ptr 1 0 none 0), .s (.ptr 2 0 none 0), .s (.ptr 3 0 none 0)]) ([.cells 120 [.one [.i .i64 x1, .i .i64 x2]], .cells 52 [.one [.i .u64 x3, .i .u64 x4]], .cells 52 [.one [.i .u64 x5, .i .u64 x6]], .cells 52 [.one [.i .u64 x7, .i .u64 x8]]]) qFi
theorem qRd (f : Nat) (x0 x1 : Int) (x2 x3 : Int) (x4 x5 : Int) (x6 x7 x8 : Int) : qFj (f + 1) x0 x1 x2 x3 x4 x5 x6 x7 x8 = qB9 (qFj f) x0 x1 x2 x3 x4 x5 x6 x7 x8 := by kernel_rfl
theorem qKv : ∀ f, qFj f = qBQ f
 | 0 => rfl
 | f + 1 => by funext x0 x1 x2 x3 x4 x5 x6 x7 x8; rw [qRd, qKv f]; rfl
theorem qRf : LoopSound Tryz.prog qDe 0 (loopOf Tryz.f112 5) :=
 loopSound_by mixed qKt (AllP.of (l' := []) (by kernel_rfl) trivial) (q := 5) (kin := [0, 4, 5, 6, 7]) (kout := [6, 7]) (by kernel_rfl) (by kernel_rfl) fun vs objs K r h => by
  replace h : qFl vs objs K = some r := h
  unfold qFl at h
  split at h
  ·skip
   obtain ⟨t, h1, h2⟩ := ob_ok h
   rw [← qKv] at h1
   refine ⟨_, qFi, t, many, h1, fun e vs' objs' hd => ?_⟩
   unfold qFi at hd
   split at hd
   ·skip
    cases hd
    exact h2
   ·cases hd
  ·cases h
def qKu : V → List Obj → Option (Int × Int) := fun v objs => match v, objs with
 | .agg [.one [.i .u64 y0, .i .u64 y1]], [] => some (y0, y1)
 | _, _ => none
theorem qRc (x0 x1 : Int) (x2 x3 x4 : Int) : fnE qDe Tryz.f112 ([.s (.i .i64 x0), .agg [.one [.i .i64 x1, .i .i64 x2]], .agg [.one [.i .u64 x3, .i .u64 x4]]]) ([]) qKu = qB8 x0 x1 x2 x3 x4 := by kernel_rfl
def qKs {R : Type} (o : Orc) (vs : List V) (objs : List Obj) (K : Bool → V → List Obj → Option R) : Option R := match vs, objs with
 | [.s (.i .i64 x0), .agg [.one [.i .i64 x1, .i .i64 x2]], .agg [.one [.i .u64 x3, .i .u64 x4]]], [] => ob (qB8 x0 x1 x2 x3 x4) fun z => K false (.agg [.one [.i .u64 (z.1), .i .u64 (z.2)]]) ([])
 | _, _ => o 112 vs objs K
def qFk (o : Orc) : Orc := hook 112 (qKs o) o
theorem qKw (o : Orc) (ho : OSound Tryz.prog o) : OSound Tryz.prog (qFk o) := hook_ok ho fun vs objs K r h => by
 unfold qKs at h
 split at h
 ·skip
  obtain ⟨t, h1, h2⟩ := ob_ok h
  refine anyOK_of mixed qKt (fn := Tryz.f112) (b := (Tryz.f112).body.getD .skip) (by kernel_rfl) (by kernel_rfl) (by kernel_rfl) ((qRc _ _ _ _ _).trans h1) (m := 0) rfl (AllP.of (l' := [loopOf Tryz.f112 5]) (by kernel_rfl) ⟨qRf, trivial⟩) fun v objs' hd => ?_
  unfold qKu at hd
  split at hd
  ·skip
   cases hd
   exact h2
  ·cases hd
 ·exact ho _ _ _ _ _ h
def qFZ : Ex → List V → List Obj → Option ((Int × Int) ⊕ (Int × Int)) := fun e vs objs => match e, vs, objs with
 | .ret, [.s (.ptr 0 0 none 0)], [.cells 52 [.one [.i .u64 y0, .i .u64 y1]]] => some (.inl (y0, y1))
 | .exit 0, [.s (.ptr 0 0 none 0)], [.cells 52 [.one [.i .u64 y0, .i .u64 y1]]] => some (.inr (y0, y1))
 | _, _, _ => none
def qFc {R : Type} (vs : List V) (objs : List Obj) (K : Ex → List V → List Obj → Option R) : Option R := match vs, objs with
 | [.s (.i .i64 x0), .s (.i .i64 x1), .s (.ptr 0 0 none 0), .s (.sl 1 0 x2 true), .s (.i .i64 x3), .s (.i .i64 x4)], [.cells 52 [.one [.i .u64 x5, .i .u64 x6]], .sli 120 false (.rows [.i .i64, .i .i64] x7 x8)] => ob (qAm many x0 x1 x2 x3 x4 x5 x6 x7 x8) fun t0 => sw t0 (fun z => K (.ret) ([.s (.ptr 0 0 none 0)]) ([.cells 52 [.one [.i .u64 (z.1), .i .u64 (z.2)]]])) (fun z => K (.exit 0) ([.s (.ptr 0 0 none 0)]) ([.cells 52 [.one [.i .u64 (z.1), .i .u64 (z.2)]]]))
 | _, _ => none
def qRU : {R : Type} → Nat → List V → List Obj → (Ex → List V → List Obj → Option R) → Option R := fun q vs objs K => bif Nat.beq q 2 then qFc vs objs K else none
def qDb : Ctx := mkC 30 ((qDH (qBW (qFk (qOF (qFd oNil)))))) [(2, [0, 1, 4, 10, 11, 12], [4])] qRU
theorem qKg : CtxOK Tryz.prog qDb := mkC_ok ((qD7 _ (qCb _ (qKw _ (qUR _ (qKn _ oNil_ok))))))
def qFa (f : Nat) (x0 x1 : Int) (x2 : Nat) (x3 x4 : Int) (x5 x6 : Int) (x7 : Nat) (x8 : List (List Int)) : Option ((Int × Int) ⊕ (Int × Int)) := lrun qDb 0 [0, 1, 4, 10, 11, 12] [4] (loopOf Tryz.f83 2) f ([.s (.i .i64 x0), .s (.i .i64 x1), .s (.ptr 0 0 none 0), .s (.sl 1 0 x2 true), .s (.i .i64 x3), .s (.i .i64 x4)]) ([.cells 52 [.one [.i .u64 x5, .i .u64 x6]], .sli 120 false (.rows [.i .i64, .i .i64] x7 x8)]) qFZ
theorem qRT (f : Nat) (x0 x1 : Int) (x2 : Nat) (x3 x4 : Int) (x5 x6 : Int) (x7 : Nat) (x8 : List (List Int)) : qFa (f + 1) x0 x1 x2 x3 x4 x5 x6 x7 x8 = qB6 (qFa f) x0 x1 x2 x3 x4 x5 x6 x7 x8 := by kernel_rfl
theorem qKi : ∀ f, qFa f = qAm f
 | 0 => rfl
 | f + 1 => by funext x0 x1 x2 x3 x4 x5 x6 x7 x8; rw [qRT, qKi f]; rfl
theorem qRV : LoopSound Tryz.prog qDb 0 (loopOf Tryz.f83 2) :=
 loopSound_by mixed qKg (AllP.of (l' := []) (by kernel_rfl) trivial) (q := 2) (kin := [0, 1, 4, 10, 11, 12]) (kout := [4]) (by kernel_rfl) (by kernel_rfl) fun vs objs K r h => by
  replace h : qFc vs objs K = some r := h
  unfold qFc at h
  split at h
  ·skip
   obtain ⟨t, h1, h2⟩ := ob_ok h
   rw [← qKi] at h1
   refine ⟨_, qFZ, t, many, h1, fun e vs' objs' hd => ?_⟩
   unfold qFZ at hd
   split at hd
   ·skip
    cases hd
    exact h2
   ·skip
    cases hd
    exact h2
   ·cases hd
  ·cases h
def qKh : V → List Obj → Option (Int × Int) := fun v objs => match v, objs with
 | .agg [.one [.i .u64 y0, .i .u64 y1]], [] => some (y0, y1)
 | _, _ => none
theorem qRS (x0 x1 : Int) : fnE qDb Tryz.f83 ([.s (.i .i64 x0), .s (.i .i64 x1)]) ([]) qKh = qB5 x0 x1 := by kernel_rfl
def qKf {R : Type} (o : Orc) (vs : List V) (objs : List Obj) (K : Bool → V → List Obj → Option R) : Option R := match vs, objs with
 | [.s (.i .i64 x0), .s (.i .i64 x1)], [] => ob (qB5 x0 x1) fun z => K false (.agg [.one [.i .u64 (z.1), .i .u64 (z.2)]]) ([])
 | _, _ => o 83 vs objs K
def qFb (o : Orc) : Orc := hook 83 (qKf o) o
theorem qKj (o : Orc) (ho : OSound Tryz.prog o) : OSound Tryz.prog (qFb o) := hook_ok ho fun vs objs K r h => by
 unfold qKf at h
 split at h
 ·skip
  obtain ⟨t, h1, h2⟩ := ob_ok h
  refine anyOK_of mixed qKg (fn := Tryz.f83) (b := (Tryz.f83).body.getD .skip) (by kernel_rfl) (by kernel_rfl) (by kernel_rfl) ((qRS _ _).trans h1) (m := 0) rfl (AllP.of (l' := [loopOf Tryz.f83 2]) (by kernel_rfl) ⟨qRV, trivial⟩) fun v objs' hd => ?_
  unfold qKh at hd
  split at hd
  ·skip
   cases hd
   exact h2
  ·cases hd
 ·exact ho _ _ _ _ _ h
def qIO : Ctx := mkC 14 ((qBX oNil)) [] lpNil
theorem qPj : CtxOK Tryz.prog qIO := mkC_ok ((qCe _ oNil_ok))
def qIP : V → List Obj → Option (Int × Int) := fun v objs => match v, objs with
 | .agg [.one [.i .u64 y0, .i .u64 y1]], [] => some (y0, y1)
 | _, _ => none
theorem qPi (x0 x1 : List Int) (x2 : Int) (x3 x4 : List (List Int)) : fnE qIO Tryz.f90 ([.s (.ptr 0 0 none 0)]) ([.rcells 56 [.arr .i8 81 x0, .arr .i8 16 x1, .one [.i .i8 x2], .rows [.i .u64, .i .u64] 32 x3, .rows [.i .u64, .i .u64] 2 x4]]) (pureD 1 qIP) = qg x0 x1 x2 x3 x4 := by kernel_rfl
def qIN {R : Type} (o : Orc) (vs : List V) (objs : List Obj) (K : Bool → V → List Obj → Option R) : Option R := match vs, List.map Obj.toRO objs with
 | [.s (.ptr 0 0 none 0)], [.rcells 56 [.arr .i8 81 x0, .arr .i8 16 x1, .one [.i .i8 x2], .rows [.i .u64, .i .u64] 32 x3, .rows [.i .u64, .i .u64] 2 x4]] => ob (qg x0 x1 x2 x3 x4) fun z => K true (.agg [.one [.i .u64 (z.1), .i .u64 (z.2)]]) ([])
 | _, _ => o 90 vs objs K
def qBj (o : Orc) : Orc := hook 90 (qIN o) o
theorem qCl (o : Orc) (ho : OSound Tryz.prog o) : OSound Tryz.prog (qBj o) := hook_ok ho fun vs objs K r h => by
 unfold qIN at h
 split at h
 ·skip
  have hq : List.map Obj.toRO objs = _ := (by rename_i hq; first | exact hq | assumption)
  obtain ⟨t, h1, h2⟩ := ob_ok h
  refine purOK_by mixed qPj (m := 1) (fn := Tryz.f90) (b := (Tryz.f90).body.getD .skip) (by kernel_rfl) (by kernel_rfl) (by kernel_rfl) hq (by kernel_rfl) (by kernel_rfl) (AllP.of (l' := []) (by kernel_rfl) trivial) ((qPi _ _ _ _ _).trans h1) fun v objs' hd => ?_
  unfold qIP at hd
  split at hd
  ·skip
   cases hd
   exact h2
  ·cases hd
 ·exact ho _ _ _ _ _ h
def qHr : Ctx := mkC 35 (oNil) [] lpNil
theorem qPK : CtxOK Tryz.prog qHr := mkC_ok (oNil_ok)
def qHs : V → List Obj → Option (Int) := fun v objs => match v, objs with
 | .s (.i .i64 y0), [] => some (y0)
 | _, _ => none
theorem qPJ (x0 : Int) : fnE qHr Tryz.f110 ([.s (.i .u64 x0)]) ([]) qHs = qBF x0 := by kernel_rfl
def qHq {R : Type} (o : Orc) (vs : List V) (objs : List Obj) (K : Bool → V → List Obj → Option R) : Option R := match vs, objs with
 | [.s (.i .u64 x0)], [] => ob (qBF x0) fun y0 => K false (.s (.i .i64 y0)) ([])
 | _, _ => o 110 vs objs K
def qHt (o : Orc) : Orc := hook 110 (qHq o) o
theorem qPL (o : Orc) (ho : OSound Tryz.prog o) : OSound Tryz.prog (qHt o) := hook_ok ho fun vs objs K r h => by
 unfold qHq at h
 split at h
 ·skip
  obtain ⟨t, h1, h2⟩ := ob_ok h
  refine anyOK_of mixed qPK (fn := Tryz.f110) (b := (Tryz.f110).body.getD .skip) (by kernel_rfl) (by kernel_rfl) (by kernel_rfl) ((qPJ _).trans h1) (m := 0) rfl (AllP.of (l' := []) (by kernel_rfl) trivial) fun v objs' hd => ?_
  unfold qHs at hd
  split at hd
  ·skip
   cases hd
   exact h2
  ·cases hd
 ·exact ho _ _ _ _ _ h
def qNi : Ctx := mkC 10 ((qHt oNil)) [] lpNil
theorem qT5 : CtxOK Tryz.prog qNi := mkC_ok ((qPL _ oNil_ok))
def qNj : V → List Obj → Option (Int) := fun v objs => match v, objs with
 | .s (.i .i64 y0), [] => some (y0)
 | _, _ => none
theorem qT4 (x0 x1 : Int) : fnE qNi Tryz.f82 ([.agg [.one [.i .u64 x0, .i .u64 x1]]]) ([]) qNj = qCY x0 x1 := by kernel_rfl
def qNh {R : Type} (o : Orc) (vs : List V) (objs : List Obj) (K : Bool → V → List Obj → Option R) : Option R := match vs, objs with
 | [.agg [.one [.i .u64 x0, .i .u64 x1]]], [] => ob (qCY x0 x1) fun y0 => K false (.s (.i .i64 y0)) ([])
 | _, _ => o 82 vs objs K
def qG5 (o : Orc) : Orc := hook 82 (qNh o) o
theorem qNk (o : Orc) (ho : OSound Tryz.prog o) : OSound Tryz.prog (qG5 o) := hook_ok ho fun vs objs K r h => by
 unfold qNh at h
 split at h
 ·skip
  obtain ⟨t, h1, h2⟩ := ob_ok h
  refine anyOK_of mixed qT5 (fn := Tryz.f82) (b := (Tryz.f82).body.getD .skip) (by kernel_rfl) (by kernel_rfl) (by kernel_rfl) ((qT4 _ _).trans h1) (m := 0) rfl (AllP.of (l' := []) (by kernel_rfl) trivial) fun v objs' hd => ?_
  unfold qNj at hd
  split at hd
  ·skip
   cases hd
   exact h2
  ·cases hd
 ·exact ho _ _ _ _ _ h
def qIH : Ctx := mkC 18 (oNil) [] lpNil
theorem qPf : CtxOK Tryz.prog qIH := mkC_ok (oNil_ok)
def qII : V → List Obj → Option (Int × Int) := fun v objs => match v, objs with
 | .agg [.one [.i .u64 y0, .i .u64 y1]], [] => some (y0, y1)
 | _, _ => none
theorem qPe (x0 : Int) (x1 x2 : List Int) (x3 : Int) (x4 x5 : List (List Int)) : fnE qIH Tryz.f87 ([.s (.ptr 0 0 none 0), .s (.i .i64 x0)]) ([.rcells 56 [.arr .i8 81 x1, .arr .i8 16 x2, .one [.i .i8 x3], .rows [.i .u64, .i .u64] 32 x4, .rows [.i .u64, .i .u64] 2 x5]]) (pureD 1 qII) = qBI x0 x1 x2 x3 x4 x5 := by kernel_rfl
def qIG {R : Type} (o : Orc) (vs : List V) (objs : List Obj) (K : Bool → V → List Obj → Option R) : Option R := match vs, List.map Obj.toRO objs with
 | [.s (.ptr 0 0 none 0), .s (.i .i64 x0)], [.rcells 56 [.arr .i8 81 x1, .arr .i8 16 x2, .one [.i .i8 x3], .rows [.i .u64, .i .u64] 32 x4, .rows [.i .u64, .i .u64] 2 x5]] => ob (qBI x0 x1 x2 x3 x4 x5) fun z => K true (.agg [.one [.i .u64 (z.1), .i .u64 (z.2)]]) ([])
 | _, _ => o 87 vs objs K
def qEY (o : Orc) : Orc := hook 87 (qIG o) o
theorem qIJ (o : Orc) (ho : OSound Tryz.prog o) : OSound Tryz.prog (qEY o) := hook_ok ho fun vs objs K r h => by
 unfold qIG at h
 split at h
 ·skip
  have hq : List.map Obj.toRO objs = _ := (by rename_i hq; first | exact hq | assumption)
  obtain ⟨t, h1, h2⟩ := ob_ok h
  refine purOK_by mixed qPf (m := 1) (fn := Tryz.f87) (b := (Tryz.f87).body.getD .skip) (by kernel_rfl) (by kernel_rfl) (by kernel_rfl) hq (by kernel_rfl) (by kernel_rfl) (AllP.of (l' := []) (by kernel_rfl) trivial) ((qPe _ _ _ _ _ _).trans h1) fun v objs' hd => ?_
  unfold qII at hd
  split at hd
  ·skip
   cases hd
   exact h2
  ·cases hd
 ·exact ho _ _ _ _ _ h
def qHx : Ctx := mkC 18 (oNil) [] lpNil
theorem qPQ : CtxOK Tryz.prog qHx := mkC_ok (oNil_ok)
def qHy : V → List Obj → Option (Int) := fun v objs => match v, objs with
 | .s (.i .i8 y0), [] => some (y0)
 | _, _ => none
theorem qPP (x0 : Int) (x1 x2 : List Int) (x3 : Int) (x4 x5 : List (List Int)) : fnE qHx Tryz.f68 ([.s (.ptr 0 0 none 0), .s (.i .i64 x0)]) ([.rcells 56 [.arr .i8 81 x1, .arr .i8 16 x2, .one [.i .i8 x3], .rows [.i .u64, .i .u64] 32 x4, .rows [.i .u64, .i .u64] 2 x5]]) (pureD 1 qHy) = qC x0 x1 x2 x3 x4 x5 := by kernel_rfl
def qHw {R : Type} (o : Orc) (vs : List V) (objs : List Obj) (K : Bool → V → List Obj → Option R) : Option R := match vs, List.map Obj.toRO objs with
 | [.s (.ptr 0 0 none 0), .s (.i .i64 x0)], [.rcells 56 [.arr .i8 81 x1, .arr .i8 16 x2, .one [.i .i8 x3], .rows [.i .u64, .i .u64] 32 x4, .rows [.i .u64, .i .u64] 2 x5]] => ob (qC x0 x1 x2 x3 x4 x5) fun y0 => K true (.s (.i .i8 y0)) ([])
 | _, _ => o 68 vs objs K
def qBG (o : Orc) : Orc := hook 68 (qHw o) o
theorem qBh (o : Orc) (ho : OSound Tryz.prog o) : OSound Tryz.prog (qBG o) := hook_ok ho fun vs objs K r h => by
 unfold qHw at h
 split at h
 ·skip
  have hq : List.map Obj.toRO objs = _ := (by rename_i hq; first | exact hq | assumption)
  obtain ⟨t, h1, h2⟩ := ob_ok h
  refine purOK_by mixed qPQ (m := 1) (fn := Tryz.f68) (b := (Tryz.f68).body.getD .skip) (by kernel_rfl) (by kernel_rfl) (by kernel_rfl) hq (by kernel_rfl) (by kernel_rfl) (AllP.of (l' := []) (by kernel_rfl) trivial) ((qPP _ _ _ _ _ _).trans h1) fun v objs' hd => ?_
  unfold qHy at hd
  split at hd
  ·skip
   cases hd
   exact h2
  ·cases hd
 ·exact ho _ _ _ _ _ h
def qBb (n : Nat) {R : Type} (o : Orc) (vs : List V) (objs : List Obj) (K : Bool → V → List Obj → Option R) : Option R := match vs, objs with
 | [.s (.i .i64 x0)], [] => ob (qBa n x0) fun z => K false (.s (.sl 0 0 (z.1) true)) ([.sli 120 false (.rows [.i .i64, .i .i64] (z.2.1) (z.2.2))])
 | _, _ => o 127 vs objs K
def qHR (n : Nat) (o : Orc) : Orc := fun f vs objs K => bif Nat.beq f 127 then qBb n o vs objs K else o f vs objs K
def qUs (n : Nat) : Orc := qHR n oNil
def qOn (n : Nat) : Ctx := mkC 57 (qUs n) [] lpNil
def qOo : V → List Obj → Option (Nat × Nat × List (List Int)) := fun v objs => match v, objs with
 | .s (.sl 0 0 y0 true), [.sli 120 false (.rows [.i .i64, .i .i64] y1 y2)] => some (y0, y1, y2)
 | _, _ => none
theorem qUp (n : Nat) (x0 : Int) : fnE (qOn n) Tryz.f127 ([.s (.i .i64 x0)]) ([]) qOo = qBa (n + 1) x0 := by kernel_rfl
theorem qUq (n : Nat) (hc : CtxOK Tryz.prog (qOn n)) {vs : List V} {objs : List Obj} (x0 : Int) {R : Type} {K : Bool → V → List Obj → Option R} {r : R} (hv : vs = [.s (.i .i64 x0)]) (ho : objs = []) (h : ob (qBa (n + 1) x0) (fun z => K false (.s (.sl 0 0 (z.1) true)) ([.sli 120 false (.rows [.i .i64, .i .i64] (z.2.1) (z.2.2))])) = some r) :
  ∃ p v objs', K p v objs' = some r ∧ AnyOK Tryz.prog 127 vs objs p v objs' := by
 subst hv
 subst ho
 obtain ⟨t, h1, h2⟩ := ob_ok h
 refine anyOK_by mixed hc (objs := []) (fn := Tryz.f127) (b := (Tryz.f127).body.getD .skip) (by kernel_rfl) (by kernel_rfl) (by kernel_rfl) (AllP.of (l' := []) (by kernel_rfl) trivial) ((qUp n x0).trans h1) fun v objs' hd => ?_
 unfold qOo at hd
 split at hd
 ·skip
  cases hd
  exact h2
 ·cases hd
theorem qUr : ∀ (n : Nat) (o : Orc) (ho : OSound Tryz.prog o), OSound Tryz.prog (qHR n o) := by
 intro n
 induction n with
 | zero =>
   intro o ho R f vs objs K r h
   replace h : (bif Nat.beq f 127 then qBb 0 o vs objs K else o f vs objs K) = some r := h
   cases hf : Nat.beq f 127 with
   | false => rw [hf] at h; exact ho f vs objs K r h
   | true =>
     rw [hf] at h
     have e := Nat.eq_of_beq_eq_true hf
     subst e
     replace h : qBb 0 o vs objs K = some r := h
     unfold qBb at h
     split at h
     ·skip
      cases h
     ·exact ho _ _ _ _ _ h
 | succ n ih =>
   intro o ho R f vs objs K r h
   replace h : (bif Nat.beq f 127 then qBb (n + 1) o vs objs K else o f vs objs K) = some r := h
   cases hf : Nat.beq f 127 with
   | false => rw [hf] at h; exact ho f vs objs K r h
   | true =>
     rw [hf] at h
     have e := Nat.eq_of_beq_eq_true hf
     subst e
     replace h : qBb (n + 1) o vs objs K = some r := h
     unfold qBb at h
     split at h
     ·skip
      exact qUq n ⟨tab_ok, ih _ oNil_ok, eqs_ok, bytes_ok, fun _ _ _ => rfl⟩ _ rfl rfl h
     ·exact ho _ _ _ _ _ h
def qOk : Ctx := mkC 15 (oNil) [] lpNil
theorem qUo : CtxOK Tryz.prog qOk := mkC_ok (oNil_ok)
def qOl : V → List Obj → Option (Int × Int) := fun v objs => match v, objs with
 | .agg [.one [.i .i64 y0, .i .i64 y1]], [] => some (y0, y1)
 | _, _ => none
theorem qUn (x0 x1 x2 : Int) : fnE qOk Tryz.f116 ([.agg [.one [.i .i64 x0, .i .i64 x1]], .s (.i .i64 x2)]) ([]) qOl = qA9 x0 x1 x2 := by kernel_rfl
def qOj {R : Type} (o : Orc) (vs : List V) (objs : List Obj) (K : Bool → V → List Obj → Option R) : Option R := match vs, objs with
 | [.agg [.one [.i .i64 x0, .i .i64 x1]], .s (.i .i64 x2)], [] => ob (qA9 x0 x1 x2) fun z => K false (.agg [.one [.i .i64 (z.1), .i .i64 (z.2)]]) ([])
 | _, _ => o 116 vs objs K
def qHQ (o : Orc) : Orc := hook 116 (qOj o) o
theorem qOm (o : Orc) (ho : OSound Tryz.prog o) : OSound Tryz.prog (qHQ o) := hook_ok ho fun vs objs K r h => by
 unfold qOj at h
 split at h
 ·skip
  obtain ⟨t, h1, h2⟩ := ob_ok h
  refine anyOK_of mixed qUo (fn := Tryz.f116) (b := (Tryz.f116).body.getD .skip) (by kernel_rfl) (by kernel_rfl) (by kernel_rfl) ((qUn _ _ _).trans h1) (m := 0) rfl (AllP.of (l' := []) (by kernel_rfl) trivial) fun v objs' hd => ?_
  unfold qOl at hd
  split at hd
  ·skip
   cases hd
   exact h2
  ·cases hd
 ·exact ho _ _ _ _ _ h
def qHT : Ex → List V → List Obj → Option (Int × Int × Int × Int) := fun e vs objs => match e, vs, objs with
 | .exit 0, [.s (.ptr 0 0 none 0), .s (.ptr 1 0 none 0)], [.cells 52 [.one [.i .u64 y0, .i .u64 y1]], .cells 52 [.one [.i .u64 y2, .i .u64 y3]]] => some (y0, y1, y2, y3)
 | _, _, _ => none
def qHV {R : Type} (vs : List V) (objs : List Obj) (K : Ex → List V → List Obj → Option R) : Option R := match vs, objs with
 | [.s (.i .i8 x0), .s (.i .i64 x1), .s (.ptr 0 0 none 0), .s (.ptr 1 0 none 0), .s (.sl 2 0 x2 true), .s (.i .i64 x3), .s (.i .i64 x4)], [.cells 52 [.one [.i .u64 x5, .i .u64 x6]], .cells 52 [.one [.i .u64 x7, .i .u64 x8]], .sli 120 false (.rows [.i .i64, .i .i64] x9 x10)] => ob (qBB many x0 x1 x2 x3 x4 x5 x6 x7 x8 x9 x10) fun z => K (.exit 0) ([.s (.ptr 0 0 none 0), .s (.ptr 1 0 none 0)]) ([.cells 52 [.one [.i .u64 (z.1), .i .u64 (z.2.1)]], .cells 52 [.one [.i .u64 (z.2.2.1), .i .u64 (z.2.2.2)]]])
 | _, _ => none
def qUy : {R : Type} → Nat → List V → List Obj → (Ex → List V → List Obj → Option R) → Option R := fun q vs objs K => bif Nat.beq q 3 then qHV vs objs K else none
def qD8 : Ctx := mkC 26 ((qAY (qHP (qHQ (qBO (qHR many (qi oNil))))))) [(3, [0, 1, 4, 5, 10, 11, 12], [4, 5])] qUy
theorem qOu : CtxOK Tryz.prog qD8 := mkC_ok ((qA8 _ (qOi _ (qOm _ (qB4 _ (qUr many _ (qz _ oNil_ok)))))))
def qHU (f : Nat) (x0 x1 : Int) (x2 : Nat) (x3 x4 : Int) (x5 x6 : Int) (x7 x8 : Int) (x9 : Nat) (x10 : List (List Int)) : Option (Int × Int × Int × Int) := lrun qD8 0 [0, 1, 4, 5, 10, 11, 12] [4, 5] (loopOf Tryz.f115 3) f ([.s (.i .i8 x0), .s (.i .i64 x1), .s (.ptr 0 0 none 0), .s (.ptr 1 0 none 0), .s (.sl 2 0 x2 true), .s (.i .i64 x3), .s (.i .i64 x4)]) ([.cells 52 [.one [.i .u64 x5, .i .u64 x6]], .cells 52 [.one [.i .u64 x7, .i .u64 x8]], .sli 120 false (.rows [.i .i64, .i .i64] x9 x10)]) qHT
theorem qUx (f : Nat) (x0 x1 : Int) (x2 : Nat) (x3 x4 : Int) (x5 x6 : Int) (x7 x8 : Int) (x9 : Nat) (x10 : List (List Int)) : qHU (f + 1) x0 x1 x2 x3 x4 x5 x6 x7 x8 x9 x10 = qCj (qHU f) x0 x1 x2 x3 x4 x5 x6 x7 x8 x9 x10 := by kernel_rfl
theorem qOw : ∀ f, qHU f = qBB f
 | 0 => rfl
 | f + 1 => by funext x0 x1 x2 x3 x4 x5 x6 x7 x8 x9 x10; rw [qUx, qOw f]; rfl
theorem qU0 : LoopSound Tryz.prog qD8 0 (loopOf Tryz.f115 3) :=
 loopSound_by mixed qOu (AllP.of (l' := []) (by kernel_rfl) trivial) (q := 3) (kin := [0, 1, 4, 5, 10, 11, 12]) (kout := [4, 5]) (by kernel_rfl) (by kernel_rfl) fun vs objs K r h => by
  replace h : qHV vs objs K = some r := h
  unfold qHV at h
  split at h
  ·skip
   obtain ⟨t, h1, h2⟩ := ob_ok h
   rw [← qOw] at h1
   refine ⟨_, qHT, t, many, h1, fun e vs' objs' hd => ?_⟩
   unfold qHT at hd
   split at hd
   ·skip
    cases hd
    exact h2
   ·cases hd
  ·cases h
def qOv : V → List Obj → Option (Int × Int) := fun v objs => match v, objs with
 | .agg [.one [.i .u64 y0, .i .u64 y1]], [] => some (y0, y1)
 | _, _ => none
theorem qUw (x0 x1 : Int) : fnE qD8 Tryz.f115 ([.s (.i .i8 x0), .s (.i .i64 x1)]) ([]) qOv = qDI x0 x1 := by kernel_rfl
def qOt {R : Type} (o : Orc) (vs : List V) (objs : List Obj) (K : Bool → V → List Obj → Option R) : Option R := match vs, objs with
 | [.s (.i .i8 x0), .s (.i .i64 x1)], [] => ob (qDI x0 x1) fun z => K false (.agg [.one [.i .u64 (z.1), .i .u64 (z.2)]]) ([])
 | _, _ => o 115 vs objs K
def qOx (o : Orc) : Orc := hook 115 (qOt o) o
theorem qUz (o : Orc) (ho : OSound Tryz.prog o) : OSound Tryz.prog (qOx o) := hook_ok ho fun vs objs K r h => by
 unfold qOt at h
 split at h
 ·skip
  obtain ⟨t, h1, h2⟩ := ob_ok h
  refine anyOK_of mixed qOu (fn := Tryz.f115) (b := (Tryz.f115).body.getD .skip) (by kernel_rfl) (by kernel_rfl) (by kernel_rfl) ((qUw _ _).trans h1) (m := 0) rfl (AllP.of (l' := [loopOf Tryz.f115 3]) (by kernel_rfl) ⟨qU0, trivial⟩) fun v objs' hd => ?_
  unfold qOv at hd
  split at hd
  ·skip
   cases hd
   exact h2
  ·cases hd
 ·exact ho _ _ _ _ _ h
end
end Go.Kk.KkMS
