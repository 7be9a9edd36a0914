/- Printed by a tool of this project (KkGen): the program's functions come to the plain ones. -/
import Derived.Test.YtbeinkbjmmbloaaGreatDoorProg
import Derived.Test.YtbeinkbjmmbloaaGreatDoorKkB
import Derived.Test.YtbeinkbjmmbloaaGreatDoorKkPl
namespace Go.Kk.KkST
noncomputable section
open Go.Proofs Go.Kk.Pl
set_option maxRecDepth 100000
set_option maxHeartbeats 4000000
def tab : Tab := [(1, .sc (.f)),
 (2, .sc (.i .i64)),
 (3, .sc (.i .i64)),
 (4, .sc (.b)),
 (5, .sc (.i .u8)),
 (6, .sc (.i .u8)),
 (7, .st [.one [.i .i64, .i .i64, .b, .i .u8]] [(0, 0, 2), (0, 1, 3), (0, 2, 4), (0, 3, 6)]),
 (8, .st [.one [.i .i64, .i .i64, .b, .i .u8]] [(0, 0, 2), (0, 1, 3), (0, 2, 4), (0, 3, 6)]),
 (9, .sc (.str)),
 (10, .sc (.str)),
 (11, .sc (.str)),
 (12, .sc (.i .u64)),
 (13, .st [.one [.str, .i .u64]] [(0, 0, 9), (0, 1, 12)]),
 (14, .st [.one [.str, .i .u64]] [(0, 0, 9), (0, 1, 12)]),
 (15, .sc (.p)),
 (16, .sc (.p)),
 (17, .sc (.p)),
 (18, .st [.one [.p]] [(0, 0, 17)]),
 (19, .st [.one [.p]] [(0, 0, 17)]),
 (21, .sc (.i .i32)),
 (22, .sc (.i .i8)),
 (23, .sc (.i .i8)),
 (24, .ar 81 1 23 (.arr .i8 81)),
 (25, .ar 8 1 22 (.arr .i8 8)),
 (26, .ar 2 8 25 (.arr .i8 16)),
 (27, .st [.arr .i8 81, .arr .i8 16, .one [.i .i8]] [(0, 0, 24), (1, 0, 26), (2, 0, 22)]),
 (28, .st [.arr .i8 81, .arr .i8 16, .one [.i .i8]] [(0, 0, 24), (1, 0, 26), (2, 0, 22)]),
 (29, .sc (.sl 3)),
 (30, .sc (.sl 53)),
 (31, .sc (.f)),
 (32, .sc (.p)),
 (33, .sc (.f)),
 (34, .sc (.f)),
 (35, .sc (.i .i64)),
 (36, .sc (.f)),
 (37, .sc (.p)),
 (38, .sc (.f)),
 (39, .sc (.i .u64)),
 (40, .sc (.i .u64)),
 (41, .sc (.sl 87)),
 (42, .st [.one [.p, .i .u64, .sl 87]] [(0, 0, 32), (0, 1, 40), (0, 2, 41)]),
 (43, .st [.one [.p, .i .u64, .sl 87]] [(0, 0, 32), (0, 1, 40), (0, 2, 41)]),
 (44, .st [.one [.i .u64, .i .u64]] [(0, 0, 39), (0, 1, 39)]),
 (45, .st [.one [.i .u64, .i .u64]] [(0, 0, 39), (0, 1, 39)]),
 (46, .ar 32 1 45 (.rows [.i .u64, .i .u64] 32)),
 (47, .ar 2 1 45 (.rows [.i .u64, .i .u64] 2)),
 (48, .st [.arr .i8 81, .arr .i8 16, .one [.i .i8], .rows [.i .u64, .i .u64] 32, .rows [.i .u64, .i .u64] 2] [(0, 0, 28), (3, 0, 46), (4, 0, 47)]),
 (49, .st [.arr .i8 81, .arr .i8 16, .one [.i .i8], .rows [.i .u64, .i .u64] 32, .rows [.i .u64, .i .u64] 2] [(0, 0, 28), (3, 0, 46), (4, 0, 47)]),
 (50, .sc (.f)),
 (51, .sc (.m 9 4)),
 (52, .st [.one [.i .i64, .i .i64, .i .i64, .b]] [(0, 0, 3), (0, 1, 3), (0, 2, 3), (0, 3, 4)]),
 (53, .st [.one [.i .i64, .i .i64, .i .i64, .b]] [(0, 0, 3), (0, 1, 3), (0, 2, 3), (0, 3, 4)]),
 (54, .sc (.f)),
 (56, .sc (.f)),
 (57, .sc (.f)),
 (58, .sc (.f)),
 (59, .sc (.f)),
 (60, .sc (.f)),
 (61, .sc (.f)),
 (62, .sc (.f)),
 (63, .sc (.f)),
 (64, .sc (.m 3 45)),
 (65, .st [.one [.p, .i .i64, .i .i64, .i .u64, .i .u64, .m 3 45, .b]] [(0, 0, 32), (0, 1, 3), (0, 2, 3), (0, 3, 45), (0, 5, 64), (0, 6, 4)]),
 (66, .st [.one [.p, .i .i64, .i .i64, .i .u64, .i .u64, .m 3 45, .b]] [(0, 0, 32), (0, 1, 3), (0, 2, 3), (0, 3, 45), (0, 5, 64), (0, 6, 4)]),
 (67, .sc (.f)),
 (68, .sc (.f)),
 (69, .sc (.f)),
 (70, .sc (.f)),
 (71, .sc (.f)),
 (72, .ar 9 1 3 (.arr .i64 9)),
 (73, .sc (.f)),
 (74, .sc (.f)),
 (75, .sc (.f)),
 (76, .sc (.f)),
 (77, .sc (.f)),
 (78, .sc (.f)),
 (79, .sc (.f)),
 (80, .sc (.sl 21)),
 (81, .sc (.f)),
 (83, .sc (.f)),
 (84, .sc (.f)),
 (85, .sc (.f)),
 (86, .st [.one [.i .i64, .i .i64, .i .i64, .b, .i .i8, .i .i8]] [(0, 0, 53), (0, 4, 23), (0, 5, 23)]),
 (87, .st [.one [.i .i64, .i .i64, .i .i64, .b, .i .i8, .i .i8]] [(0, 0, 53), (0, 4, 23), (0, 5, 23)]),
 (88, .sc (.f)),
 (89, .sc (.f)),
 (90, .sc (.f)),
 (91, .sc (.f)),
 (92, .sc (.f)),
 (93, .sc (.f)),
 (94, .sc (.f)),
 (95, .sc (.f)),
 (96, .sc (.f)),
 (97, .sc (.f)),
 (99, .sc (.f)),
 (100, .sc (.f)),
 (101, .sc (.f)),
 (103, .sc (.f)),
 (104, .sc (.f)),
 (105, .ar 2 1 3 (.arr .i64 2)),
 (106, .ar 81 1 4 (.barr 81)),
 (107, .sc (.f)),
 (108, .sc (.f)),
 (109, .sc (.f)),
 (110, .sc (.f)),
 (111, .sc (.f)),
 (112, .sc (.sl 5)),
 (113, .sc (.f)),
 (114, .sc (.f)),
 (115, .sc (.sl 118)),
 (116, .sc (.f)),
 (117, .st [.one [.i .i64, .i .i64]] [(0, 0, 3), (0, 1, 3)]),
 (118, .st [.one [.i .i64, .i .i64]] [(0, 0, 3), (0, 1, 3)]),
 (119, .sc (.f)),
 (120, .sc (.f)),
 (121, .sc (.f)),
 (122, .sc (.f)),
 (123, .sc (.f)),
 (124, .sc (.f)),
 (125, .sc (.f)),
 (126, .sc (.f)),
 (127, .sc (.f)),
 (128, .sc (.f)),
 (129, .sc (.i .u64)),
 (130, .ar 64 1 5 (.arr .u8 64)),
 (131, .sc (.f)),
 (132, .sc (.f)),
 (133, .sc (.f)),
 (134, .st [.one [.p, .p, .p, .str]] [(0, 0, 17), (0, 1, 17), (0, 2, 17), (0, 3, 9)]),
 (135, .st [.one [.p, .p, .p, .str]] [(0, 0, 17), (0, 1, 17), (0, 2, 17), (0, 3, 9)]),
 (139, .sc (.i .u32)),
 (140, .sc (.i .u8)),
 (141, .sc (.i .u8)),
 (142, .sc (.f)),
 (143, .sc (.p)),
 (144, .sc (.i .i32)),
 (145, .sc (.i .i32)),
 (146, .st [.one [.i .u64, .i .u64, .i .u32, .i .u8, .i .u8, .i .u8, .i .u8, .f, .p, .i .i32, .i .i32]] [(0, 0, 12), (0, 1, 12), (0, 2, 139), (0, 3, 140), (0, 4, 5), (0, 5, 5), (0, 6, 141), (0, 7, 142), (0, 8, 143), (0, 9, 144), (0, 10, 145)]),
 (147, .st [.one [.i .u64, .i .u64, .i .u32, .i .u8, .i .u8, .i .u8, .i .u8, .f, .p, .i .i32, .i .i32]] [(0, 0, 12), (0, 1, 12), (0, 2, 139), (0, 3, 140), (0, 4, 5), (0, 5, 5), (0, 6, 141), (0, 7, 142), (0, 8, 143), (0, 9, 144), (0, 10, 145)])]
def eqs : List TypeId := [3, 9, 24, 25, 26, 27, 28, 39, 40, 44, 45, 52, 53, 105, 118]
def bytes : List (TypeId × Nat) := [(3, 8), (53, 32), (87, 40), (21, 4), (5, 1), (118, 16)]
theorem mixed : Tryz.prog.follows .mixedOrders = true := by kernel_rfl
theorem tab_ok : ∀ t L, Tab.get tab t = some L -> LayOK Tryz.prog tab t L := qcd (P := Tryz.prog) (tab := tab) (l := tab) (by kernel_rfl)
theorem eqs_ok : ∀ t L, qEC t eqs = true -> Tab.get tab t = some L -> ∃ f ck, f <= 10000 /\ qA7 Tryz.prog f t = some ck /\ qBN L.segTs = some ck /\ Tryz.prog.eqGuardType Tryz.prog.depth t = false := qUg (P := Tryz.prog) (tab := tab) (l := eqs) (by kernel_rfl)
theorem bytes_ok : ∀ t n, byN t bytes = some n -> ∃ i, Tryz.prog.info? t = some i /\ i.bytes = n := qTb (P := Tryz.prog) (l := bytes) (by kernel_rfl)
def mkC (nt : Nat) (orc : Orc) (keeps : List (Nat × List Nat × List Nat)) (lp : {R : Type} -> Nat -> List V -> List Obj -> (Ex -> List V -> List Obj -> Option R) -> Option R) : Ctx := { tab := tab, eqs := eqs, bytes := bytes, nt := nt, orc := orc, keeps := keeps, lp := lp }
theorem mkC_ok {nt : Nat} {orc : Orc} {keeps : List (Nat × List Nat × List Nat)} {lp : {R : Type} -> Nat -> List V -> List Obj -> (Ex -> List V -> List Obj -> Option R) -> Option R} (h : qDt Tryz.prog orc) : CtxOK Tryz.prog (mkC nt orc keeps lp) := ⟨tab_ok, h, eqs_ok, bytes_ok, fun _ _ _ => rfl⟩
def set_Squarec : Ctx := mkC 23 (qL) [] qV
theorem set_Squarec_ok : CtxOK Tryz.prog set_Squarec := mkC_ok (qN)
def set_Squared : V -> List Obj -> Option (Int) := fun v objs => match v, objs with
 | .s (.i .i64 y0), [] => some (y0)
 | _, _ => none
theorem set_Square_eq (x0 x1 : Int) : fnE set_Squarec Tryz.f26 ([.s (.i .i64 x0), .s (.i .i64 x1)]) ([]) set_Squared = qCS x0 x1 := by kernel_rfl
def set_Squarea : HA := fun o vs objs K => match vs, objs with
 | [.s (.i .i64 x0), .s (.i .i64 x1)], [] => ob (qCS x0 x1) fun y0 => K false (.s (.i .i64 y0)) ([])
 | _, _ => o 26 vs objs K
def set_Squareo (o : Orc) : Orc := qM 26 (set_Squarea o) o
theorem set_Squareo_ok : OQ Tryz.prog set_Squareo := fun _ ho => qP ho fun vs objs K r h => by
 unfold set_Squarea at h
 split at h
 ·skip
  obtain ⟨t, h1, h2⟩ := qE h
  refine any0K mixed set_Squarec_ok ((set_Square_eq _ _).trans h1) (by kernel_rfl) fun v objs' hd => ?_
  unfold set_Squared at hd;split at hd;(cases hd;exact h2);cases hd
 ·exact ho _ _ _ _ _ h
def qTF : Ctx := mkC 14 ((set_Squareo qL)) [] qV
theorem qen : CtxOK Tryz.prog qTF := mkC_ok ((set_Squareo_ok _ qN))
def qTG : V -> List Obj -> Option (Int) := fun v objs => match v, objs with
 | .s (.i .i64 y0), [] => some (y0)
 | _, _ => none
theorem qem (x0 x1 x2 : Int) : fnE qTF Tryz.f25 ([.s (.i .i64 x0), .s (.ptr 0 0 none 0), .s (.ptr 1 0 none 0)]) ([.rcells 3 [.one [.i .i64 x1]], .rcells 3 [.one [.i .i64 x2]]]) (qAZ 2 qTG) = qKK x0 x1 x2 := by kernel_rfl
def qTE : HA := fun o vs objs K => match vs, List.map Obj.toRO objs with
 | [.s (.i .i64 x0), .s (.ptr 0 0 none 0), .s (.ptr 1 0 none 0)], [.rcells 3 [.one [.i .i64 x1]], .rcells 3 [.one [.i .i64 x2]]] => ob (qKK x0 x1 x2) fun y0 => K true (.s (.i .i64 y0)) ([])
 | _, _ => o 25 vs objs K
def qTH (o : Orc) : Orc := qM 25 (qTE o) o
theorem qeo : OQ Tryz.prog qTH := fun _ ho => qP ho fun vs objs K r h => by
 unfold qTE at h
 split at h
 ·skip
  have hq : List.map Obj.toRO objs = _ := (by rename_i hq; first | exact hq | assumption)
  obtain ⟨t, h1, h2⟩ := qE h
  refine qAh mixed qen (m := 2) (fn := Tryz.f25) (b := (Tryz.f25).body.getD .skip) (by kernel_rfl) (by kernel_rfl) (by kernel_rfl) hq (by kernel_rfl) (by kernel_rfl) (qT.of (l' := []) (by kernel_rfl) trivial) ((qem _ _ _).trans h1) fun v objs' hd => ?_
  unfold qTG at hd;split at hd;(cases hd;exact h2);cases hd
 ·exact ho _ _ _ _ _ h
def qXo : Ctx := mkC 28 (qL) [] qV
theorem qkq : CtxOK Tryz.prog qXo := mkC_ok (qN)
def qXp : V -> List Obj -> Option (Int) := fun v objs => match v, objs with
 | .s (.i .i8 y0), [] => some (y0)
 | _, _ => none
theorem qkp (x0 x1 : Int) : fnE qXo Tryz.f27 ([.s (.i .i64 x0), .s (.i .i64 x1)]) ([]) qXp = qAg x0 x1 := by kernel_rfl
def qXn : HA := fun o vs objs K => match vs, objs with
 | [.s (.i .i64 x0), .s (.i .i64 x1)], [] => ob (qAg x0 x1) fun y0 => K false (.s (.i .i8 y0)) ([])
 | _, _ => o 27 vs objs K
def qDb (o : Orc) : Orc := qM 27 (qXn o) o
theorem qEF : OQ Tryz.prog qDb := fun _ ho => qP ho fun vs objs K r h => by
 unfold qXn at h
 split at h
 ·skip
  obtain ⟨t, h1, h2⟩ := qE h
  refine any0K mixed qkq ((qkp _ _).trans h1) (by kernel_rfl) fun v objs' hd => ?_
  unfold qXp at hd;split at hd;(cases hd;exact h2);cases hd
 ·exact ho _ _ _ _ _ h
def qNT : Ex -> List V -> List Obj -> Option (Int × LI × LI × Int × LI × LI × Int × LI) := fun e vs objs => match e, vs, objs with
 | .exit 2, [.s (.ptr 0 0 none 0), .s (.ptr 1 0 none 0), .s (.ptr 2 0 none 0), .s (.i .i64 y0)], [.cells 28 [.arr .i8 81 y1, .arr .i8 16 y2, .one [.i .i8 y3]], .cells 28 [.arr .i8 81 y4, .arr .i8 16 y5, .one [.i .i8 y6]], .cells 72 [.arr .i64 9 y7]] => some (y0, y1, y2, y3, y4, y5, y6, y7)
 | _, _, _ => none
def qNR : Ex -> List V -> List Obj -> Option (LI × LI × Int × LI × LI × Int) := fun e vs objs => match e, vs, objs with
 | .exit 0, [.s (.ptr 0 0 none 0), .s (.ptr 1 0 none 0)], [.cells 28 [.arr .i8 81 y0, .arr .i8 16 y1, .one [.i .i8 y2]], .cells 28 [.arr .i8 81 y3, .arr .i8 16 y4, .one [.i .i8 y5]]] => some (y0, y1, y2, y3, y4, y5)
 | _, _, _ => none
def qNW : HL := fun vs objs K => match vs, objs with
 | [.s (.ptr 0 0 none 0), .s (.ptr 1 0 none 0), .s (.ptr 2 0 none 0), .s (.ptr 3 0 none 0), .s (.i .i64 x0), .s (.i .i64 x1)], [.cells 28 [.arr .i8 81 x2, .arr .i8 16 x3, .one [.i .i8 x4]], .cells 28 [.arr .i8 81 x5, .arr .i8 16 x6, .one [.i .i8 x7]], .cells 72 [.arr .i64 9 x8], .cells 3 [.one [.i .i64 x9]]] => ob (qKM qC x0 x1 x2 x3 x4 x5 x6 x7 x8 x9) fun z => K (.exit 2) ([.s (.ptr 0 0 none 0), .s (.ptr 1 0 none 0), .s (.ptr 2 0 none 0), .s (.i .i64 (z.1))]) ([.cells 28 [.arr .i8 81 (z.2.1), .arr .i8 16 (z.2.2.1), .one [.i .i8 (z.2.2.2.1)]], .cells 28 [.arr .i8 81 (z.2.2.2.2.1), .arr .i8 16 (z.2.2.2.2.2.1), .one [.i .i8 (z.2.2.2.2.2.2.1)]], .cells 72 [.arr .i64 9 (z.2.2.2.2.2.2.2)]])
 | _, _ => none
def qNV : HL := fun vs objs K => match vs, objs with
 | [.s (.ptr 0 0 none 0), .s (.ptr 1 0 none 0), .s (.ptr 2 0 none 0), .s (.i .i64 x0)], [.cells 28 [.arr .i8 81 x1, .arr .i8 16 x2, .one [.i .i8 x3]], .cells 28 [.arr .i8 81 x4, .arr .i8 16 x5, .one [.i .i8 x6]], .cells 72 [.arr .i64 9 x7]] => ob (qKL qC x0 x1 x2 x3 x4 x5 x6 x7) fun z => K (.exit 0) ([.s (.ptr 0 0 none 0), .s (.ptr 1 0 none 0)]) ([.cells 28 [.arr .i8 81 (z.1), .arr .i8 16 (z.2.1), .one [.i .i8 (z.2.2.1)]], .cells 28 [.arr .i8 81 (z.2.2.2.1), .arr .i8 16 (z.2.2.2.2.1), .one [.i .i8 (z.2.2.2.2.2)]]])
 | _, _ => none
def qes : {R : Type} -> Nat -> List V -> List Obj -> (Ex -> List V -> List Obj -> Option R) -> Option R := fun q vs objs K => bif Nat.beq q 7 then qNW vs objs K else bif Nat.beq q 4 then qNV vs objs K else none
def qGt : Ctx := mkC 44 ((set_Squareo (qDb (qTH qL)))) [(4, [0, 1, 2, 7], [0, 1]), (7, [0, 1, 2, 3, 7, 10], [0, 1, 2, 7])] qes
theorem qNQ : CtxOK Tryz.prog qGt := mkC_ok ((set_Squareo_ok _ (qEF _ (qeo _ qN))))
def qNU (f : Nat) (x0 x1 : Int) (x2 x3 : LI) (x4 : Int) (x5 x6 : LI) (x7 : Int) (x8 : LI) (x9 : Int) : Option (Int × LI × LI × Int × LI × LI × Int × LI) := qg qGt 0 [0, 1, 2, 3, 7, 10] [0, 1, 2, 7] (qG Tryz.f6 7) f ([.s (.ptr 0 0 none 0), .s (.ptr 1 0 none 0), .s (.ptr 2 0 none 0), .s (.ptr 3 0 none 0), .s (.i .i64 x0), .s (.i .i64 x1)]) ([.cells 28 [.arr .i8 81 x2, .arr .i8 16 x3, .one [.i .i8 x4]], .cells 28 [.arr .i8 81 x5, .arr .i8 16 x6, .one [.i .i8 x7]], .cells 72 [.arr .i64 9 x8], .cells 3 [.one [.i .i64 x9]]]) qNT
theorem qer (f : Nat) (x0 x1 : Int) (x2 x3 : LI) (x4 : Int) (x5 x6 : LI) (x7 : Int) (x8 : LI) (x9 : Int) : qNU (f + 1) x0 x1 x2 x3 x4 x5 x6 x7 x8 x9 = qTN (qNU f) x0 x1 x2 x3 x4 x5 x6 x7 x8 x9 := by kernel_rfl
theorem qTM : ∀ f, qNU f = qKM f
 | 0 => rfl
 | f + 1 => by funext x0 x1 x2 x3 x4 x5 x6 x7 x8 x9; rw [qer, qTM f]; rfl
def qNS (f : Nat) (x0 : Int) (x1 x2 : LI) (x3 : Int) (x4 x5 : LI) (x6 : Int) (x7 : LI) : Option (LI × LI × Int × LI × LI × Int) := qg qGt 0 [0, 1, 2, 7] [0, 1] (qG Tryz.f6 4) f ([.s (.ptr 0 0 none 0), .s (.ptr 1 0 none 0), .s (.ptr 2 0 none 0), .s (.i .i64 x0)]) ([.cells 28 [.arr .i8 81 x1, .arr .i8 16 x2, .one [.i .i8 x3]], .cells 28 [.arr .i8 81 x4, .arr .i8 16 x5, .one [.i .i8 x6]], .cells 72 [.arr .i64 9 x7]]) qNR
theorem qeq (f : Nat) (x0 : Int) (x1 x2 : LI) (x3 : Int) (x4 x5 : LI) (x6 : Int) (x7 : LI) : qNS (f + 1) x0 x1 x2 x3 x4 x5 x6 x7 = qTL (qNS f) x0 x1 x2 x3 x4 x5 x6 x7 := by kernel_rfl
theorem qTK : ∀ f, qNS f = qKL f
 | 0 => rfl
 | f + 1 => by funext x0 x1 x2 x3 x4 x5 x6 x7; rw [qeq, qTK f]; rfl
theorem qev : qe Tryz.prog qGt 0 (qG Tryz.f6 7) :=
 qk mixed qNQ (qT.of (l' := []) (by kernel_rfl) trivial) (q := 7) (kin := [0, 1, 2, 3, 7, 10]) (kout := [0, 1, 2, 7]) (by kernel_rfl) (by kernel_rfl) fun vs objs K r h => by
  replace h : qNW vs objs K = some r := h
  unfold qNW at h
  split at h
  ·skip
   obtain ⟨t, h1, h2⟩ := qE h
   rw [<- qTM] at h1
   refine ⟨_, qNT, t, qC, h1, fun e vs' objs' hd => ?_⟩
   unfold qNT at hd;split at hd;(cases hd;exact h2);cases hd
  ·cases h
theorem qeu : qe Tryz.prog qGt 0 (qG Tryz.f6 4) :=
 qk mixed qNQ (qT.of (l' := [qG Tryz.f6 7]) (by kernel_rfl) ⟨qev, trivial⟩) (q := 4) (kin := [0, 1, 2, 7]) (kout := [0, 1]) (by kernel_rfl) (by kernel_rfl) fun vs objs K r h => by
  replace h : qNV vs objs K = some r := h
  unfold qNV at h
  split at h
  ·skip
   obtain ⟨t, h1, h2⟩ := qE h
   rw [<- qTK] at h1
   refine ⟨_, qNR, t, qC, h1, fun e vs' objs' hd => ?_⟩
   unfold qNR at hd;split at hd;(cases hd;exact h2);cases hd
  ·cases h
def qTJ : V -> List Obj -> Option (LI × LI × Int) := fun v objs => match v, objs with
 | .agg [.arr .i8 81 y0, .arr .i8 16 y1, .one [.i .i8 y2]], [] => some (y0, y1, y2)
 | _, _ => none
theorem qep : fnE qGt Tryz.f6 ([]) ([]) qTJ = qIh  := by kernel_rfl
def qTI : HA := fun o vs objs K => match vs, objs with
 | [], [] => ob (qIh ) fun z => K false (.agg [.arr .i8 81 (z.1), .arr .i8 16 (z.2.1), .one [.i .i8 (z.2.2)]]) ([])
 | _, _ => o 6 vs objs K
def qTO (o : Orc) : Orc := qM 6 (qTI o) o
theorem qet : OQ Tryz.prog qTO := fun _ ho => qP ho fun vs objs K r h => by
 unfold qTI at h
 split at h
 ·skip
  obtain ⟨t, h1, h2⟩ := qE h
  refine qAX mixed qNQ (fn := Tryz.f6) (b := (Tryz.f6).body.getD .skip) (by kernel_rfl) (by kernel_rfl) (by kernel_rfl) ((qep).trans h1) (m := 0) rfl (qT.of (l' := [qG Tryz.f6 4]) (by kernel_rfl) ⟨qeu, trivial⟩) fun v objs' hd => ?_
  unfold qTJ at hd;split at hd;(cases hd;exact h2);cases hd
 ·exact ho _ _ _ _ _ h
def qbq : Ctx := mkC 21 (qL) [] qV
theorem qom : CtxOK Tryz.prog qbq := mkC_ok (qN)
def qbr : V -> List Obj -> Option (Int × Int) := fun v objs => match v, objs with
 | .agg [.one [.i .u64 y0, .i .u64 y1]], [] => some (y0, y1)
 | _, _ => none
theorem qol (x0 : Int) : fnE qbq Tryz.f94 ([.s (.i .i64 x0)]) ([]) qbr = qFm x0 := by kernel_rfl
def qbp : HA := fun o vs objs K => match vs, objs with
 | [.s (.i .i64 x0)], [] => ob (qFm x0) fun z => K false (.agg [.one [.i .u64 (z.1), .i .u64 (z.2)]]) ([])
 | _, _ => o 94 vs objs K
def qMI (o : Orc) : Orc := qM 94 (qbp o) o
theorem qRG : OQ Tryz.prog qMI := fun _ ho => qP ho fun vs objs K r h => by
 unfold qbp at h
 split at h
 ·skip
  obtain ⟨t, h1, h2⟩ := qE h
  refine any0K mixed qom ((qol _).trans h1) (by kernel_rfl) fun v objs' hd => ?_
  unfold qbr at hd;split at hd;(cases hd;exact h2);cases hd
 ·exact ho _ _ _ _ _ h
def qbO : Ctx := mkC 16 (qL) [] qV
theorem qoN : CtxOK Tryz.prog qbO := mkC_ok (qN)
def qbP : V -> List Obj -> Option (Int × Int) := fun v objs => match v, objs with
 | .agg [.one [.i .u64 y0, .i .u64 y1]], [] => some (y0, y1)
 | _, _ => none
theorem qoM (x0 x1 : Int) (x2 x3 : Int) : fnE qbO Tryz.f61 ([.agg [.one [.i .u64 x0, .i .u64 x1]], .agg [.one [.i .u64 x2, .i .u64 x3]]]) ([]) qbP = qFi x0 x1 x2 x3 := by kernel_rfl
def qbN : HA := fun o vs objs K => match vs, objs with
 | [.agg [.one [.i .u64 x0, .i .u64 x1]], .agg [.one [.i .u64 x2, .i .u64 x3]]], [] => ob (qFi x0 x1 x2 x3) fun z => K false (.agg [.one [.i .u64 (z.1), .i .u64 (z.2)]]) ([])
 | _, _ => o 61 vs objs K
def qMB (o : Orc) : Orc := qM 61 (qbN o) o
theorem qQ4 : OQ Tryz.prog qMB := fun _ ho => qP ho fun vs objs K r h => by
 unfold qbN at h
 split at h
 ·skip
  obtain ⟨t, h1, h2⟩ := qE h
  refine any0K mixed qoN ((qoM _ _ _ _).trans h1) (by kernel_rfl) fun v objs' hd => ?_
  unfold qbP at hd;split at hd;(cases hd;exact h2);cases hd
 ·exact ho _ _ _ _ _ h
def qbn : Ctx := mkC 9 ((qMB (qMI qL))) [] qV
theorem qoj : CtxOK Tryz.prog qbn := mkC_ok ((qQ4 _ (qRG _ qN)))
def qbo : V -> List Obj -> Option (Int × Int) := fun v objs => match v, objs with
 | .agg [.one [.i .u64 y0, .i .u64 y1]], [] => some (y0, y1)
 | _, _ => none
theorem qoi (x0 x1 x2 : Int) : fnE qbn Tryz.f65 ([.agg [.one [.i .u64 x0, .i .u64 x1]], .s (.i .i64 x2)]) ([]) qbo = qEb x0 x1 x2 := by kernel_rfl
def qbm : HA := fun o vs objs K => match vs, objs with
 | [.agg [.one [.i .u64 x0, .i .u64 x1]], .s (.i .i64 x2)], [] => ob (qEb x0 x1 x2) fun z => K false (.agg [.one [.i .u64 (z.1), .i .u64 (z.2)]]) ([])
 | _, _ => o 65 vs objs K
def qJh (o : Orc) : Orc := qM 65 (qbm o) o
theorem qMH : OQ Tryz.prog qJh := fun _ ho => qP ho fun vs objs K r h => by
 unfold qbm at h
 split at h
 ·skip
  obtain ⟨t, h1, h2⟩ := qE h
  refine any0K mixed qoj ((qoi _ _ _).trans h1) (by kernel_rfl) fun v objs' hd => ?_
  unfold qbo at hd;split at hd;(cases hd;exact h2);cases hd
 ·exact ho _ _ _ _ _ h
def qXh : Ctx := mkC 28 (qL) [] qV
theorem qkl : CtxOK Tryz.prog qXh := mkC_ok (qN)
def qXi : V -> List Obj -> Option (Int) := fun v objs => match v, objs with
 | .s (.i .i64 y0), [] => some (y0)
 | _, _ => none
theorem qkk (x0 : Int) : fnE qXh Tryz.f43 ([.s (.i .i8 x0)]) ([]) qXi = q8 x0 := by kernel_rfl
def qXg : HA := fun o vs objs K => match vs, objs with
 | [.s (.i .i8 x0)], [] => ob (q8 x0) fun y0 => K false (.s (.i .i64 y0)) ([])
 | _, _ => o 43 vs objs K
def qCO (o : Orc) : Orc := qM 43 (qXg o) o
theorem qCh : OQ Tryz.prog qCO := fun _ ho => qP ho fun vs objs K r h => by
 unfold qXg at h
 split at h
 ·skip
  obtain ⟨t, h1, h2⟩ := qE h
  refine any0K mixed qkl ((qkk _).trans h1) (by kernel_rfl) fun v objs' hd => ?_
  unfold qXi at hd;split at hd;(cases hd;exact h2);cases hd
 ·exact ho _ _ _ _ _ h
def qX0 : Ctx := mkC 10 ((qCO qL)) [] qV
theorem qkz : CtxOK Tryz.prog qX0 := mkC_ok ((qCh _ qN))
def qX1 : V -> List Obj -> Option (Int) := fun v objs => match v, objs with
 | .s (.i .i64 y0), [] => some (y0)
 | _, _ => none
theorem qky (x0 : Int) : fnE qX0 Tryz.f37 ([.s (.i .i8 x0)]) ([]) qX1 = qAL x0 := by kernel_rfl
def qXz : HA := fun o vs objs K => match vs, objs with
 | [.s (.i .i8 x0)], [] => ob (qAL x0) fun y0 => K false (.s (.i .i64 y0)) ([])
 | _, _ => o 37 vs objs K
def qDc (o : Orc) : Orc := qM 37 (qXz o) o
theorem qEG : OQ Tryz.prog qDc := fun _ ho => qP ho fun vs objs K r h => by
 unfold qXz at h
 split at h
 ·skip
  obtain ⟨t, h1, h2⟩ := qE h
  refine any0K mixed qkz ((qky _).trans h1) (by kernel_rfl) fun v objs' hd => ?_
  unfold qX1 at hd;split at hd;(cases hd;exact h2);cases hd
 ·exact ho _ _ _ _ _ h
def qba : Ctx := mkC 16 (qL) [] qV
theorem qoX : CtxOK Tryz.prog qba := mkC_ok (qN)
def qbb : V -> List Obj -> Option (Int × Int) := fun v objs => match v, objs with
 | .agg [.one [.i .u64 y0, .i .u64 y1]], [] => some (y0, y1)
 | _, _ => none
theorem qoW (x0 x1 : Int) (x2 x3 : Int) : fnE qba Tryz.f55 ([.agg [.one [.i .u64 x0, .i .u64 x1]], .agg [.one [.i .u64 x2, .i .u64 x3]]]) ([]) qbb = qDl x0 x1 x2 x3 := by kernel_rfl
def qbZ : HA := fun o vs objs K => match vs, objs with
 | [.agg [.one [.i .u64 x0, .i .u64 x1]], .agg [.one [.i .u64 x2, .i .u64 x3]]], [] => ob (qDl x0 x1 x2 x3) fun z => K false (.agg [.one [.i .u64 (z.1), .i .u64 (z.2)]]) ([])
 | _, _ => o 55 vs objs K
def qGX (o : Orc) : Orc := qM 55 (qbZ o) o
theorem qII : OQ Tryz.prog qGX := fun _ ho => qP ho fun vs objs K r h => by
 unfold qbZ at h
 split at h
 ·skip
  obtain ⟨t, h1, h2⟩ := qE h
  refine any0K mixed qoX ((qoW _ _ _ _).trans h1) (by kernel_rfl) fun v objs' hd => ?_
  unfold qbb at hd;split at hd;(cases hd;exact h2);cases hd
 ·exact ho _ _ _ _ _ h
def qbk : Ctx := mkC 9 ((qGX (qMI qL))) [] qV
theorem qoh : CtxOK Tryz.prog qbk := mkC_ok ((qII _ (qRG _ qN)))
def qbl : V -> List Obj -> Option (Int × Int) := fun v objs => match v, objs with
 | .agg [.one [.i .u64 y0, .i .u64 y1]], [] => some (y0, y1)
 | _, _ => none
theorem qog (x0 x1 x2 : Int) : fnE qbk Tryz.f71 ([.agg [.one [.i .u64 x0, .i .u64 x1]], .s (.i .i64 x2)]) ([]) qbl = qA6 x0 x1 x2 := by kernel_rfl
def qbj : HA := fun o vs objs K => match vs, objs with
 | [.agg [.one [.i .u64 x0, .i .u64 x1]], .s (.i .i64 x2)], [] => ob (qA6 x0 x1 x2) fun z => K false (.agg [.one [.i .u64 (z.1), .i .u64 (z.2)]]) ([])
 | _, _ => o 71 vs objs K
def qEa (o : Orc) : Orc := qM 71 (qbj o) o
theorem qFl : OQ Tryz.prog qEa := fun _ ho => qP ho fun vs objs K r h => by
 unfold qbj at h
 split at h
 ·skip
  obtain ⟨t, h1, h2⟩ := qE h
  refine any0K mixed qoh ((qog _ _ _).trans h1) (by kernel_rfl) fun v objs' hd => ?_
  unfold qbl at hd;split at hd;(cases hd;exact h2);cases hd
 ·exact ho _ _ _ _ _ h
def qTC : Ctx := mkC 90 ((qEa (qCO (qDc (qJh qL))))) [] qV
theorem qel : CtxOK Tryz.prog qTC := mkC_ok ((qFl _ (qCh _ (qEG _ (qMH _ qN)))))
def qTD : V -> List Obj -> Option (LI × LI × Int × LL × LL) := fun v objs => match v, objs with
 | .tup [], [.cells 49 [.arr .i8 81 y0, .arr .i8 16 y1, .one [.i .i8 y2], .rows [.i .u64, .i .u64] 32 y3, .rows [.i .u64, .i .u64] 2 y4]] => some (y0, y1, y2, y3, y4)
 | _, _ => none
theorem qek (x0 x1 : Int) (x2 x3 : LI) (x4 : Int) (x5 x6 : LL) : fnE qTC Tryz.f24 ([.s (.ptr 0 0 none 0), .s (.i .i64 x0), .s (.i .i8 x1)]) ([.cells 49 [.arr .i8 81 x2, .arr .i8 16 x3, .one [.i .i8 x4], .rows [.i .u64, .i .u64] 32 x5, .rows [.i .u64, .i .u64] 2 x6]]) qTD = qF3 x0 x1 x2 x3 x4 x5 x6 := by kernel_rfl
def qTB : HA := fun o vs objs K => match vs, objs with
 | [.s (.ptr 0 0 none 0), .s (.i .i64 x0), .s (.i .i8 x1)], [.cells 49 [.arr .i8 81 x2, .arr .i8 16 x3, .one [.i .i8 x4], .rows [.i .u64, .i .u64] 32 x5, .rows [.i .u64, .i .u64] 2 x6]] => ob (qF3 x0 x1 x2 x3 x4 x5 x6) fun z => K false (.tup []) ([.cells 49 [.arr .i8 81 (z.1), .arr .i8 16 (z.2.1), .one [.i .i8 (z.2.2.1)], .rows [.i .u64, .i .u64] 32 (z.2.2.2.1), .rows [.i .u64, .i .u64] 2 (z.2.2.2.2)]])
 | _, _ => o 24 vs objs K
def qKJ (o : Orc) : Orc := qM 24 (qTB o) o
theorem qNP : OQ Tryz.prog qKJ := fun _ ho => qP ho fun vs objs K r h => by
 unfold qTB at h
 split at h
 ·skip
  obtain ⟨t, h1, h2⟩ := qE h
  refine any0K mixed qel ((qek _ _ _ _ _ _ _).trans h1) (by kernel_rfl) fun v objs' hd => ?_
  unfold qTD at hd;split at hd;(cases hd;exact h2);cases hd
 ·exact ho _ _ _ _ _ h
def qNL : Ex -> List V -> List Obj -> Option (LI × LI × Int × LL × LL) := fun e vs objs => match e, vs, objs with
 | .exit 0, [.s (.ptr 0 0 none 0)], [.cells 49 [.arr .i8 81 y0, .arr .i8 16 y1, .one [.i .i8 y2], .rows [.i .u64, .i .u64] 32 y3, .rows [.i .u64, .i .u64] 2 y4]] => some (y0, y1, y2, y3, y4)
 | _, _, _ => none
def qNN : HL := fun vs objs K => match vs, objs with
 | [.s (.ptr 0 0 none 0), .agg [.arr .i8 81 x0], .s (.i .i64 x1)], [.cells 49 [.arr .i8 81 x2, .arr .i8 16 x3, .one [.i .i8 x4], .rows [.i .u64, .i .u64] 32 x5, .rows [.i .u64, .i .u64] 2 x6]] => ob (qD0 qC x0 x1 x2 x3 x4 x5 x6) fun z => K (.exit 0) ([.s (.ptr 0 0 none 0)]) ([.cells 49 [.arr .i8 81 (z.1), .arr .i8 16 (z.2.1), .one [.i .i8 (z.2.2.1)], .rows [.i .u64, .i .u64] 32 (z.2.2.2.1), .rows [.i .u64, .i .u64] 2 (z.2.2.2.2)]])
 | _, _ => none
def qee : {R : Type} -> Nat -> List V -> List Obj -> (Ex -> List V -> List Obj -> Option R) -> Option R := fun q vs objs K => bif Nat.beq q 4 then qNN vs objs K else none
def qKH : Ctx := mkC 32 ((qKJ qL)) [(4, [3, 21, 22], [3])] qee
theorem qS1 : CtxOK Tryz.prog qKH := mkC_ok ((qNP _ qN))
def qNM (f : Nat) (x0 : LI) (x1 : Int) (x2 x3 : LI) (x4 : Int) (x5 x6 : LL) : Option (LI × LI × Int × LL × LL) := qg qKH 0 [3, 21, 22] [3] (qG Tryz.f5 4) f ([.s (.ptr 0 0 none 0), .agg [.arr .i8 81 x0], .s (.i .i64 x1)]) ([.cells 49 [.arr .i8 81 x2, .arr .i8 16 x3, .one [.i .i8 x4], .rows [.i .u64, .i .u64] 32 x5, .rows [.i .u64, .i .u64] 2 x6]]) qNL
theorem qed (f : Nat) (x0 : LI) (x1 : Int) (x2 x3 : LI) (x4 : Int) (x5 x6 : LL) : qNM (f + 1) x0 x1 x2 x3 x4 x5 x6 = qGr (qNM f) x0 x1 x2 x3 x4 x5 x6 := by kernel_rfl
theorem qS3 : ∀ f, qNM f = qD0 f
 | 0 => rfl
 | f + 1 => by funext x0 x1 x2 x3 x4 x5 x6; rw [qed, qS3 f]; rfl
theorem qef : qe Tryz.prog qKH 0 (qG Tryz.f5 4) :=
 qk mixed qS1 (qT.of (l' := []) (by kernel_rfl) trivial) (q := 4) (kin := [3, 21, 22]) (kout := [3]) (by kernel_rfl) (by kernel_rfl) fun vs objs K r h => by
  replace h : qNN vs objs K = some r := h
  unfold qNN at h
  split at h
  ·skip
   obtain ⟨t, h1, h2⟩ := qE h
   rw [<- qS3] at h1
   refine ⟨_, qNL, t, qC, h1, fun e vs' objs' hd => ?_⟩
   unfold qNL at hd;split at hd;(cases hd;exact h2);cases hd
  ·cases h
def qS2 : V -> List Obj -> Option (LI × LI × Int × LL × LL) := fun v objs => match v, objs with
 | .s (.ptr 0 0 none 0), [.cells 49 [.arr .i8 81 y0, .arr .i8 16 y1, .one [.i .i8 y2], .rows [.i .u64, .i .u64] 32 y3, .rows [.i .u64, .i .u64] 2 y4]] => some (y0, y1, y2, y3, y4)
 | _, _ => none
theorem qec (x0 x1 : LI) (x2 : Int) : fnE qKH Tryz.f5 ([.agg [.arr .i8 81 x0, .arr .i8 16 x1, .one [.i .i8 x2]]]) ([]) qS2 = qDz x0 x1 x2 := by kernel_rfl
def qS0 : HA := fun o vs objs K => match vs, objs with
 | [.agg [.arr .i8 81 x0, .arr .i8 16 x1, .one [.i .i8 x2]]], [] => ob (qDz x0 x1 x2) fun z => K false (.s (.ptr 0 0 none 0)) ([.cells 49 [.arr .i8 81 (z.1), .arr .i8 16 (z.2.1), .one [.i .i8 (z.2.2.1)], .rows [.i .u64, .i .u64] 32 (z.2.2.2.1), .rows [.i .u64, .i .u64] 2 (z.2.2.2.2)]])
 | _, _ => o 5 vs objs K
def qIg (o : Orc) : Orc := qM 5 (qS0 o) o
theorem qKI : OQ Tryz.prog qIg := fun _ ho => qP ho fun vs objs K r h => by
 unfold qS0 at h
 split at h
 ·skip
  obtain ⟨t, h1, h2⟩ := qE h
  refine qAX mixed qS1 (fn := Tryz.f5) (b := (Tryz.f5).body.getD .skip) (by kernel_rfl) (by kernel_rfl) (by kernel_rfl) ((qec _ _ _).trans h1) (m := 0) rfl (qT.of (l' := [qG Tryz.f5 4]) (by kernel_rfl) ⟨qef, trivial⟩) fun v objs' hd => ?_
  unfold qS2 at hd;split at hd;(cases hd;exact h2);cases hd
 ·exact ho _ _ _ _ _ h
def qS5 : Ctx := mkC 20 ((qDb qL)) [] qV
theorem qeh : CtxOK Tryz.prog qS5 := mkC_ok ((qEF _ qN))
def qS6 : V -> List Obj -> Option (Int × Int) := fun v objs => match v, objs with
 | .agg [.one [.i .u64 y0, .i .u64 y1]], [] => some (y0, y1)
 | _, _ => none
theorem qeg (x0 x1 : Int) (x2 x3 : LI) (x4 : Int) (x5 x6 : LL) : fnE qS5 Tryz.f56 ([.s (.ptr 0 0 none 0), .s (.i .i64 x0), .s (.i .i64 x1)]) ([.rcells 49 [.arr .i8 81 x2, .arr .i8 16 x3, .one [.i .i8 x4], .rows [.i .u64, .i .u64] 32 x5, .rows [.i .u64, .i .u64] 2 x6]]) (qAZ 1 qS6) = qCt x0 x1 x2 x3 x4 x5 x6 := by kernel_rfl
def qS4 : HA := fun o vs objs K => match vs, List.map Obj.toRO objs with
 | [.s (.ptr 0 0 none 0), .s (.i .i64 x0), .s (.i .i64 x1)], [.rcells 49 [.arr .i8 81 x2, .arr .i8 16 x3, .one [.i .i8 x4], .rows [.i .u64, .i .u64] 32 x5, .rows [.i .u64, .i .u64] 2 x6]] => ob (qCt x0 x1 x2 x3 x4 x5 x6) fun z => K true (.agg [.one [.i .u64 (z.1), .i .u64 (z.2)]]) ([])
 | _, _ => o 56 vs objs K
def qF1 (o : Orc) : Orc := qM 56 (qS4 o) o
theorem qGs : OQ Tryz.prog qF1 := fun _ ho => qP ho fun vs objs K r h => by
 unfold qS4 at h
 split at h
 ·skip
  have hq : List.map Obj.toRO objs = _ := (by rename_i hq; first | exact hq | assumption)
  obtain ⟨t, h1, h2⟩ := qE h
  refine qAh mixed qeh (m := 1) (fn := Tryz.f56) (b := (Tryz.f56).body.getD .skip) (by kernel_rfl) (by kernel_rfl) (by kernel_rfl) hq (by kernel_rfl) (by kernel_rfl) (qT.of (l' := []) (by kernel_rfl) trivial) ((qeg _ _ _ _ _ _ _).trans h1) fun v objs' hd => ?_
  unfold qS6 at hd;split at hd;(cases hd;exact h2);cases hd
 ·exact ho _ _ _ _ _ h
def qM3 : Ctx := mkC 14 (qL) [] qV
theorem qeF : CtxOK Tryz.prog qM3 := mkC_ok (qN)
def qM4 : V -> List Obj -> Option (Int) := fun v objs => match v, objs with
 | .s (.i .i64 y0), [] => some (y0)
 | _, _ => none
theorem qeE (B : {R : Type} -> Bool -> Option R -> Option R -> Option R) (x0 : Int) : fnE { qM3 with brg := B } Tryz.f89 ([.s (.i .u64 x0)]) ([]) qM4 = qM2 B x0 := by kernel_rfl
theorem qeD (x0 : Int) : fnE qM3 Tryz.f89 ([.s (.i .u64 x0)]) ([]) qM4 = qEs x0 := qeE br x0
def qSe : HA := fun o vs objs K => match vs, objs with
 | [.s (.i .u64 x0)], [] => ob (qEs x0) fun y0 => K false (.s (.i .i64 y0)) ([])
 | _, _ => o 89 vs objs K
def qM5 (o : Orc) : Orc := qM 89 (qSe o) o
theorem qSf : OQ Tryz.prog qM5 := fun _ ho => qP ho fun vs objs K r h => by
 unfold qSe at h
 split at h
 ·skip
  obtain ⟨t, h1, h2⟩ := qE h
  refine any0K mixed qeF ((qeD _).trans h1) (by kernel_rfl) fun v objs' hd => ?_
  unfold qM4 at hd;split at hd;(cases hd;exact h2);cases hd
 ·exact ho _ _ _ _ _ h
def qbC : Ctx := mkC 18 ((qM5 qL)) [] qV
theorem qoF : CtxOK Tryz.prog qbC := mkC_ok ((qSf _ qN))
def qbD : V -> List Obj -> Option (Int) := fun v objs => match v, objs with
 | .s (.i .i64 y0), [] => some (y0)
 | _, _ => none
theorem qoE (x0 x1 : Int) : fnE qbC Tryz.f54 ([.agg [.one [.i .u64 x0, .i .u64 x1]]]) ([]) qbD = qGV x0 x1 := by kernel_rfl
def qbB : HA := fun o vs objs K => match vs, objs with
 | [.agg [.one [.i .u64 x0, .i .u64 x1]]], [] => ob (qGV x0 x1) fun y0 => K false (.s (.i .i64 y0)) ([])
 | _, _ => o 54 vs objs K
def qL8 (o : Orc) : Orc := qM 54 (qbB o) o
theorem qQz : OQ Tryz.prog qL8 := fun _ ho => qP ho fun vs objs K r h => by
 unfold qbB at h
 split at h
 ·skip
  obtain ⟨t, h1, h2⟩ := qE h
  refine any0K mixed qoF ((qoE _ _).trans h1) (by kernel_rfl) fun v objs' hd => ?_
  unfold qbD at hd;split at hd;(cases hd;exact h2);cases hd
 ·exact ho _ _ _ _ _ h
def qSy : Ctx := mkC 9 ((qL8 (qF1 qL))) [] qV
theorem qeb : CtxOK Tryz.prog qSy := mkC_ok ((qQz _ (qGs _ qN)))
def qSz : V -> List Obj -> Option (Int) := fun v objs => match v, objs with
 | .s (.i .i64 y0), [] => some (y0)
 | _, _ => none
theorem qea (x0 : Int) (x1 x2 : LI) (x3 : Int) (x4 x5 : LL) : fnE qSy Tryz.f49 ([.s (.ptr 0 0 none 0), .s (.i .i64 x0)]) ([.rcells 49 [.arr .i8 81 x1, .arr .i8 16 x2, .one [.i .i8 x3], .rows [.i .u64, .i .u64] 32 x4, .rows [.i .u64, .i .u64] 2 x5]]) (qAZ 1 qSz) = qF0 x0 x1 x2 x3 x4 x5 := by kernel_rfl
def qSx : HA := fun o vs objs K => match vs, List.map Obj.toRO objs with
 | [.s (.ptr 0 0 none 0), .s (.i .i64 x0)], [.rcells 49 [.arr .i8 81 x1, .arr .i8 16 x2, .one [.i .i8 x3], .rows [.i .u64, .i .u64] 32 x4, .rows [.i .u64, .i .u64] 2 x5]] => ob (qF0 x0 x1 x2 x3 x4 x5) fun y0 => K true (.s (.i .i64 y0)) ([])
 | _, _ => o 49 vs objs K
def qKG (o : Orc) : Orc := qM 49 (qSx o) o
theorem qNK : OQ Tryz.prog qKG := fun _ ho => qP ho fun vs objs K r h => by
 unfold qSx at h
 split at h
 ·skip
  have hq : List.map Obj.toRO objs = _ := (by rename_i hq; first | exact hq | assumption)
  obtain ⟨t, h1, h2⟩ := qE h
  refine qAh mixed qeb (m := 1) (fn := Tryz.f49) (b := (Tryz.f49).body.getD .skip) (by kernel_rfl) (by kernel_rfl) (by kernel_rfl) hq (by kernel_rfl) (by kernel_rfl) (qT.of (l' := []) (by kernel_rfl) trivial) ((qea _ _ _ _ _ _).trans h1) fun v objs' hd => ?_
  unfold qSz at hd;split at hd;(cases hd;exact h2);cases hd
 ·exact ho _ _ _ _ _ h
def qax : Ctx := mkC 2 (qL) [] qV
theorem qn5 : CtxOK Tryz.prog qax := mkC_ok (qN)
def qay : V -> List Obj -> Option (Int × Int) := fun v objs => match v, objs with
 | .agg [.one [.i .u64 y0, .i .u64 y1]], [] => some (y0, y1)
 | _, _ => none
theorem qn4 : fnE qax Tryz.f20 ([]) ([]) qay = qGR  := by kernel_rfl
def qaw : HA := fun o vs objs K => match vs, objs with
 | [], [] => ob (qGR ) fun z => K false (.agg [.one [.i .u64 (z.1), .i .u64 (z.2)]]) ([])
 | _, _ => o 20 vs objs K
def qJd (o : Orc) : Orc := qM 20 (qaw o) o
theorem qL5 : OQ Tryz.prog qJd := fun _ ho => qP ho fun vs objs K r h => by
 unfold qaw at h
 split at h
 ·skip
  obtain ⟨t, h1, h2⟩ := qE h
  refine any0K mixed qn5 ((qn4).trans h1) (by kernel_rfl) fun v objs' hd => ?_
  unfold qay at hd;split at hd;(cases hd;exact h2);cases hd
 ·exact ho _ _ _ _ _ h
def qRA : Ex -> List V -> List Obj -> Option (Nat × Int × Int × Nat × LI) := fun e vs objs => match e, vs, objs with
 | .exit 0, [.s (.ptr 0 0 none 0), .s (.sl 1 0 y0 true)], [.cells 45 [.one [.i .u64 y1, .i .u64 y2]], .sli 3 false (.arr .i64 y3 y4)] => some (y0, y1, y2, y3, y4)
 | _, _, _ => none
def qRC : Ex -> List V -> List Obj -> Option (Nat × Nat × LI) := fun e vs objs => match e, vs, objs with
 | .exit 2, [.s (.sl 0 0 y0 true)], [.sli 3 false (.arr .i64 y1 y2)] => some (y0, y1, y2)
 | _, _, _ => none
def qRE : HL := fun vs objs K => match vs, objs with
 | [.s (.ptr 0 0 none 0), .s (.sl 1 0 x0 true)], [.cells 45 [.one [.i .u64 x1, .i .u64 x2]], .sli 3 false (.arr .i64 x3 x4)] => ob (qIK qC x0 x1 x2 x3 x4) fun z => K (.exit 0) ([.s (.ptr 0 0 none 0), .s (.sl 1 0 (z.1) true)]) ([.cells 45 [.one [.i .u64 (z.2.1), .i .u64 (z.2.2.1)]], .sli 3 false (.arr .i64 (z.2.2.2.1) (z.2.2.2.2))])
 | _, _ => none
def qRF : HL := fun vs objs K => match vs, objs with
 | [.s (.ptr 0 0 none 0), .s (.sl 1 0 x0 true)], [.cells 45 [.one [.i .u64 x1, .i .u64 x2]], .sli 3 false (.arr .i64 x3 x4)] => ob (qIL qC x0 x1 x2 x3 x4) fun z => K (.exit 2) ([.s (.sl 0 0 (z.1) true)]) ([.sli 3 false (.arr .i64 (z.2.1) (z.2.2))])
 | _, _ => none
def qod : {R : Type} -> Nat -> List V -> List Obj -> (Ex -> List V -> List Obj -> Option R) -> Option R := fun q vs objs K => bif Nat.beq q 2 then qRE vs objs K else bif Nat.beq q 5 then qRF vs objs K else none
def qIJ : Ctx := mkC 38 ((qM5 qL)) [(2, [1, 3], [1, 3]), (5, [1, 3], [3])] qod
theorem qQ9 : CtxOK Tryz.prog qIJ := mkC_ok ((qSf _ qN))
def qRB (f : Nat) (x0 : Nat) (x1 x2 : Int) (x3 : Nat) (x4 : LI) : Option (Nat × Int × Int × Nat × LI) := qg qIJ 0 [1, 3] [1, 3] (qG Tryz.f58 2) f ([.s (.ptr 0 0 none 0), .s (.sl 1 0 x0 true)]) ([.cells 45 [.one [.i .u64 x1, .i .u64 x2]], .sli 3 false (.arr .i64 x3 x4)]) qRA
theorem qob (f : Nat) (x0 : Nat) (x1 x2 : Int) (x3 : Nat) (x4 : LI) : qRB (f + 1) x0 x1 x2 x3 x4 = qME (qRB f) x0 x1 x2 x3 x4 := by kernel_rfl
theorem qbh : ∀ f, qRB f = qIK f
 | 0 => rfl
 | f + 1 => by funext x0 x1 x2 x3 x4; rw [qob, qbh f]; rfl
def qRD (f : Nat) (x0 : Nat) (x1 x2 : Int) (x3 : Nat) (x4 : LI) : Option (Nat × Nat × LI) := qg qIJ 0 [1, 3] [3] (qG Tryz.f58 5) f ([.s (.ptr 0 0 none 0), .s (.sl 1 0 x0 true)]) ([.cells 45 [.one [.i .u64 x1, .i .u64 x2]], .sli 3 false (.arr .i64 x3 x4)]) qRC
theorem qoc (f : Nat) (x0 : Nat) (x1 x2 : Int) (x3 : Nat) (x4 : LI) : qRD (f + 1) x0 x1 x2 x3 x4 = qMF (qRD f) x0 x1 x2 x3 x4 := by kernel_rfl
theorem qbi : ∀ f, qRD f = qIL f
 | 0 => rfl
 | f + 1 => by funext x0 x1 x2 x3 x4; rw [qoc, qbi f]; rfl
theorem qoe : qe Tryz.prog qIJ 0 (qG Tryz.f58 2) :=
 qk mixed qQ9 (qT.of (l' := []) (by kernel_rfl) trivial) (q := 2) (kin := [1, 3]) (kout := [1, 3]) (by kernel_rfl) (by kernel_rfl) fun vs objs K r h => by
  replace h : qRE vs objs K = some r := h
  unfold qRE at h
  split at h
  ·skip
   obtain ⟨t, h1, h2⟩ := qE h
   rw [<- qbh] at h1
   refine ⟨_, qRA, t, qC, h1, fun e vs' objs' hd => ?_⟩
   unfold qRA at hd;split at hd;(cases hd;exact h2);cases hd
  ·cases h
theorem qof : qe Tryz.prog qIJ 0 (qG Tryz.f58 5) :=
 qk mixed qQ9 (qT.of (l' := []) (by kernel_rfl) trivial) (q := 5) (kin := [1, 3]) (kout := [3]) (by kernel_rfl) (by kernel_rfl) fun vs objs K r h => by
  replace h : qRF vs objs K = some r := h
  unfold qRF at h
  split at h
  ·skip
   obtain ⟨t, h1, h2⟩ := qE h
   rw [<- qbi] at h1
   refine ⟨_, qRC, t, qC, h1, fun e vs' objs' hd => ?_⟩
   unfold qRC at hd;split at hd;(cases hd;exact h2);cases hd
  ·cases h
def qbg : V -> List Obj -> Option (Nat × Nat × LI) := fun v objs => match v, objs with
 | .s (.sl 0 0 y0 true), [.sli 3 false (.arr .i64 y1 y2)] => some (y0, y1, y2)
 | _, _ => none
theorem qoa (x0 x1 : Int) : fnE qIJ Tryz.f58 ([.agg [.one [.i .u64 x0, .i .u64 x1]]]) ([]) qbg = qEZ x0 x1 := by kernel_rfl
def qbf : HA := fun o vs objs K => match vs, objs with
 | [.agg [.one [.i .u64 x0, .i .u64 x1]]], [] => ob (qEZ x0 x1) fun z => K false (.s (.sl 0 0 (z.1) true)) ([.sli 3 false (.arr .i64 (z.2.1) (z.2.2))])
 | _, _ => o 58 vs objs K
def qJg (o : Orc) : Orc := qM 58 (qbf o) o
theorem qMG : OQ Tryz.prog qJg := fun _ ho => qP ho fun vs objs K r h => by
 unfold qbf at h
 split at h
 ·skip
  obtain ⟨t, h1, h2⟩ := qE h
  refine qAX mixed qQ9 (fn := Tryz.f58) (b := (Tryz.f58).body.getD .skip) (by kernel_rfl) (by kernel_rfl) (by kernel_rfl) ((qoa _ _).trans h1) (m := 0) rfl (qT.of (l' := [qG Tryz.f58 2, qG Tryz.f58 5]) (by kernel_rfl) ⟨qoe, qof, trivial⟩) fun v objs' hd => ?_
  unfold qbg at hd;split at hd;(cases hd;exact h2);cases hd
 ·exact ho _ _ _ _ _ h
def qYR : Ctx := mkC 24 (qL) [] qV
theorem qlZ : CtxOK Tryz.prog qYR := mkC_ok (qN)
def qYS : V -> List Obj -> Option (Nat × Nat × LL) := fun v objs => match v, objs with
 | .s (.sl 0 0 y0 true), [.sli 118 false (.rows [.i .i64, .i .i64] y1 y2)] => some (y0, y1, y2)
 | _, _ => none
theorem qlY (x0 : Int) : fnE qYR Tryz.f86 ([.s (.i .i64 x0)]) ([]) qYS = qGM x0 := by kernel_rfl
def qYQ : HA := fun o vs objs K => match vs, objs with
 | [.s (.i .i64 x0)], [] => ob (qGM x0) fun z => K false (.s (.sl 0 0 (z.1) true)) ([.sli 118 false (.rows [.i .i64, .i .i64] (z.2.1) (z.2.2))])
 | _, _ => o 86 vs objs K
def qPk (o : Orc) : Orc := qM 86 (qYQ o) o
theorem qYT : OQ Tryz.prog qPk := fun _ ho => qP ho fun vs objs K r h => by
 unfold qYQ at h
 split at h
 ·skip
  obtain ⟨t, h1, h2⟩ := qE h
  refine any0K mixed qlZ ((qlY _).trans h1) (by kernel_rfl) fun v objs' hd => ?_
  unfold qYS at hd;split at hd;(cases hd;exact h2);cases hd
 ·exact ho _ _ _ _ _ h
def qQ5 : Ex -> List V -> List Obj -> Option (Nat × LI × Int × Int × Int × Int) := fun e vs objs => match e, vs, objs with
 | .exit 0, [.s (.ptr 1 0 none 0), .s (.ptr 2 0 none 0)], [.sli 3 true (.arr .i64 y0 y1), .cells 45 [.one [.i .u64 y2, .i .u64 y3]], .cells 45 [.one [.i .u64 y4, .i .u64 y5]]] => some (y0, y1, y2, y3, y4, y5)
 | _, _, _ => none
def qQ7 : HL := fun vs objs K => match vs, objs with
 | [.s (.ptr 1 0 none 0), .s (.ptr 2 0 none 0), .s (.sl 0 0 x0 true), .s (.i .i64 x1), .s (.i .i64 x2)], [.sli 3 true (.arr .i64 x3 x4), .cells 45 [.one [.i .u64 x5, .i .u64 x6]], .cells 45 [.one [.i .u64 x7, .i .u64 x8]]] => ob (qFj qC x0 x1 x2 x3 x4 x5 x6 x7 x8) fun z => K (.exit 0) ([.s (.ptr 1 0 none 0), .s (.ptr 2 0 none 0)]) ([.sli 3 true (.arr .i64 (z.1) (z.2.1)), .cells 45 [.one [.i .u64 (z.2.2.1), .i .u64 (z.2.2.2.1)]], .cells 45 [.one [.i .u64 (z.2.2.2.2.1), .i .u64 (z.2.2.2.2.2)]]])
 | _, _ => none
def qoT : {R : Type} -> Nat -> List V -> List Obj -> (Ex -> List V -> List Obj -> Option R) -> Option R := fun q vs objs K => bif Nat.beq q 3 then qQ7 vs objs K else none
def qMC : Ctx := mkC 17 ((qEa qL)) [(3, [2, 3, 6, 7, 8], [2, 3])] qoT
theorem qbV : CtxOK Tryz.prog qMC := mkC_ok ((qFl _ qN))
def qQ6 (f : Nat) (x0 : Nat) (x1 x2 : Int) (x3 : Nat) (x4 : LI) (x5 x6 : Int) (x7 x8 : Int) : Option (Nat × LI × Int × Int × Int × Int) := qg qMC 1 [2, 3, 6, 7, 8] [2, 3] (qG Tryz.f88 3) f ([.s (.ptr 1 0 none 0), .s (.ptr 2 0 none 0), .s (.sl 0 0 x0 true), .s (.i .i64 x1), .s (.i .i64 x2)]) ([.sli 3 true (.arr .i64 x3 x4), .cells 45 [.one [.i .u64 x5, .i .u64 x6]], .cells 45 [.one [.i .u64 x7, .i .u64 x8]]]) qQ5
theorem qoS (f : Nat) (x0 : Nat) (x1 x2 : Int) (x3 : Nat) (x4 : LI) (x5 x6 : Int) (x7 x8 : Int) : qQ6 (f + 1) x0 x1 x2 x3 x4 x5 x6 x7 x8 = qIH (qQ6 f) x0 x1 x2 x3 x4 x5 x6 x7 x8 := by kernel_rfl
theorem qbX : ∀ f, qQ6 f = qFj f
 | 0 => rfl
 | f + 1 => by funext x0 x1 x2 x3 x4 x5 x6 x7 x8; rw [qoS, qbX f]; rfl
theorem qoV : qe Tryz.prog qMC 1 (qG Tryz.f88 3) :=
 qk mixed qbV (qT.of (l' := []) (by kernel_rfl) trivial) (q := 3) (kin := [2, 3, 6, 7, 8]) (kout := [2, 3]) (by kernel_rfl) (by kernel_rfl) fun vs objs K r h => by
  replace h : qQ7 vs objs K = some r := h
  unfold qQ7 at h
  split at h
  ·skip
   obtain ⟨t, h1, h2⟩ := qE h
   rw [<- qbX] at h1
   refine ⟨_, qQ5, t, qC, h1, fun e vs' objs' hd => ?_⟩
   unfold qQ5 at hd;split at hd;(cases hd;exact h2);cases hd
  ·cases h
def qbW : V -> List Obj -> Option (Int × Int) := fun v objs => match v, objs with
 | .agg [.one [.i .u64 y0, .i .u64 y1]], [] => some (y0, y1)
 | _, _ => none
theorem qoR (x0 x1 : Nat) (x2 : LI) : fnE qMC Tryz.f88 ([.s (.sl 0 0 x0 true)]) ([.sli 3 true (.arr .i64 x1 x2)]) (qAZ 1 qbW) = qIG x0 x1 x2 := by kernel_rfl
def qbU : HA := fun o vs objs K => match vs, List.map Obj.toRO objs with
 | [.s (.sl 0 0 x0 true)], [.sli 3 true (.arr .i64 x1 x2)] => ob (qIG x0 x1 x2) fun z => K true (.agg [.one [.i .u64 (z.1), .i .u64 (z.2)]]) ([])
 | _, _ => o 88 vs objs K
def qbY (o : Orc) : Orc := qM 88 (qbU o) o
theorem qoU : OQ Tryz.prog qbY := fun _ ho => qP ho fun vs objs K r h => by
 unfold qbU at h
 split at h
 ·skip
  have hq : List.map Obj.toRO objs = _ := (by rename_i hq; first | exact hq | assumption)
  obtain ⟨t, h1, h2⟩ := qE h
  refine qAh mixed qbV (m := 1) (fn := Tryz.f88) (b := (Tryz.f88).body.getD .skip) (by kernel_rfl) (by kernel_rfl) (by kernel_rfl) hq (by kernel_rfl) (by kernel_rfl) (qT.of (l' := [qG Tryz.f88 3]) (by kernel_rfl) ⟨qoV, trivial⟩) ((qoR _ _ _).trans h1) fun v objs' hd => ?_
  unfold qbW at hd;split at hd;(cases hd;exact h2);cases hd
 ·exact ho _ _ _ _ _ h
def qa9 : Ctx := mkC 5 (qL) [] qV
theorem qoD : CtxOK Tryz.prog qa9 := mkC_ok (qN)
def qbA : V -> List Obj -> Option (Int) := fun v objs => match v, objs with
 | .s (.i .i64 y0), [] => some (y0)
 | _, _ => none
theorem qoC (x0 : Int) : fnE qa9 Tryz.f82 ([.s (.i .i64 x0)]) ([]) qbA = qGU x0 := by kernel_rfl
def qa8 : HA := fun o vs objs K => match vs, objs with
 | [.s (.i .i64 x0)], [] => ob (qGU x0) fun y0 => K false (.s (.i .i64 y0)) ([])
 | _, _ => o 82 vs objs K
def qL7 (o : Orc) : Orc := qM 82 (qa8 o) o
theorem qQy : OQ Tryz.prog qL7 := fun _ ho => qP ho fun vs objs K r h => by
 unfold qa8 at h
 split at h
 ·skip
  obtain ⟨t, h1, h2⟩ := qE h
  refine any0K mixed qoD ((qoC _).trans h1) (by kernel_rfl) fun v objs' hd => ?_
  unfold qbA at hd;split at hd;(cases hd;exact h2);cases hd
 ·exact ho _ _ _ _ _ h
def qbd : Ctx := mkC 5 (qL) [] qV
theorem qoZ : CtxOK Tryz.prog qbd := mkC_ok (qN)
def qbe : V -> List Obj -> Option (Int) := fun v objs => match v, objs with
 | .s (.i .i64 y0), [] => some (y0)
 | _, _ => none
theorem qoY (x0 : Int) : fnE qbd Tryz.f83 ([.s (.i .i64 x0)]) ([]) qbe = qFk x0 := by kernel_rfl
def qbc : HA := fun o vs objs K => match vs, objs with
 | [.s (.i .i64 x0)], [] => ob (qFk x0) fun y0 => K false (.s (.i .i64 y0)) ([])
 | _, _ => o 83 vs objs K
def qMD (o : Orc) : Orc := qM 83 (qbc o) o
theorem qQ8 : OQ Tryz.prog qMD := fun _ ho => qP ho fun vs objs K r h => by
 unfold qbc at h
 split at h
 ·skip
  obtain ⟨t, h1, h2⟩ := qE h
  refine any0K mixed qoZ ((qoY _).trans h1) (by kernel_rfl) fun v objs' hd => ?_
  unfold qbe at hd;split at hd;(cases hd;exact h2);cases hd
 ·exact ho _ _ _ _ _ h
def qcB : Ctx := mkC 42 ((set_Squareo (qMD (qL7 qL)))) [] qV
theorem qpL : CtxOK Tryz.prog qcB := mkC_ok ((set_Squareo_ok _ (qQ8 _ (qQy _ qN))))
def qcC : V -> List Obj -> Option (Int) := fun v objs => match v, objs with
 | .s (.i .i64 y0), [] => some (y0)
 | _, _ => none
theorem qpK (x0 x1 x2 : Int) : fnE qcB Tryz.f108 ([.agg [.one [.i .i64 x0, .i .i64 x1]], .s (.i .i64 x2)]) ([]) qcC = qGa x0 x1 x2 := by kernel_rfl
def qcA : HA := fun o vs objs K => match vs, objs with
 | [.agg [.one [.i .i64 x0, .i .i64 x1]], .s (.i .i64 x2)], [] => ob (qGa x0 x1 x2) fun y0 => K false (.s (.i .i64 y0)) ([])
 | _, _ => o 108 vs objs K
def qRP (o : Orc) : Orc := qM 108 (qcA o) o
theorem qcD : OQ Tryz.prog qRP := fun _ ho => qP ho fun vs objs K r h => by
 unfold qcA at h
 split at h
 ·skip
  obtain ⟨t, h1, h2⟩ := qE h
  refine any0K mixed qpL ((qpK _ _ _).trans h1) (by kernel_rfl) fun v objs' hd => ?_
  unfold qcC at hd;split at hd;(cases hd;exact h2);cases hd
 ·exact ho _ _ _ _ _ h
def qa0 : Ctx := mkC 16 (qL) [] qV
theorem qn7 : CtxOK Tryz.prog qa0 := mkC_ok (qN)
def qa1 : V -> List Obj -> Option (Int × Int) := fun v objs => match v, objs with
 | .agg [.one [.i .u64 y0, .i .u64 y1]], [] => some (y0, y1)
 | _, _ => none
theorem qn6 (x0 x1 : Int) (x2 x3 : Int) : fnE qa0 Tryz.f62 ([.agg [.one [.i .u64 x0, .i .u64 x1]], .agg [.one [.i .u64 x2, .i .u64 x3]]]) ([]) qa1 = qCm x0 x1 x2 x3 := by kernel_rfl
def qaz : HA := fun o vs objs K => match vs, objs with
 | [.agg [.one [.i .u64 x0, .i .u64 x1]], .agg [.one [.i .u64 x2, .i .u64 x3]]], [] => ob (qCm x0 x1 x2 x3) fun z => K false (.agg [.one [.i .u64 (z.1), .i .u64 (z.2)]]) ([])
 | _, _ => o 62 vs objs K
def qFh (o : Orc) : Orc := qM 62 (qaz o) o
theorem qGS : OQ Tryz.prog qFh := fun _ ho => qP ho fun vs objs K r h => by
 unfold qaz at h
 split at h
 ·skip
  obtain ⟨t, h1, h2⟩ := qE h
  refine any0K mixed qn7 ((qn6 _ _ _ _).trans h1) (by kernel_rfl) fun v objs' hd => ?_
  unfold qa1 at hd;split at hd;(cases hd;exact h2);cases hd
 ·exact ho _ _ _ _ _ h
def qa6 : Ctx := mkC 6 (qL) [] qV
theorem qoB : CtxOK Tryz.prog qa6 := mkC_ok (qN)
def qa7 : V -> List Obj -> Option (Bool) := fun v objs => match v, objs with
 | .s (.b y0), [] => some (y0)
 | _, _ => none
theorem qoA (x0 x1 : Int) : fnE qa6 Tryz.f66 ([.agg [.one [.i .u64 x0, .i .u64 x1]]]) ([]) qa7 = qEY x0 x1 := by kernel_rfl
def qa5 : HA := fun o vs objs K => match vs, objs with
 | [.agg [.one [.i .u64 x0, .i .u64 x1]]], [] => ob (qEY x0 x1) fun y0 => K false (.s (.b y0)) ([])
 | _, _ => o 66 vs objs K
def qID (o : Orc) : Orc := qM 66 (qa5 o) o
theorem qJe : OQ Tryz.prog qID := fun _ ho => qP ho fun vs objs K r h => by
 unfold qa5 at h
 split at h
 ·skip
  obtain ⟨t, h1, h2⟩ := qE h
  refine any0K mixed qoB ((qoA _ _).trans h1) (by kernel_rfl) fun v objs' hd => ?_
  unfold qa7 at hd;split at hd;(cases hd;exact h2);cases hd
 ·exact ho _ _ _ _ _ h
def qbF : Ctx := mkC 11 ((qID (qFh (qMI qL)))) [] qV
theorem qoH : CtxOK Tryz.prog qbF := mkC_ok ((qJe _ (qGS _ (qRG _ qN))))
def qbG : V -> List Obj -> Option (Bool) := fun v objs => match v, objs with
 | .s (.b y0), [] => some (y0)
 | _, _ => none
theorem qoG (x0 x1 x2 : Int) : fnE qbF Tryz.f67 ([.agg [.one [.i .u64 x0, .i .u64 x1]], .s (.i .i64 x2)]) ([]) qbG = qB9 x0 x1 x2 := by kernel_rfl
def qbE : HA := fun o vs objs K => match vs, objs with
 | [.agg [.one [.i .u64 x0, .i .u64 x1]], .s (.i .i64 x2)], [] => ob (qB9 x0 x1 x2) fun y0 => K false (.s (.b y0)) ([])
 | _, _ => o 67 vs objs K
def qGW (o : Orc) : Orc := qM 67 (qbE o) o
theorem qIE : OQ Tryz.prog qGW := fun _ ho => qP ho fun vs objs K r h => by
 unfold qbE at h
 split at h
 ·skip
  obtain ⟨t, h1, h2⟩ := qE h
  refine any0K mixed qoH ((qoG _ _ _).trans h1) (by kernel_rfl) fun v objs' hd => ?_
  unfold qbG at hd;split at hd;(cases hd;exact h2);cases hd
 ·exact ho _ _ _ _ _ h
def qPp : Ex -> List V -> List Obj -> Option (Int × Int × Int × Int) := fun e vs objs => match e, vs, objs with
 | .exit 0, [.s (.ptr 0 0 none 0), .s (.ptr 1 0 none 0)], [.cells 45 [.one [.i .u64 y0, .i .u64 y1]], .cells 45 [.one [.i .u64 y2, .i .u64 y3]]] => some (y0, y1, y2, y3)
 | _, _, _ => none
def qPs : HL := fun vs objs K => match vs, objs with
 | [.s (.i .i64 x0), .s (.ptr 0 0 none 0), .s (.ptr 1 0 none 0), .s (.ptr 2 0 none 0), .s (.ptr 3 0 none 0)], [.cells 118 [.one [.i .i64 x1, .i .i64 x2]], .cells 45 [.one [.i .u64 x3, .i .u64 x4]], .cells 45 [.one [.i .u64 x5, .i .u64 x6]], .cells 45 [.one [.i .u64 x7, .i .u64 x8]]] => ob (qGN qC x0 x1 x2 x3 x4 x5 x6 x7 x8) fun z => K (.exit 0) ([.s (.ptr 0 0 none 0), .s (.ptr 1 0 none 0)]) ([.cells 45 [.one [.i .u64 (z.1), .i .u64 (z.2.1)]], .cells 45 [.one [.i .u64 (z.2.2.1), .i .u64 (z.2.2.2)]]])
 | _, _ => none
def qlg : {R : Type} -> Nat -> List V -> List Obj -> (Ex -> List V -> List Obj -> Option R) -> Option R := fun q vs objs K => bif Nat.beq q 5 then qPs vs objs K else none
def qLi : Ctx := mkC 27 ((qGW (qEa (qRP qL)))) [(5, [0, 4, 5, 6, 7], [6, 7])] qlg
theorem qYZ : CtxOK Tryz.prog qLi := mkC_ok ((qIE _ (qFl _ (qcD _ qN))))
def qPq (f : Nat) (x0 x1 : Int) (x2 x3 : Int) (x4 x5 : Int) (x6 x7 x8 : Int) : Option (Int × Int × Int × Int) := qg qLi 0 [0, 4, 5, 6, 7] [6, 7] (qG Tryz.f87 5) f ([.s (.i .i64 x0), .s (.ptr 0 0 none 0), .s (.ptr 1 0 none 0), .s (.ptr 2 0 none 0), .s (.ptr 3 0 none 0)]) ([.cells 118 [.one [.i .i64 x1, .i .i64 x2]], .cells 45 [.one [.i .u64 x3, .i .u64 x4]], .cells 45 [.one [.i .u64 x5, .i .u64 x6]], .cells 45 [.one [.i .u64 x7, .i .u64 x8]]]) qPp
theorem qlf (f : Nat) (x0 x1 : Int) (x2 x3 : Int) (x4 x5 : Int) (x6 x7 x8 : Int) : qPq (f + 1) x0 x1 x2 x3 x4 x5 x6 x7 x8 = qHl (qPq f) x0 x1 x2 x3 x4 x5 x6 x7 x8 := by kernel_rfl
theorem qYb : ∀ f, qPq f = qGN f
 | 0 => rfl
 | f + 1 => by funext x0 x1 x2 x3 x4 x5 x6 x7 x8; rw [qlf, qYb f]; rfl
theorem qlh : qe Tryz.prog qLi 0 (qG Tryz.f87 5) :=
 qk mixed qYZ (qT.of (l' := []) (by kernel_rfl) trivial) (q := 5) (kin := [0, 4, 5, 6, 7]) (kout := [6, 7]) (by kernel_rfl) (by kernel_rfl) fun vs objs K r h => by
  replace h : qPs vs objs K = some r := h
  unfold qPs at h
  split at h
  ·skip
   obtain ⟨t, h1, h2⟩ := qE h
   rw [<- qYb] at h1
   refine ⟨_, qPp, t, qC, h1, fun e vs' objs' hd => ?_⟩
   unfold qPp at hd;split at hd;(cases hd;exact h2);cases hd
  ·cases h
def qYa : V -> List Obj -> Option (Int × Int) := fun v objs => match v, objs with
 | .agg [.one [.i .u64 y0, .i .u64 y1]], [] => some (y0, y1)
 | _, _ => none
theorem qle (x0 x1 : Int) (x2 x3 x4 : Int) : fnE qLi Tryz.f87 ([.s (.i .i64 x0), .agg [.one [.i .i64 x1, .i .i64 x2]], .agg [.one [.i .u64 x3, .i .u64 x4]]]) ([]) qYa = qHk x0 x1 x2 x3 x4 := by kernel_rfl
def qYY : HA := fun o vs objs K => match vs, objs with
 | [.s (.i .i64 x0), .agg [.one [.i .i64 x1, .i .i64 x2]], .agg [.one [.i .u64 x3, .i .u64 x4]]], [] => ob (qHk x0 x1 x2 x3 x4) fun z => K false (.agg [.one [.i .u64 (z.1), .i .u64 (z.2)]]) ([])
 | _, _ => o 87 vs objs K
def qPr (o : Orc) : Orc := qM 87 (qYY o) o
theorem qYc : OQ Tryz.prog qPr := fun _ ho => qP ho fun vs objs K r h => by
 unfold qYY at h
 split at h
 ·skip
  obtain ⟨t, h1, h2⟩ := qE h
  refine qAX mixed qYZ (fn := Tryz.f87) (b := (Tryz.f87).body.getD .skip) (by kernel_rfl) (by kernel_rfl) (by kernel_rfl) ((qle _ _ _ _ _).trans h1) (m := 0) rfl (qT.of (l' := [qG Tryz.f87 5]) (by kernel_rfl) ⟨qlh, trivial⟩) fun v objs' hd => ?_
  unfold qYa at hd;split at hd;(cases hd;exact h2);cases hd
 ·exact ho _ _ _ _ _ h
def qPg : Ex -> List V -> List Obj -> Option ((Int × Int) ⊕ (Int × Int)) := fun e vs objs => match e, vs, objs with
 | .ret, [.s (.ptr 0 0 none 0)], [.cells 45 [.one [.i .u64 y0, .i .u64 y1]]] => some (.inl (y0, y1))
 | .exit 0, [.s (.ptr 0 0 none 0)], [.cells 45 [.one [.i .u64 y0, .i .u64 y1]]] => some (.inr (y0, y1))
 | _, _, _ => none
def qPj : HL := fun vs objs K => match vs, objs with
 | [.s (.i .i64 x0), .s (.i .i64 x1), .s (.ptr 0 0 none 0), .s (.sl 1 0 x2 true), .s (.i .i64 x3), .s (.i .i64 x4)], [.cells 45 [.one [.i .u64 x5, .i .u64 x6]], .sli 118 false (.rows [.i .i64, .i .i64] x7 x8)] => ob (qFP qC x0 x1 x2 x3 x4 x5 x6 x7 x8) fun t0 => sw t0 (fun z => K (.ret) ([.s (.ptr 0 0 none 0)]) ([.cells 45 [.one [.i .u64 (z.1), .i .u64 (z.2)]]])) (fun z => K (.exit 0) ([.s (.ptr 0 0 none 0)]) ([.cells 45 [.one [.i .u64 (z.1), .i .u64 (z.2)]]]))
 | _, _ => none
def qlW : {R : Type} -> Nat -> List V -> List Obj -> (Ex -> List V -> List Obj -> Option R) -> Option R := fun q vs objs K => bif Nat.beq q 2 then qPj vs objs K else none
def qLf : Ctx := mkC 30 ((qJh (qGW (qPr (qbY (qPk qL)))))) [(2, [0, 1, 4, 10, 11, 12], [4])] qlW
theorem qYM : CtxOK Tryz.prog qLf := mkC_ok ((qMH _ (qIE _ (qYc _ (qoU _ (qYT _ qN))))))
def qPh (f : Nat) (x0 x1 : Int) (x2 : Nat) (x3 x4 : Int) (x5 x6 : Int) (x7 : Nat) (x8 : LL) : Option ((Int × Int) ⊕ (Int × Int)) := qg qLf 0 [0, 1, 4, 10, 11, 12] [4] (qG Tryz.f53 2) f ([.s (.i .i64 x0), .s (.i .i64 x1), .s (.ptr 0 0 none 0), .s (.sl 1 0 x2 true), .s (.i .i64 x3), .s (.i .i64 x4)]) ([.cells 45 [.one [.i .u64 x5, .i .u64 x6]], .sli 118 false (.rows [.i .i64, .i .i64] x7 x8)]) qPg
theorem qlV (f : Nat) (x0 x1 : Int) (x2 : Nat) (x3 x4 : Int) (x5 x6 : Int) (x7 : Nat) (x8 : LL) : qPh (f + 1) x0 x1 x2 x3 x4 x5 x6 x7 x8 = qHi (qPh f) x0 x1 x2 x3 x4 x5 x6 x7 x8 := by kernel_rfl
theorem qYO : ∀ f, qPh f = qFP f
 | 0 => rfl
 | f + 1 => by funext x0 x1 x2 x3 x4 x5 x6 x7 x8; rw [qlV, qYO f]; rfl
theorem qlX : qe Tryz.prog qLf 0 (qG Tryz.f53 2) :=
 qk mixed qYM (qT.of (l' := []) (by kernel_rfl) trivial) (q := 2) (kin := [0, 1, 4, 10, 11, 12]) (kout := [4]) (by kernel_rfl) (by kernel_rfl) fun vs objs K r h => by
  replace h : qPj vs objs K = some r := h
  unfold qPj at h
  split at h
  ·skip
   obtain ⟨t, h1, h2⟩ := qE h
   rw [<- qYO] at h1
   refine ⟨_, qPg, t, qC, h1, fun e vs' objs' hd => ?_⟩
   unfold qPg at hd
   split at hd
   ·skip
    cases hd
    exact h2
   ·skip
    cases hd
    exact h2
   ·cases hd
  ·cases h
def qYN : V -> List Obj -> Option (Int × Int) := fun v objs => match v, objs with
 | .agg [.one [.i .u64 y0, .i .u64 y1]], [] => some (y0, y1)
 | _, _ => none
theorem qlU (x0 x1 : Int) : fnE qLf Tryz.f53 ([.s (.i .i64 x0), .s (.i .i64 x1)]) ([]) qYN = qHh x0 x1 := by kernel_rfl
def qYL : HA := fun o vs objs K => match vs, objs with
 | [.s (.i .i64 x0), .s (.i .i64 x1)], [] => ob (qHh x0 x1) fun z => K false (.agg [.one [.i .u64 (z.1), .i .u64 (z.2)]]) ([])
 | _, _ => o 53 vs objs K
def qPi (o : Orc) : Orc := qM 53 (qYL o) o
theorem qYP : OQ Tryz.prog qPi := fun _ ho => qP ho fun vs objs K r h => by
 unfold qYL at h
 split at h
 ·skip
  obtain ⟨t, h1, h2⟩ := qE h
  refine qAX mixed qYM (fn := Tryz.f53) (b := (Tryz.f53).body.getD .skip) (by kernel_rfl) (by kernel_rfl) (by kernel_rfl) ((qlU _ _).trans h1) (m := 0) rfl (qT.of (l' := [qG Tryz.f53 2]) (by kernel_rfl) ⟨qlX, trivial⟩) fun v objs' hd => ?_
  unfold qYN at hd;split at hd;(cases hd;exact h2);cases hd
 ·exact ho _ _ _ _ _ h
def qTQ : Ctx := mkC 14 ((qGX qL)) [] qV
theorem qex : CtxOK Tryz.prog qTQ := mkC_ok ((qII _ qN))
def qTR : V -> List Obj -> Option (Int × Int) := fun v objs => match v, objs with
 | .agg [.one [.i .u64 y0, .i .u64 y1]], [] => some (y0, y1)
 | _, _ => none
theorem qew (x0 x1 : LI) (x2 : Int) (x3 x4 : LL) : fnE qTQ Tryz.f60 ([.s (.ptr 0 0 none 0)]) ([.rcells 49 [.arr .i8 81 x0, .arr .i8 16 x1, .one [.i .i8 x2], .rows [.i .u64, .i .u64] 32 x3, .rows [.i .u64, .i .u64] 2 x4]]) (qAZ 1 qTR) = qCu x0 x1 x2 x3 x4 := by kernel_rfl
def qTP : HA := fun o vs objs K => match vs, List.map Obj.toRO objs with
 | [.s (.ptr 0 0 none 0)], [.rcells 49 [.arr .i8 81 x0, .arr .i8 16 x1, .one [.i .i8 x2], .rows [.i .u64, .i .u64] 32 x3, .rows [.i .u64, .i .u64] 2 x4]] => ob (qCu x0 x1 x2 x3 x4) fun z => K true (.agg [.one [.i .u64 (z.1), .i .u64 (z.2)]]) ([])
 | _, _ => o 60 vs objs K
def qGu (o : Orc) : Orc := qM 60 (qTP o) o
theorem qIi : OQ Tryz.prog qGu := fun _ ho => qP ho fun vs objs K r h => by
 unfold qTP at h
 split at h
 ·skip
  have hq : List.map Obj.toRO objs = _ := (by rename_i hq; first | exact hq | assumption)
  obtain ⟨t, h1, h2⟩ := qE h
  refine qAh mixed qex (m := 1) (fn := Tryz.f60) (b := (Tryz.f60).body.getD .skip) (by kernel_rfl) (by kernel_rfl) (by kernel_rfl) hq (by kernel_rfl) (by kernel_rfl) (qT.of (l' := []) (by kernel_rfl) trivial) ((qew _ _ _ _ _).trans h1) fun v objs' hd => ?_
  unfold qTR at hd;split at hd;(cases hd;exact h2);cases hd
 ·exact ho _ _ _ _ _ h
def qSb : Ctx := mkC 35 (qL) [] qV
theorem qeB : CtxOK Tryz.prog qSb := mkC_ok (qN)
def qSc : V -> List Obj -> Option (Int) := fun v objs => match v, objs with
 | .s (.i .i64 y0), [] => some (y0)
 | _, _ => none
theorem qeA (x0 : Int) : fnE qSb Tryz.f85 ([.s (.i .u64 x0)]) ([]) qSc = qFy x0 := by kernel_rfl
def qSa : HA := fun o vs objs K => match vs, objs with
 | [.s (.i .u64 x0)], [] => ob (qFy x0) fun y0 => K false (.s (.i .i64 y0)) ([])
 | _, _ => o 85 vs objs K
def qSd (o : Orc) : Orc := qM 85 (qSa o) o
theorem qeC : OQ Tryz.prog qSd := fun _ ho => qP ho fun vs objs K r h => by
 unfold qSa at h
 split at h
 ·skip
  obtain ⟨t, h1, h2⟩ := qE h
  refine any0K mixed qeB ((qeA _).trans h1) (by kernel_rfl) fun v objs' hd => ?_
  unfold qSc at hd;split at hd;(cases hd;exact h2);cases hd
 ·exact ho _ _ _ _ _ h
def qa3 : Ctx := mkC 10 ((qSd qL)) [] qV
theorem qn9 : CtxOK Tryz.prog qa3 := mkC_ok ((qeC _ qN))
def qa4 : V -> List Obj -> Option (Int) := fun v objs => match v, objs with
 | .s (.i .i64 y0), [] => some (y0)
 | _, _ => none
theorem qn8 (x0 x1 : Int) : fnE qa3 Tryz.f52 ([.agg [.one [.i .u64 x0, .i .u64 x1]]]) ([]) qa4 = qGT x0 x1 := by kernel_rfl
def qa2 : HA := fun o vs objs K => match vs, objs with
 | [.agg [.one [.i .u64 x0, .i .u64 x1]]], [] => ob (qGT x0 x1) fun y0 => K false (.s (.i .i64 y0)) ([])
 | _, _ => o 52 vs objs K
def qL6 (o : Orc) : Orc := qM 52 (qa2 o) o
theorem qQx : OQ Tryz.prog qL6 := fun _ ho => qP ho fun vs objs K r h => by
 unfold qa2 at h
 split at h
 ·skip
  obtain ⟨t, h1, h2⟩ := qE h
  refine any0K mixed qn9 ((qn8 _ _).trans h1) (by kernel_rfl) fun v objs' hd => ?_
  unfold qa4 at hd;split at hd;(cases hd;exact h2);cases hd
 ·exact ho _ _ _ _ _ h
def qS8 : Ctx := mkC 18 (qL) [] qV
theorem qej : CtxOK Tryz.prog qS8 := mkC_ok (qN)
def qS9 : V -> List Obj -> Option (Int × Int) := fun v objs => match v, objs with
 | .agg [.one [.i .u64 y0, .i .u64 y1]], [] => some (y0, y1)
 | _, _ => none
theorem qei (x0 : Int) (x1 x2 : LI) (x3 : Int) (x4 x5 : LL) : fnE qS8 Tryz.f57 ([.s (.ptr 0 0 none 0), .s (.i .i64 x0)]) ([.rcells 49 [.arr .i8 81 x1, .arr .i8 16 x2, .one [.i .i8 x3], .rows [.i .u64, .i .u64] 32 x4, .rows [.i .u64, .i .u64] 2 x5]]) (qAZ 1 qS9) = qF2 x0 x1 x2 x3 x4 x5 := by kernel_rfl
def qS7 : HA := fun o vs objs K => match vs, List.map Obj.toRO objs with
 | [.s (.ptr 0 0 none 0), .s (.i .i64 x0)], [.rcells 49 [.arr .i8 81 x1, .arr .i8 16 x2, .one [.i .i8 x3], .rows [.i .u64, .i .u64] 32 x4, .rows [.i .u64, .i .u64] 2 x5]] => ob (qF2 x0 x1 x2 x3 x4 x5) fun z => K true (.agg [.one [.i .u64 (z.1), .i .u64 (z.2)]]) ([])
 | _, _ => o 57 vs objs K
def qNO (o : Orc) : Orc := qM 57 (qS7 o) o
theorem qTA : OQ Tryz.prog qNO := fun _ ho => qP ho fun vs objs K r h => by
 unfold qS7 at h
 split at h
 ·skip
  have hq : List.map Obj.toRO objs = _ := (by rename_i hq; first | exact hq | assumption)
  obtain ⟨t, h1, h2⟩ := qE h
  refine qAh mixed qej (m := 1) (fn := Tryz.f57) (b := (Tryz.f57).body.getD .skip) (by kernel_rfl) (by kernel_rfl) (by kernel_rfl) hq (by kernel_rfl) (by kernel_rfl) (qT.of (l' := []) (by kernel_rfl) trivial) ((qei _ _ _ _ _ _).trans h1) fun v objs' hd => ?_
  unfold qS9 at hd;split at hd;(cases hd;exact h2);cases hd
 ·exact ho _ _ _ _ _ h
def qSh : Ctx := mkC 18 (qL) [] qV
theorem qeJ : CtxOK Tryz.prog qSh := mkC_ok (qN)
def qSi : V -> List Obj -> Option (Int) := fun v objs => match v, objs with
 | .s (.i .i8 y0), [] => some (y0)
 | _, _ => none
theorem qeI (x0 : Int) (x1 x2 : LI) (x3 : Int) (x4 x5 : LL) : fnE qSh Tryz.f39 ([.s (.ptr 0 0 none 0), .s (.i .i64 x0)]) ([.rcells 49 [.arr .i8 81 x1, .arr .i8 16 x2, .one [.i .i8 x3], .rows [.i .u64, .i .u64] 32 x4, .rows [.i .u64, .i .u64] 2 x5]]) (qAZ 1 qSi) = qAb x0 x1 x2 x3 x4 x5 := by kernel_rfl
def qSg : HA := fun o vs objs K => match vs, List.map Obj.toRO objs with
 | [.s (.ptr 0 0 none 0), .s (.i .i64 x0)], [.rcells 49 [.arr .i8 81 x1, .arr .i8 16 x2, .one [.i .i8 x3], .rows [.i .u64, .i .u64] 32 x4, .rows [.i .u64, .i .u64] 2 x5]] => ob (qAb x0 x1 x2 x3 x4 x5) fun y0 => K true (.s (.i .i8 y0)) ([])
 | _, _ => o 39 vs objs K
def qFz (o : Orc) : Orc := qM 39 (qSg o) o
theorem qGp : OQ Tryz.prog qFz := fun _ ho => qP ho fun vs objs K r h => by
 unfold qSg at h
 split at h
 ·skip
  have hq : List.map Obj.toRO objs = _ := (by rename_i hq; first | exact hq | assumption)
  obtain ⟨t, h1, h2⟩ := qE h
  refine qAh mixed qeJ (m := 1) (fn := Tryz.f39) (b := (Tryz.f39).body.getD .skip) (by kernel_rfl) (by kernel_rfl) (by kernel_rfl) hq (by kernel_rfl) (by kernel_rfl) (qT.of (l' := []) (by kernel_rfl) trivial) ((qeI _ _ _ _ _ _).trans h1) fun v objs' hd => ?_
  unfold qSi at hd;split at hd;(cases hd;exact h2);cases hd
 ·exact ho _ _ _ _ _ h
def qGc (n : Nat) {R : Type} (o : Orc) (vs : List V) (objs : List Obj) (K : Bool -> V -> List Obj -> Option R) : Option R := match vs, objs with
 | [.s (.i .i64 x0)], [] => ob (qGb n x0) fun z => K false (.s (.sl 0 0 (z.1) true)) ([.sli 118 false (.rows [.i .i64, .i .i64] (z.2.1) (z.2.2))])
 | _, _ => o 109 vs objs K
def qRR (n : Nat) (o : Orc) : Orc := fun f vs objs K => bif Nat.beq f 109 then qGc n o vs objs K else o f vs objs K
def qpR (n : Nat) : Orc := qRR n qL
def qcI (n : Nat) : Ctx := mkC 57 (qpR n) [] qV
def qcJ : V -> List Obj -> Option (Nat × Nat × LL) := fun v objs => match v, objs with
 | .s (.sl 0 0 y0 true), [.sli 118 false (.rows [.i .i64, .i .i64] y1 y2)] => some (y0, y1, y2)
 | _, _ => none
theorem qpO (n : Nat) (x0 : Int) : fnE (qcI n) Tryz.f109 ([.s (.i .i64 x0)]) ([]) qcJ = qGb (n + 1) x0 := by kernel_rfl
theorem qpP (n : Nat) (hc : CtxOK Tryz.prog (qcI n)) {vs : List V} {objs : List Obj} (x0 : Int) {R : Type} {K : Bool -> V -> List Obj -> Option R} {r : R} (hv : vs = [.s (.i .i64 x0)]) (ho : objs = []) (h : ob (qGb (n + 1) x0) (fun z => K false (.s (.sl 0 0 (z.1) true)) ([.sli 118 false (.rows [.i .i64, .i .i64] (z.2.1) (z.2.2))])) = some r) :
  ∃ p v objs', K p v objs' = some r /\ qFt Tryz.prog 109 vs objs p v objs' := by
 subst hv
 subst ho
 obtain ⟨t, h1, h2⟩ := qE h
 refine qR8 mixed hc (objs := []) (fn := Tryz.f109) (b := (Tryz.f109).body.getD .skip) (by kernel_rfl) (by kernel_rfl) (by kernel_rfl) (qT.of (l' := []) (by kernel_rfl) trivial) ((qpO n x0).trans h1) fun v objs' hd => ?_
 unfold qcJ at hd;split at hd;(cases hd;exact h2);cases hd
theorem qpQ : ∀ (n : Nat) (o : Orc) (ho : qDt Tryz.prog o), qDt Tryz.prog (qRR n o) := by
 intro n
 induction n with
 | zero =>
   intro o ho R f vs objs K r h
   replace h : (bif Nat.beq f 109 then qGc 0 o vs objs K else o f vs objs K) = some r := h
   cases hf : Nat.beq f 109 with
   | false => rw [hf] at h; exact ho f vs objs K r h
   | true =>
     rw [hf] at h
     have e := Nat.eq_of_beq_eq_true hf
     subst e
     replace h : qGc 0 o vs objs K = some r := h
     unfold qGc at h
     split at h
     ·skip
      cases h
     ·exact ho _ _ _ _ _ h
 | succ n ih =>
   intro o ho R f vs objs K r h
   replace h : (bif Nat.beq f 109 then qGc (n + 1) o vs objs K else o f vs objs K) = some r := h
   cases hf : Nat.beq f 109 with
   | false => rw [hf] at h; exact ho f vs objs K r h
   | true =>
     rw [hf] at h
     have e := Nat.eq_of_beq_eq_true hf
     subst e
     replace h : qGc (n + 1) o vs objs K = some r := h
     unfold qGc at h
     split at h
     ·skip
      exact qpP n ⟨tab_ok, ih _ qN, eqs_ok, bytes_ok, fun _ _ _ => rfl⟩ _ rfl rfl h
     ·exact ho _ _ _ _ _ h
def qcF : Ctx := mkC 15 (qL) [] qV
theorem qpN : CtxOK Tryz.prog qcF := mkC_ok (qN)
def qcG : V -> List Obj -> Option (Int × Int) := fun v objs => match v, objs with
 | .agg [.one [.i .i64 y0, .i .i64 y1]], [] => some (y0, y1)
 | _, _ => none
theorem qpM (x0 x1 x2 : Int) : fnE qcF Tryz.f91 ([.agg [.one [.i .i64 x0, .i .i64 x1]], .s (.i .i64 x2)]) ([]) qcG = qFn x0 x1 x2 := by kernel_rfl
def qcE : HA := fun o vs objs K => match vs, objs with
 | [.agg [.one [.i .i64 x0, .i .i64 x1]], .s (.i .i64 x2)], [] => ob (qFn x0 x1 x2) fun z => K false (.agg [.one [.i .i64 (z.1), .i .i64 (z.2)]]) ([])
 | _, _ => o 91 vs objs K
def qRQ (o : Orc) : Orc := qM 91 (qcE o) o
theorem qcH : OQ Tryz.prog qRQ := fun _ ho => qP ho fun vs objs K r h => by
 unfold qcE at h
 split at h
 ·skip
  obtain ⟨t, h1, h2⟩ := qE h
  refine any0K mixed qpN ((qpM _ _ _).trans h1) (by kernel_rfl) fun v objs' hd => ?_
  unfold qcG at hd;split at hd;(cases hd;exact h2);cases hd
 ·exact ho _ _ _ _ _ h
def qRT : Ex -> List V -> List Obj -> Option (Int × Int × Int × Int) := fun e vs objs => match e, vs, objs with
 | .exit 0, [.s (.ptr 0 0 none 0), .s (.ptr 1 0 none 0)], [.cells 45 [.one [.i .u64 y0, .i .u64 y1]], .cells 45 [.one [.i .u64 y2, .i .u64 y3]]] => some (y0, y1, y2, y3)
 | _, _, _ => none
def qRV : HL := fun vs objs K => match vs, objs with
 | [.s (.i .i8 x0), .s (.i .i64 x1), .s (.ptr 0 0 none 0), .s (.ptr 1 0 none 0), .s (.sl 2 0 x2 true), .s (.i .i64 x3), .s (.i .i64 x4)], [.cells 45 [.one [.i .u64 x5, .i .u64 x6]], .cells 45 [.one [.i .u64 x7, .i .u64 x8]], .sli 118 false (.rows [.i .i64, .i .i64] x9 x10)] => ob (qFp qC x0 x1 x2 x3 x4 x5 x6 x7 x8 x9 x10) fun z => K (.exit 0) ([.s (.ptr 0 0 none 0), .s (.ptr 1 0 none 0)]) ([.cells 45 [.one [.i .u64 (z.1), .i .u64 (z.2.1)]], .cells 45 [.one [.i .u64 (z.2.2.1), .i .u64 (z.2.2.2)]]])
 | _, _ => none
def qpX : {R : Type} -> Nat -> List V -> List Obj -> (Ex -> List V -> List Obj -> Option R) -> Option R := fun q vs objs K => bif Nat.beq q 3 then qRV vs objs K else none
def qMQ : Ctx := mkC 26 ((qEa (qRP (qRQ (qDc (qRR qC (qCO qL))))))) [(3, [0, 1, 4, 5, 10, 11, 12], [4, 5])] qpX
theorem qcP : CtxOK Tryz.prog qMQ := mkC_ok ((qFl _ (qcD _ (qcH _ (qEG _ (qpQ qC _ (qCh _ qN)))))))
def qRU (f : Nat) (x0 x1 : Int) (x2 : Nat) (x3 x4 : Int) (x5 x6 : Int) (x7 x8 : Int) (x9 : Nat) (x10 : LL) : Option (Int × Int × Int × Int) := qg qMQ 0 [0, 1, 4, 5, 10, 11, 12] [4, 5] (qG Tryz.f90 3) f ([.s (.i .i8 x0), .s (.i .i64 x1), .s (.ptr 0 0 none 0), .s (.ptr 1 0 none 0), .s (.sl 2 0 x2 true), .s (.i .i64 x3), .s (.i .i64 x4)]) ([.cells 45 [.one [.i .u64 x5, .i .u64 x6]], .cells 45 [.one [.i .u64 x7, .i .u64 x8]], .sli 118 false (.rows [.i .i64, .i .i64] x9 x10)]) qRT
theorem qpW (f : Nat) (x0 x1 : Int) (x2 : Nat) (x3 x4 : Int) (x5 x6 : Int) (x7 x8 : Int) (x9 : Nat) (x10 : LL) : qRU (f + 1) x0 x1 x2 x3 x4 x5 x6 x7 x8 x9 x10 = qIQ (qRU f) x0 x1 x2 x3 x4 x5 x6 x7 x8 x9 x10 := by kernel_rfl
theorem qcR : ∀ f, qRU f = qFp f
 | 0 => rfl
 | f + 1 => by funext x0 x1 x2 x3 x4 x5 x6 x7 x8 x9 x10; rw [qpW, qcR f]; rfl
theorem qpZ : qe Tryz.prog qMQ 0 (qG Tryz.f90 3) :=
 qk mixed qcP (qT.of (l' := []) (by kernel_rfl) trivial) (q := 3) (kin := [0, 1, 4, 5, 10, 11, 12]) (kout := [4, 5]) (by kernel_rfl) (by kernel_rfl) fun vs objs K r h => by
  replace h : qRV vs objs K = some r := h
  unfold qRV at h
  split at h
  ·skip
   obtain ⟨t, h1, h2⟩ := qE h
   rw [<- qcR] at h1
   refine ⟨_, qRT, t, qC, h1, fun e vs' objs' hd => ?_⟩
   unfold qRT at hd;split at hd;(cases hd;exact h2);cases hd
  ·cases h
def qcQ : V -> List Obj -> Option (Int × Int) := fun v objs => match v, objs with
 | .agg [.one [.i .u64 y0, .i .u64 y1]], [] => some (y0, y1)
 | _, _ => none
theorem qpV (x0 x1 : Int) : fnE qMQ Tryz.f90 ([.s (.i .i8 x0), .s (.i .i64 x1)]) ([]) qcQ = qJk x0 x1 := by kernel_rfl
def qcO : HA := fun o vs objs K => match vs, objs with
 | [.s (.i .i8 x0), .s (.i .i64 x1)], [] => ob (qJk x0 x1) fun z => K false (.agg [.one [.i .u64 (z.1), .i .u64 (z.2)]]) ([])
 | _, _ => o 90 vs objs K
def qcS (o : Orc) : Orc := qM 90 (qcO o) o
theorem qpY : OQ Tryz.prog qcS := fun _ ho => qP ho fun vs objs K r h => by
 unfold qcO at h
 split at h
 ·skip
  obtain ⟨t, h1, h2⟩ := qE h
  refine qAX mixed qcP (fn := Tryz.f90) (b := (Tryz.f90).body.getD .skip) (by kernel_rfl) (by kernel_rfl) (by kernel_rfl) ((qpV _ _).trans h1) (m := 0) rfl (qT.of (l' := [qG Tryz.f90 3]) (by kernel_rfl) ⟨qpZ, trivial⟩) fun v objs' hd => ?_
  unfold qcQ at hd;split at hd;(cases hd;exact h2);cases hd
 ·exact ho _ _ _ _ _ h
def qPl : Ex -> List V -> List Obj -> Option (Int × Int × Int × Int) := fun e vs objs => match e, vs, objs with
 | .exit 0, [.s (.ptr 0 0 none 0), .s (.ptr 1 0 none 0)], [.cells 45 [.one [.i .u64 y0, .i .u64 y1]], .cells 45 [.one [.i .u64 y2, .i .u64 y3]]] => some (y0, y1, y2, y3)
 | _, _, _ => none
def qPo : HL := fun vs objs K => match vs, objs with
 | [.s (.i .i8 x0), .s (.i .i64 x1), .s (.ptr 0 0 none 0), .s (.ptr 1 0 none 0), .s (.ptr 2 0 none 0), .s (.sl 3 0 x2 true), .s (.i .i64 x3), .s (.i .i64 x4)], [.cells 45 [.one [.i .u64 x5, .i .u64 x6]], .cells 45 [.one [.i .u64 x7, .i .u64 x8]], .cells 45 [.one [.i .u64 x9, .i .u64 x10]], .sli 118 false (.rows [.i .i64, .i .i64] x11 x12)] => ob (qFR qC x0 x1 x2 x3 x4 x5 x6 x7 x8 x9 x10 x11 x12) fun z => K (.exit 0) ([.s (.ptr 0 0 none 0), .s (.ptr 1 0 none 0)]) ([.cells 45 [.one [.i .u64 (z.1), .i .u64 (z.2.1)]], .cells 45 [.one [.i .u64 (z.2.2.1), .i .u64 (z.2.2.2)]]])
 | _, _ => none
def qlc : {R : Type} -> Nat -> List V -> List Obj -> (Ex -> List V -> List Obj -> Option R) -> Option R := fun q vs objs K => bif Nat.beq q 3 then qPo vs objs K else none
def qLg : Ctx := mkC 32 ((qGX (qPr (qRQ (qDc (qPk (qCO (qcS qL)))))))) [(3, [0, 1, 5, 6, 7, 15, 16, 17], [6, 7])] qlc
theorem qYV : CtxOK Tryz.prog qLg := mkC_ok ((qII _ (qYc _ (qcH _ (qEG _ (qYT _ (qCh _ (qpY _ qN))))))))
def qPm (f : Nat) (x0 x1 : Int) (x2 : Nat) (x3 x4 : Int) (x5 x6 : Int) (x7 x8 : Int) (x9 x10 : Int) (x11 : Nat) (x12 : LL) : Option (Int × Int × Int × Int) := qg qLg 0 [0, 1, 5, 6, 7, 15, 16, 17] [6, 7] (qG Tryz.f59 3) f ([.s (.i .i8 x0), .s (.i .i64 x1), .s (.ptr 0 0 none 0), .s (.ptr 1 0 none 0), .s (.ptr 2 0 none 0), .s (.sl 3 0 x2 true), .s (.i .i64 x3), .s (.i .i64 x4)]) ([.cells 45 [.one [.i .u64 x5, .i .u64 x6]], .cells 45 [.one [.i .u64 x7, .i .u64 x8]], .cells 45 [.one [.i .u64 x9, .i .u64 x10]], .sli 118 false (.rows [.i .i64, .i .i64] x11 x12)]) qPl
theorem qlb (f : Nat) (x0 x1 : Int) (x2 : Nat) (x3 x4 : Int) (x5 x6 : Int) (x7 x8 : Int) (x9 x10 : Int) (x11 : Nat) (x12 : LL) : qPm (f + 1) x0 x1 x2 x3 x4 x5 x6 x7 x8 x9 x10 x11 x12 = qHj (qPm f) x0 x1 x2 x3 x4 x5 x6 x7 x8 x9 x10 x11 x12 := by kernel_rfl
theorem qYX : ∀ f, qPm f = qFR f
 | 0 => rfl
 | f + 1 => by funext x0 x1 x2 x3 x4 x5 x6 x7 x8 x9 x10 x11 x12; rw [qlb, qYX f]; rfl
theorem qld : qe Tryz.prog qLg 0 (qG Tryz.f59 3) :=
 qk mixed qYV (qT.of (l' := []) (by kernel_rfl) trivial) (q := 3) (kin := [0, 1, 5, 6, 7, 15, 16, 17]) (kout := [6, 7]) (by kernel_rfl) (by kernel_rfl) fun vs objs K r h => by
  replace h : qPo vs objs K = some r := h
  unfold qPo at h
  split at h
  ·skip
   obtain ⟨t, h1, h2⟩ := qE h
   rw [<- qYX] at h1
   refine ⟨_, qPl, t, qC, h1, fun e vs' objs' hd => ?_⟩
   unfold qPl at hd;split at hd;(cases hd;exact h2);cases hd
  ·cases h
def qYW : V -> List Obj -> Option (Int × Int) := fun v objs => match v, objs with
 | .agg [.one [.i .u64 y0, .i .u64 y1]], [] => some (y0, y1)
 | _, _ => none
theorem qla (x0 x1 : Int) (x2 x3 : Int) : fnE qLg Tryz.f59 ([.s (.i .i8 x0), .s (.i .i64 x1), .agg [.one [.i .u64 x2, .i .u64 x3]]]) ([]) qYW = qFQ x0 x1 x2 x3 := by kernel_rfl
def qYU : HA := fun o vs objs K => match vs, objs with
 | [.s (.i .i8 x0), .s (.i .i64 x1), .agg [.one [.i .u64 x2, .i .u64 x3]]], [] => ob (qFQ x0 x1 x2 x3) fun z => K false (.agg [.one [.i .u64 (z.1), .i .u64 (z.2)]]) ([])
 | _, _ => o 59 vs objs K
def qLh (o : Orc) : Orc := qM 59 (qYU o) o
theorem qPn : OQ Tryz.prog qLh := fun _ ho => qP ho fun vs objs K r h => by
 unfold qYU at h
 split at h
 ·skip
  obtain ⟨t, h1, h2⟩ := qE h
  refine qAX mixed qYV (fn := Tryz.f59) (b := (Tryz.f59).body.getD .skip) (by kernel_rfl) (by kernel_rfl) (by kernel_rfl) ((qla _ _ _ _).trans h1) (m := 0) rfl (qT.of (l' := [qG Tryz.f59 3]) (by kernel_rfl) ⟨qld, trivial⟩) fun v objs' hd => ?_
  unfold qYW at hd;split at hd;(cases hd;exact h2);cases hd
 ·exact ho _ _ _ _ _ h
end
end Go.Kk.KkST
