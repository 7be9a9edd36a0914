/- Printed by a tool of this project (KkGen): the program's functions come to the plain ones. -/
import Derived.Test.YtbeinkbjmmbloaaGreatDoorProg
import Derived.Test.YtbeinkbjmmbloaaGreatDoorKkB
import Derived.Test.YtbeinkbjmmbloaaGreatDoorKkPl
namespace Go.Kk.KkST
noncomputable section
open Go.Proofs Go.Kk.Pl
set_option maxRecDepth 100000
set_option maxHeartbeats 4000000
def tab : Tab := [(1, .sc (.f)),
 (2, .sc (.i .i64)),
 (3, .sc (.i .i64)),
 (4, .sc (.b)),
 (5, .sc (.i .u8)),
 (6, .sc (.i .u8)),
 (7, .st [.one [.i .i64, .i .i64, .b, .i .u8]] [(0, 0, 2), (0, 1, 3), (0, 2, 4), (0, 3, 6)]),
 (8, .st [.one [.i .i64, .i .i64, .b, .i .u8]] [(0, 0, 2), (0, 1, 3), (0, 2, 4), (0, 3, 6)]),
 (9, .sc (.str)),
 (10, .sc (.str)),
 (11, .sc (.str)),
 (12, .sc (.i .u64)),
 (13, .st [.one [.str, .i .u64]] [(0, 0, 9), (0, 1, 12)]),
 (14, .st [.one [.str, .i .u64]] [(0, 0, 9), (0, 1, 12)]),
 (15, .sc (.p)),
 (16, .sc (.p)),
 (17, .sc (.p)),
 (18, .st [.one [.p]] [(0, 0, 17)]),
 (19, .st [.one [.p]] [(0, 0, 17)]),
 (21, .sc (.i .i32)),
 (22, .sc (.i .i8)),
 (23, .sc (.i .i8)),
 (24, .ar 81 1 23 (.arr .i8 81)),
 (25, .ar 8 1 22 (.arr .i8 8)),
 (26, .ar 2 8 25 (.arr .i8 16)),
 (27, .st [.arr .i8 81, .arr .i8 16, .one [.i .i8]] [(0, 0, 24), (1, 0, 26), (2, 0, 22)]),
 (28, .st [.arr .i8 81, .arr .i8 16, .one [.i .i8]] [(0, 0, 24), (1, 0, 26), (2, 0, 22)]),
 (29, .sc (.sl 3)),
 (30, .sc (.sl 53)),
 (31, .sc (.f)),
 (32, .sc (.p)),
 (33, .sc (.f)),
 (34, .sc (.f)),
 (35, .sc (.i .i64)),
 (36, .sc (.f)),
 (37, .sc (.p)),
 (38, .sc (.f)),
 (39, .sc (.i .u64)),
 (40, .sc (.i .u64)),
 (41, .sc (.sl 87)),
 (42, .st [.one [.p, .i .u64, .sl 87]] [(0, 0, 32), (0, 1, 40), (0, 2, 41)]),
 (43, .st [.one [.p, .i .u64, .sl 87]] [(0, 0, 32), (0, 1, 40), (0, 2, 41)]),
 (44, .st [.one [.i .u64, .i .u64]] [(0, 0, 39), (0, 1, 39)]),
 (45, .st [.one [.i .u64, .i .u64]] [(0, 0, 39), (0, 1, 39)]),
 (46, .ar 32 1 45 (.rows [.i .u64, .i .u64] 32)),
 (47, .ar 2 1 45 (.rows [.i .u64, .i .u64] 2)),
 (48, .st [.arr .i8 81, .arr .i8 16, .one [.i .i8], .rows [.i .u64, .i .u64] 32, .rows [.i .u64, .i .u64] 2] [(0, 0, 28), (3, 0, 46), (4, 0, 47)]),
 (49, .st [.arr .i8 81, .arr .i8 16, .one [.i .i8], .rows [.i .u64, .i .u64] 32, .rows [.i .u64, .i .u64] 2] [(0, 0, 28), (3, 0, 46), (4, 0, 47)]),
 (50, .sc (.f)),
 (51, .sc (.m 9 4)),
 (52, .st [.one [.i .i64, .i .i64, .i .i64, .b]] [(0, 0, 3), (0, 1, 3), (0, 2, 3), (0, 3, 4)]),
 (53, .st [.one [.i .i64, .i .i64, .i .i64, .b]] [(0, 0, 3), (0, 1, 3), (0, 2, 3), (0, 3, 4)]),
 (54, .sc (.f)),
 (56, .sc (.f)),
 (57, .sc (.f)),
 (58, .sc (.f)),
 (59, .sc (.f)),
 (60, .sc (.f)),
 (61, .sc (.f)),
 (62, .sc (.f)),
 (63, .sc (.f)),
 (64, .sc (.m 3 45)),
 (65, .st [.one [.p, .i .i64, .i .i64, .i .u64, .i .u64, .m 3 45, .b]] [(0, 0, 32), (0, 1, 3), (0, 2, 3), (0, 3, 45), (0, 5, 64), (0, 6, 4)]),
 (66, .st [.one [.p, .i .i64, .i .i64, .i .u64, .i .u64, .m 3 45, .b]] [(0, 0, 32), (0, 1, 3), (0, 2, 3), (0, 3, 45), (0, 5, 64), (0, 6, 4)]),
 (67, .sc (.f)),
 (68, .sc (.f)),
 (69, .sc (.f)),
 (70, .sc (.f)),
 (71, .sc (.f)),
 (72, .ar 9 1 3 (.arr .i64 9)),
 (73, .sc (.f)),
 (74, .sc (.f)),
 (75, .sc (.f)),
 (76, .sc (.f)),
 (77, .sc (.f)),
 (78, .sc (.f)),
 (79, .sc (.f)),
 (80, .sc (.sl 21)),
 (81, .sc (.f)),
 (83, .sc (.f)),
 (84, .sc (.f)),
 (85, .sc (.f)),
 (86, .st [.one [.i .i64, .i .i64, .i .i64, .b, .i .i8, .i .i8]] [(0, 0, 53), (0, 4, 23), (0, 5, 23)]),
 (87, .st [.one [.i .i64, .i .i64, .i .i64, .b, .i .i8, .i .i8]] [(0, 0, 53), (0, 4, 23), (0, 5, 23)]),
 (88, .sc (.f)),
 (89, .sc (.f)),
 (90, .sc (.f)),
 (91, .sc (.f)),
 (92, .sc (.f)),
 (93, .sc (.f)),
 (94, .sc (.f)),
 (95, .sc (.f)),
 (96, .sc (.f)),
 (97, .sc (.f)),
 (99, .sc (.f)),
 (100, .sc (.f)),
 (101, .sc (.f)),
 (103, .sc (.f)),
 (104, .sc (.f)),
 (105, .ar 2 1 3 (.arr .i64 2)),
 (106, .ar 81 1 4 (.barr 81)),
 (107, .sc (.f)),
 (108, .sc (.f)),
 (109, .sc (.f)),
 (110, .sc (.f)),
 (111, .sc (.f)),
 (112, .sc (.sl 5)),
 (113, .sc (.f)),
 (114, .sc (.f)),
 (115, .sc (.sl 118)),
 (116, .sc (.f)),
 (117, .st [.one [.i .i64, .i .i64]] [(0, 0, 3), (0, 1, 3)]),
 (118, .st [.one [.i .i64, .i .i64]] [(0, 0, 3), (0, 1, 3)]),
 (119, .sc (.f)),
 (120, .sc (.f)),
 (121, .sc (.f)),
 (122, .sc (.f)),
 (123, .sc (.f)),
 (124, .sc (.f)),
 (125, .sc (.f)),
 (126, .sc (.f)),
 (127, .sc (.f)),
 (128, .sc (.f)),
 (129, .sc (.i .u64)),
 (130, .ar 64 1 5 (.arr .u8 64)),
 (131, .sc (.f)),
 (132, .sc (.f)),
 (133, .sc (.f)),
 (134, .st [.one [.p, .p, .p, .str]] [(0, 0, 17), (0, 1, 17), (0, 2, 17), (0, 3, 9)]),
 (135, .st [.one [.p, .p, .p, .str]] [(0, 0, 17), (0, 1, 17), (0, 2, 17), (0, 3, 9)]),
 (139, .sc (.i .u32)),
 (140, .sc (.i .u8)),
 (141, .sc (.i .u8)),
 (142, .sc (.f)),
 (143, .sc (.p)),
 (144, .sc (.i .i32)),
 (145, .sc (.i .i32)),
 (146, .st [.one [.i .u64, .i .u64, .i .u32, .i .u8, .i .u8, .i .u8, .i .u8, .f, .p, .i .i32, .i .i32]] [(0, 0, 12), (0, 1, 12), (0, 2, 139), (0, 3, 140), (0, 4, 5), (0, 5, 5), (0, 6, 141), (0, 7, 142), (0, 8, 143), (0, 9, 144), (0, 10, 145)]),
 (147, .st [.one [.i .u64, .i .u64, .i .u32, .i .u8, .i .u8, .i .u8, .i .u8, .f, .p, .i .i32, .i .i32]] [(0, 0, 12), (0, 1, 12), (0, 2, 139), (0, 3, 140), (0, 4, 5), (0, 5, 5), (0, 6, 141), (0, 7, 142), (0, 8, 143), (0, 9, 144), (0, 10, 145)])]
def eqs : List TypeId := [3, 9, 24, 25, 26, 27, 28, 39, 40, 44, 45, 52, 53, 105, 118]
def bytes : List (TypeId × Nat) := [(3, 8), (53, 32), (87, 40), (21, 4), (5, 1), (118, 16)]
theorem mixed : Tryz.prog.follows .mixedOrders = true := by kernel_rfl
theorem tab_ok : ∀ t L, Tab.get tab t = some L -> LayOK Tryz.prog tab t L := qce (P := Tryz.prog) (tab := tab) (l := tab) (by kernel_rfl)
theorem eqs_ok : ∀ t L, qED t eqs = true -> Tab.get tab t = some L -> ∃ f ck, f <= 10000 /\ qA8 Tryz.prog f t = some ck /\ qBO L.segTs = some ck /\ Tryz.prog.eqGuardType Tryz.prog.depth t = false := qUh (P := Tryz.prog) (tab := tab) (l := eqs) (by kernel_rfl)
theorem bytes_ok : ∀ t n, byN t bytes = some n -> ∃ i, Tryz.prog.info? t = some i /\ i.bytes = n := qTc (P := Tryz.prog) (l := bytes) (by kernel_rfl)
def mkC (nt : Nat) (orc : Orc) (keeps : List (Nat × List Nat × List Nat)) (lp : {R : Type} -> Nat -> List V -> List Obj -> (Ex -> List V -> List Obj -> Option R) -> Option R) : Ctx := { tab := tab, eqs := eqs, bytes := bytes, nt := nt, orc := orc, keeps := keeps, lp := lp }
theorem mkC_ok {nt : Nat} {orc : Orc} {keeps : List (Nat × List Nat × List Nat)} {lp : {R : Type} -> Nat -> List V -> List Obj -> (Ex -> List V -> List Obj -> Option R) -> Option R} (h : qCr Tryz.prog orc) : CtxOK Tryz.prog (mkC nt orc keeps lp) := ⟨tab_ok, h, eqs_ok, bytes_ok, fun _ _ _ => rfl⟩
def set_Squarec : Ctx := mkC 23 (qL) [] qV
theorem set_Squarec_ok : CtxOK Tryz.prog set_Squarec := mkC_ok (qN)
def set_Squared : V -> List Obj -> Option (Int) := fun v objs => match v, objs with
 | .s (.i .i64 y0), [] => some (y0)
 | _, _ => none
theorem set_Square_eq (x0 x1 : Int) : fnE set_Squarec Tryz.f26 ([.s (.i .i64 x0), .s (.i .i64 x1)]) ([]) set_Squared = qCT x0 x1 := by kernel_rfl
def set_Squarea : HA := fun o vs objs K => match vs, objs with
 | [.s (.i .i64 x0), .s (.i .i64 x1)], [] => ob (qCT x0 x1) fun y0 => K false (.s (.i .i64 y0)) ([])
 | _, _ => o 26 vs objs K
def set_Squareo (o : Orc) : Orc := qM 26 (set_Squarea o) o
theorem set_Squareo_ok : OQ Tryz.prog set_Squareo := fun _ ho => qP ho fun vs objs K r h => by
 unfold set_Squarea at h
 split at h
 ·skip
  obtain ⟨t, h1, h2⟩ := qE h
  refine qc mixed set_Squarec_ok ((set_Square_eq _ _).trans h1) (by kernel_rfl) fun v objs' hd => ?_
  unfold set_Squared at hd;split at hd;(cases hd;exact h2);cases hd
 ·exact ho _ _ _ _ _ h
def qTG : Ctx := mkC 14 ((set_Squareo qL)) [] qV
theorem qeo : CtxOK Tryz.prog qTG := mkC_ok ((set_Squareo_ok _ qN))
def qTH : V -> List Obj -> Option (Int) := fun v objs => match v, objs with
 | .s (.i .i64 y0), [] => some (y0)
 | _, _ => none
theorem qen (x0 x1 x2 : Int) : fnE qTG Tryz.f25 ([.s (.i .i64 x0), .s (.ptr 0 0 none 0), .s (.ptr 1 0 none 0)]) ([.rcells 3 [.one [.i .i64 x1]], .rcells 3 [.one [.i .i64 x2]]]) (qAa 2 qTH) = qKL x0 x1 x2 := by kernel_rfl
def qTF : HA := fun o vs objs K => match vs, List.map Obj.toRO objs with
 | [.s (.i .i64 x0), .s (.ptr 0 0 none 0), .s (.ptr 1 0 none 0)], [.rcells 3 [.one [.i .i64 x1]], .rcells 3 [.one [.i .i64 x2]]] => ob (qKL x0 x1 x2) fun y0 => K true (.s (.i .i64 y0)) ([])
 | _, _ => o 25 vs objs K
def qTI (o : Orc) : Orc := qM 25 (qTF o) o
theorem qep : OQ Tryz.prog qTI := fun _ ho => qP ho fun vs objs K r h => by
 unfold qTF at h
 split at h
 ·skip
  have hq : List.map Obj.toRO objs = _ := (by rename_i hq; first | exact hq | assumption)
  obtain ⟨t, h1, h2⟩ := qE h
  refine qAi mixed qeo (m := 2) (fn := Tryz.f25) (b := (Tryz.f25).body.getD .skip) (by kernel_rfl) (by kernel_rfl) (by kernel_rfl) hq (by kernel_rfl) (by kernel_rfl) (qT.of (l' := []) (by kernel_rfl) trivial) ((qen _ _ _).trans h1) fun v objs' hd => ?_
  unfold qTH at hd;split at hd;(cases hd;exact h2);cases hd
 ·exact ho _ _ _ _ _ h
def qXp : Ctx := mkC 28 (qL) [] qV
theorem qkr : CtxOK Tryz.prog qXp := mkC_ok (qN)
def qXq : V -> List Obj -> Option (Int) := fun v objs => match v, objs with
 | .s (.i .i8 y0), [] => some (y0)
 | _, _ => none
theorem qkq (x0 x1 : Int) : fnE qXp Tryz.f27 ([.s (.i .i64 x0), .s (.i .i64 x1)]) ([]) qXq = qAh x0 x1 := by kernel_rfl
def qXo : HA := fun o vs objs K => match vs, objs with
 | [.s (.i .i64 x0), .s (.i .i64 x1)], [] => ob (qAh x0 x1) fun y0 => K false (.s (.i .i8 y0)) ([])
 | _, _ => o 27 vs objs K
def qDd (o : Orc) : Orc := qM 27 (qXo o) o
theorem qEG : OQ Tryz.prog qDd := fun _ ho => qP ho fun vs objs K r h => by
 unfold qXo at h
 split at h
 ·skip
  obtain ⟨t, h1, h2⟩ := qE h
  refine qc mixed qkr ((qkq _ _).trans h1) (by kernel_rfl) fun v objs' hd => ?_
  unfold qXq at hd;split at hd;(cases hd;exact h2);cases hd
 ·exact ho _ _ _ _ _ h
def qNV : Ex -> List V -> List Obj -> Option (Int × LI × LI × Int × LI × LI × Int × LI) := fun e vs objs => match e, vs, objs with
 | .exit 2, [.s (.ptr 0 0 none 0), .s (.ptr 1 0 none 0), .s (.ptr 2 0 none 0), .s (.i .i64 y0)], [.cells 28 [.arr .i8 81 y1, .arr .i8 16 y2, .one [.i .i8 y3]], .cells 28 [.arr .i8 81 y4, .arr .i8 16 y5, .one [.i .i8 y6]], .cells 72 [.arr .i64 9 y7]] => some (y0, y1, y2, y3, y4, y5, y6, y7)
 | _, _, _ => none
def qNT : Ex -> List V -> List Obj -> Option (LI × LI × Int × LI × LI × Int) := fun e vs objs => match e, vs, objs with
 | .exit 0, [.s (.ptr 0 0 none 0), .s (.ptr 1 0 none 0)], [.cells 28 [.arr .i8 81 y0, .arr .i8 16 y1, .one [.i .i8 y2]], .cells 28 [.arr .i8 81 y3, .arr .i8 16 y4, .one [.i .i8 y5]]] => some (y0, y1, y2, y3, y4, y5)
 | _, _, _ => none
def qNY : HL := fun vs objs K => match vs, objs with
 | [.s (.ptr 0 0 none 0), .s (.ptr 1 0 none 0), .s (.ptr 2 0 none 0), .s (.ptr 3 0 none 0), .s (.i .i64 x0), .s (.i .i64 x1)], [.cells 28 [.arr .i8 81 x2, .arr .i8 16 x3, .one [.i .i8 x4]], .cells 28 [.arr .i8 81 x5, .arr .i8 16 x6, .one [.i .i8 x7]], .cells 72 [.arr .i64 9 x8], .cells 3 [.one [.i .i64 x9]]] => ob (qKN qC x0 x1 x2 x3 x4 x5 x6 x7 x8 x9) fun z => K (.exit 2) ([.s (.ptr 0 0 none 0), .s (.ptr 1 0 none 0), .s (.ptr 2 0 none 0), .s (.i .i64 (z.1))]) ([.cells 28 [.arr .i8 81 (z.2.1), .arr .i8 16 (z.2.2.1), .one [.i .i8 (z.2.2.2.1)]], .cells 28 [.arr .i8 81 (z.2.2.2.2.1), .arr .i8 16 (z.2.2.2.2.2.1), .one [.i .i8 (z.2.2.2.2.2.2.1)]], .cells 72 [.arr .i64 9 (z.2.2.2.2.2.2.2)]])
 | _, _ => none
def qNX : HL := fun vs objs K => match vs, objs with
 | [.s (.ptr 0 0 none 0), .s (.ptr 1 0 none 0), .s (.ptr 2 0 none 0), .s (.i .i64 x0)], [.cells 28 [.arr .i8 81 x1, .arr .i8 16 x2, .one [.i .i8 x3]], .cells 28 [.arr .i8 81 x4, .arr .i8 16 x5, .one [.i .i8 x6]], .cells 72 [.arr .i64 9 x7]] => ob (qKM qC x0 x1 x2 x3 x4 x5 x6 x7) fun z => K (.exit 0) ([.s (.ptr 0 0 none 0), .s (.ptr 1 0 none 0)]) ([.cells 28 [.arr .i8 81 (z.1), .arr .i8 16 (z.2.1), .one [.i .i8 (z.2.2.1)]], .cells 28 [.arr .i8 81 (z.2.2.2.1), .arr .i8 16 (z.2.2.2.2.1), .one [.i .i8 (z.2.2.2.2.2)]]])
 | _, _ => none
def qet : {R : Type} -> Nat -> List V -> List Obj -> (Ex -> List V -> List Obj -> Option R) -> Option R := fun q vs objs K => bif Nat.beq q 7 then qNY vs objs K else bif Nat.beq q 4 then qNX vs objs K else none
def qGu : Ctx := mkC 44 ((set_Squareo (qDd (qTI qL)))) [(4, [0, 1, 2, 7], [0, 1]), (7, [0, 1, 2, 3, 7, 10], [0, 1, 2, 7])] qet
theorem qNS : CtxOK Tryz.prog qGu := mkC_ok ((set_Squareo_ok _ (qEG _ (qep _ qN))))
def qNW (f : Nat) (x0 x1 : Int) (x2 x3 : LI) (x4 : Int) (x5 x6 : LI) (x7 : Int) (x8 : LI) (x9 : Int) : Option (Int × LI × LI × Int × LI × LI × Int × LI) := qh qGu 0 [0, 1, 2, 3, 7, 10] [0, 1, 2, 7] (qG Tryz.f6 7) f ([.s (.ptr 0 0 none 0), .s (.ptr 1 0 none 0), .s (.ptr 2 0 none 0), .s (.ptr 3 0 none 0), .s (.i .i64 x0), .s (.i .i64 x1)]) ([.cells 28 [.arr .i8 81 x2, .arr .i8 16 x3, .one [.i .i8 x4]], .cells 28 [.arr .i8 81 x5, .arr .i8 16 x6, .one [.i .i8 x7]], .cells 72 [.arr .i64 9 x8], .cells 3 [.one [.i .i64 x9]]]) qNV
theorem qes (f : Nat) (x0 x1 : Int) (x2 x3 : LI) (x4 : Int) (x5 x6 : LI) (x7 : Int) (x8 : LI) (x9 : Int) : qNW (f + 1) x0 x1 x2 x3 x4 x5 x6 x7 x8 x9 = qTO (qNW f) x0 x1 x2 x3 x4 x5 x6 x7 x8 x9 := by kernel_rfl
theorem qTN : ∀ f, qNW f = qKN f
 | 0 => rfl
 | f + 1 => by funext x0 x1 x2 x3 x4 x5 x6 x7 x8 x9; rw [qes, qTN f]; rfl
def qNU (f : Nat) (x0 : Int) (x1 x2 : LI) (x3 : Int) (x4 x5 : LI) (x6 : Int) (x7 : LI) : Option (LI × LI × Int × LI × LI × Int) := qh qGu 0 [0, 1, 2, 7] [0, 1] (qG Tryz.f6 4) f ([.s (.ptr 0 0 none 0), .s (.ptr 1 0 none 0), .s (.ptr 2 0 none 0), .s (.i .i64 x0)]) ([.cells 28 [.arr .i8 81 x1, .arr .i8 16 x2, .one [.i .i8 x3]], .cells 28 [.arr .i8 81 x4, .arr .i8 16 x5, .one [.i .i8 x6]], .cells 72 [.arr .i64 9 x7]]) qNT
theorem qer (f : Nat) (x0 : Int) (x1 x2 : LI) (x3 : Int) (x4 x5 : LI) (x6 : Int) (x7 : LI) : qNU (f + 1) x0 x1 x2 x3 x4 x5 x6 x7 = qTM (qNU f) x0 x1 x2 x3 x4 x5 x6 x7 := by kernel_rfl
theorem qTL : ∀ f, qNU f = qKM f
 | 0 => rfl
 | f + 1 => by funext x0 x1 x2 x3 x4 x5 x6 x7; rw [qer, qTL f]; rfl
theorem qew : qf Tryz.prog qGu 0 (qG Tryz.f6 7) :=
 ql mixed qNS (qT.of (l' := []) (by kernel_rfl) trivial) (q := 7) (kin := [0, 1, 2, 3, 7, 10]) (kout := [0, 1, 2, 7]) (by kernel_rfl) (by kernel_rfl) fun vs objs K r h => by
  replace h : qNY vs objs K = some r := h
  unfold qNY at h
  split at h
  ·skip
   obtain ⟨t, h1, h2⟩ := qE h
   rw [<- qTN] at h1
   refine ⟨_, qNV, t, qC, h1, fun e vs' objs' hd => ?_⟩
   unfold qNV at hd;split at hd;(cases hd;exact h2);cases hd
  ·cases h
theorem qev : qf Tryz.prog qGu 0 (qG Tryz.f6 4) :=
 ql mixed qNS (qT.of (l' := [qG Tryz.f6 7]) (by kernel_rfl) ⟨qew, trivial⟩) (q := 4) (kin := [0, 1, 2, 7]) (kout := [0, 1]) (by kernel_rfl) (by kernel_rfl) fun vs objs K r h => by
  replace h : qNX vs objs K = some r := h
  unfold qNX at h
  split at h
  ·skip
   obtain ⟨t, h1, h2⟩ := qE h
   rw [<- qTL] at h1
   refine ⟨_, qNT, t, qC, h1, fun e vs' objs' hd => ?_⟩
   unfold qNT at hd;split at hd;(cases hd;exact h2);cases hd
  ·cases h
def qTK : V -> List Obj -> Option (LI × LI × Int) := fun v objs => match v, objs with
 | .agg [.arr .i8 81 y0, .arr .i8 16 y1, .one [.i .i8 y2]], [] => some (y0, y1, y2)
 | _, _ => none
theorem qeq : fnE qGu Tryz.f6 ([]) ([]) qTK = qIi  := by kernel_rfl
def qTJ : HA := fun o vs objs K => match vs, objs with
 | [], [] => ob (qIi ) fun z => K false (.agg [.arr .i8 81 (z.1), .arr .i8 16 (z.2.1), .one [.i .i8 (z.2.2)]]) ([])
 | _, _ => o 6 vs objs K
def qTP (o : Orc) : Orc := qM 6 (qTJ o) o
theorem qeu : OQ Tryz.prog qTP := fun _ ho => qP ho fun vs objs K r h => by
 unfold qTJ at h
 split at h
 ·skip
  obtain ⟨t, h1, h2⟩ := qE h
  refine qAY mixed qNS (fn := Tryz.f6) (b := (Tryz.f6).body.getD .skip) (by kernel_rfl) (by kernel_rfl) (by kernel_rfl) ((qeq).trans h1) (m := 0) rfl (qT.of (l' := [qG Tryz.f6 4]) (by kernel_rfl) ⟨qev, trivial⟩) fun v objs' hd => ?_
  unfold qTK at hd;split at hd;(cases hd;exact h2);cases hd
 ·exact ho _ _ _ _ _ h
def qbr : Ctx := mkC 21 (qL) [] qV
theorem qon : CtxOK Tryz.prog qbr := mkC_ok (qN)
def qbs : V -> List Obj -> Option (Int × Int) := fun v objs => match v, objs with
 | .agg [.one [.i .u64 y0, .i .u64 y1]], [] => some (y0, y1)
 | _, _ => none
theorem qom (x0 : Int) : fnE qbr Tryz.f94 ([.s (.i .i64 x0)]) ([]) qbs = qFo x0 := by kernel_rfl
def qbq : HA := fun o vs objs K => match vs, objs with
 | [.s (.i .i64 x0)], [] => ob (qFo x0) fun z => K false (.agg [.one [.i .u64 (z.1), .i .u64 (z.2)]]) ([])
 | _, _ => o 94 vs objs K
def qMJ (o : Orc) : Orc := qM 94 (qbq o) o
theorem qRI : OQ Tryz.prog qMJ := fun _ ho => qP ho fun vs objs K r h => by
 unfold qbq at h
 split at h
 ·skip
  obtain ⟨t, h1, h2⟩ := qE h
  refine qc mixed qon ((qom _).trans h1) (by kernel_rfl) fun v objs' hd => ?_
  unfold qbs at hd;split at hd;(cases hd;exact h2);cases hd
 ·exact ho _ _ _ _ _ h
def qbP : Ctx := mkC 16 (qL) [] qV
theorem qoO : CtxOK Tryz.prog qbP := mkC_ok (qN)
def qbQ : V -> List Obj -> Option (Int × Int) := fun v objs => match v, objs with
 | .agg [.one [.i .u64 y0, .i .u64 y1]], [] => some (y0, y1)
 | _, _ => none
theorem qoN (x0 x1 : Int) (x2 x3 : Int) : fnE qbP Tryz.f61 ([.agg [.one [.i .u64 x0, .i .u64 x1]], .agg [.one [.i .u64 x2, .i .u64 x3]]]) ([]) qbQ = qFk x0 x1 x2 x3 := by kernel_rfl
def qbO : HA := fun o vs objs K => match vs, objs with
 | [.agg [.one [.i .u64 x0, .i .u64 x1]], .agg [.one [.i .u64 x2, .i .u64 x3]]], [] => ob (qFk x0 x1 x2 x3) fun z => K false (.agg [.one [.i .u64 (z.1), .i .u64 (z.2)]]) ([])
 | _, _ => o 61 vs objs K
def qMC (o : Orc) : Orc := qM 61 (qbO o) o
theorem qQ6 : OQ Tryz.prog qMC := fun _ ho => qP ho fun vs objs K r h => by
 unfold qbO at h
 split at h
 ·skip
  obtain ⟨t, h1, h2⟩ := qE h
  refine qc mixed qoO ((qoN _ _ _ _).trans h1) (by kernel_rfl) fun v objs' hd => ?_
  unfold qbQ at hd;split at hd;(cases hd;exact h2);cases hd
 ·exact ho _ _ _ _ _ h
def qbo : Ctx := mkC 9 ((qMC (qMJ qL))) [] qV
theorem qok : CtxOK Tryz.prog qbo := mkC_ok ((qQ6 _ (qRI _ qN)))
def qbp : V -> List Obj -> Option (Int × Int) := fun v objs => match v, objs with
 | .agg [.one [.i .u64 y0, .i .u64 y1]], [] => some (y0, y1)
 | _, _ => none
theorem qoj (x0 x1 x2 : Int) : fnE qbo Tryz.f65 ([.agg [.one [.i .u64 x0, .i .u64 x1]], .s (.i .i64 x2)]) ([]) qbp = qEc x0 x1 x2 := by kernel_rfl
def qbn : HA := fun o vs objs K => match vs, objs with
 | [.agg [.one [.i .u64 x0, .i .u64 x1]], .s (.i .i64 x2)], [] => ob (qEc x0 x1 x2) fun z => K false (.agg [.one [.i .u64 (z.1), .i .u64 (z.2)]]) ([])
 | _, _ => o 65 vs objs K
def qJi (o : Orc) : Orc := qM 65 (qbn o) o
theorem qMI : OQ Tryz.prog qJi := fun _ ho => qP ho fun vs objs K r h => by
 unfold qbn at h
 split at h
 ·skip
  obtain ⟨t, h1, h2⟩ := qE h
  refine qc mixed qok ((qoj _ _ _).trans h1) (by kernel_rfl) fun v objs' hd => ?_
  unfold qbp at hd;split at hd;(cases hd;exact h2);cases hd
 ·exact ho _ _ _ _ _ h
def qXi : Ctx := mkC 28 (qL) [] qV
theorem qkm : CtxOK Tryz.prog qXi := mkC_ok (qN)
def qXj : V -> List Obj -> Option (Int) := fun v objs => match v, objs with
 | .s (.i .i64 y0), [] => some (y0)
 | _, _ => none
theorem qkl (x0 : Int) : fnE qXi Tryz.f43 ([.s (.i .i8 x0)]) ([]) qXj = q9 x0 := by kernel_rfl
def qXh : HA := fun o vs objs K => match vs, objs with
 | [.s (.i .i8 x0)], [] => ob (q9 x0) fun y0 => K false (.s (.i .i64 y0)) ([])
 | _, _ => o 43 vs objs K
def qCP (o : Orc) : Orc := qM 43 (qXh o) o
theorem qCi : OQ Tryz.prog qCP := fun _ ho => qP ho fun vs objs K r h => by
 unfold qXh at h
 split at h
 ·skip
  obtain ⟨t, h1, h2⟩ := qE h
  refine qc mixed qkm ((qkl _).trans h1) (by kernel_rfl) fun v objs' hd => ?_
  unfold qXj at hd;split at hd;(cases hd;exact h2);cases hd
 ·exact ho _ _ _ _ _ h
def qX1 : Ctx := mkC 10 ((qCP qL)) [] qV
theorem qk0 : CtxOK Tryz.prog qX1 := mkC_ok ((qCi _ qN))
def qX2 : V -> List Obj -> Option (Int) := fun v objs => match v, objs with
 | .s (.i .i64 y0), [] => some (y0)
 | _, _ => none
theorem qkz (x0 : Int) : fnE qX1 Tryz.f37 ([.s (.i .i8 x0)]) ([]) qX2 = qAM x0 := by kernel_rfl
def qX0 : HA := fun o vs objs K => match vs, objs with
 | [.s (.i .i8 x0)], [] => ob (qAM x0) fun y0 => K false (.s (.i .i64 y0)) ([])
 | _, _ => o 37 vs objs K
def qDe (o : Orc) : Orc := qM 37 (qX0 o) o
theorem qEH : OQ Tryz.prog qDe := fun _ ho => qP ho fun vs objs K r h => by
 unfold qX0 at h
 split at h
 ·skip
  obtain ⟨t, h1, h2⟩ := qE h
  refine qc mixed qk0 ((qkz _).trans h1) (by kernel_rfl) fun v objs' hd => ?_
  unfold qX2 at hd;split at hd;(cases hd;exact h2);cases hd
 ·exact ho _ _ _ _ _ h
def qbb : Ctx := mkC 16 (qL) [] qV
theorem qoY : CtxOK Tryz.prog qbb := mkC_ok (qN)
def qbc : V -> List Obj -> Option (Int × Int) := fun v objs => match v, objs with
 | .agg [.one [.i .u64 y0, .i .u64 y1]], [] => some (y0, y1)
 | _, _ => none
theorem qoX (x0 x1 : Int) (x2 x3 : Int) : fnE qbb Tryz.f55 ([.agg [.one [.i .u64 x0, .i .u64 x1]], .agg [.one [.i .u64 x2, .i .u64 x3]]]) ([]) qbc = qDn x0 x1 x2 x3 := by kernel_rfl
def qba : HA := fun o vs objs K => match vs, objs with
 | [.agg [.one [.i .u64 x0, .i .u64 x1]], .agg [.one [.i .u64 x2, .i .u64 x3]]], [] => ob (qDn x0 x1 x2 x3) fun z => K false (.agg [.one [.i .u64 (z.1), .i .u64 (z.2)]]) ([])
 | _, _ => o 55 vs objs K
def qGY (o : Orc) : Orc := qM 55 (qba o) o
theorem qIJ : OQ Tryz.prog qGY := fun _ ho => qP ho fun vs objs K r h => by
 unfold qba at h
 split at h
 ·skip
  obtain ⟨t, h1, h2⟩ := qE h
  refine qc mixed qoY ((qoX _ _ _ _).trans h1) (by kernel_rfl) fun v objs' hd => ?_
  unfold qbc at hd;split at hd;(cases hd;exact h2);cases hd
 ·exact ho _ _ _ _ _ h
def qbl : Ctx := mkC 9 ((qGY (qMJ qL))) [] qV
theorem qoi : CtxOK Tryz.prog qbl := mkC_ok ((qIJ _ (qRI _ qN)))
def qbm : V -> List Obj -> Option (Int × Int) := fun v objs => match v, objs with
 | .agg [.one [.i .u64 y0, .i .u64 y1]], [] => some (y0, y1)
 | _, _ => none
theorem qoh (x0 x1 x2 : Int) : fnE qbl Tryz.f71 ([.agg [.one [.i .u64 x0, .i .u64 x1]], .s (.i .i64 x2)]) ([]) qbm = qA7 x0 x1 x2 := by kernel_rfl
def qbk : HA := fun o vs objs K => match vs, objs with
 | [.agg [.one [.i .u64 x0, .i .u64 x1]], .s (.i .i64 x2)], [] => ob (qA7 x0 x1 x2) fun z => K false (.agg [.one [.i .u64 (z.1), .i .u64 (z.2)]]) ([])
 | _, _ => o 71 vs objs K
def qEb (o : Orc) : Orc := qM 71 (qbk o) o
theorem qFn : OQ Tryz.prog qEb := fun _ ho => qP ho fun vs objs K r h => by
 unfold qbk at h
 split at h
 ·skip
  obtain ⟨t, h1, h2⟩ := qE h
  refine qc mixed qoi ((qoh _ _ _).trans h1) (by kernel_rfl) fun v objs' hd => ?_
  unfold qbm at hd;split at hd;(cases hd;exact h2);cases hd
 ·exact ho _ _ _ _ _ h
def qTD : Ctx := mkC 90 ((qEb (qCP (qDe (qJi qL))))) [] qV
theorem qem : CtxOK Tryz.prog qTD := mkC_ok ((qFn _ (qCi _ (qEH _ (qMI _ qN)))))
def qTE : V -> List Obj -> Option (LI × LI × Int × LL × LL) := fun v objs => match v, objs with
 | .tup [], [.cells 49 [.arr .i8 81 y0, .arr .i8 16 y1, .one [.i .i8 y2], .rows [.i .u64, .i .u64] 32 y3, .rows [.i .u64, .i .u64] 2 y4]] => some (y0, y1, y2, y3, y4)
 | _, _ => none
theorem qel (x0 x1 : Int) (x2 x3 : LI) (x4 : Int) (x5 x6 : LL) : fnE qTD Tryz.f24 ([.s (.ptr 0 0 none 0), .s (.i .i64 x0), .s (.i .i8 x1)]) ([.cells 49 [.arr .i8 81 x2, .arr .i8 16 x3, .one [.i .i8 x4], .rows [.i .u64, .i .u64] 32 x5, .rows [.i .u64, .i .u64] 2 x6]]) qTE = qF4 x0 x1 x2 x3 x4 x5 x6 := by kernel_rfl
def qTC : HA := fun o vs objs K => match vs, objs with
 | [.s (.ptr 0 0 none 0), .s (.i .i64 x0), .s (.i .i8 x1)], [.cells 49 [.arr .i8 81 x2, .arr .i8 16 x3, .one [.i .i8 x4], .rows [.i .u64, .i .u64] 32 x5, .rows [.i .u64, .i .u64] 2 x6]] => ob (qF4 x0 x1 x2 x3 x4 x5 x6) fun z => K false (.tup []) ([.cells 49 [.arr .i8 81 (z.1), .arr .i8 16 (z.2.1), .one [.i .i8 (z.2.2.1)], .rows [.i .u64, .i .u64] 32 (z.2.2.2.1), .rows [.i .u64, .i .u64] 2 (z.2.2.2.2)]])
 | _, _ => o 24 vs objs K
def qKK (o : Orc) : Orc := qM 24 (qTC o) o
theorem qNR : OQ Tryz.prog qKK := fun _ ho => qP ho fun vs objs K r h => by
 unfold qTC at h
 split at h
 ·skip
  obtain ⟨t, h1, h2⟩ := qE h
  refine qc mixed qem ((qel _ _ _ _ _ _ _).trans h1) (by kernel_rfl) fun v objs' hd => ?_
  unfold qTE at hd;split at hd;(cases hd;exact h2);cases hd
 ·exact ho _ _ _ _ _ h
def qNN : Ex -> List V -> List Obj -> Option (LI × LI × Int × LL × LL) := fun e vs objs => match e, vs, objs with
 | .exit 0, [.s (.ptr 0 0 none 0)], [.cells 49 [.arr .i8 81 y0, .arr .i8 16 y1, .one [.i .i8 y2], .rows [.i .u64, .i .u64] 32 y3, .rows [.i .u64, .i .u64] 2 y4]] => some (y0, y1, y2, y3, y4)
 | _, _, _ => none
def qNP : HL := fun vs objs K => match vs, objs with
 | [.s (.ptr 0 0 none 0), .agg [.arr .i8 81 x0], .s (.i .i64 x1)], [.cells 49 [.arr .i8 81 x2, .arr .i8 16 x3, .one [.i .i8 x4], .rows [.i .u64, .i .u64] 32 x5, .rows [.i .u64, .i .u64] 2 x6]] => ob (qD1 qC x0 x1 x2 x3 x4 x5 x6) fun z => K (.exit 0) ([.s (.ptr 0 0 none 0)]) ([.cells 49 [.arr .i8 81 (z.1), .arr .i8 16 (z.2.1), .one [.i .i8 (z.2.2.1)], .rows [.i .u64, .i .u64] 32 (z.2.2.2.1), .rows [.i .u64, .i .u64] 2 (z.2.2.2.2)]])
 | _, _ => none
def qef : {R : Type} -> Nat -> List V -> List Obj -> (Ex -> List V -> List Obj -> Option R) -> Option R := fun q vs objs K => bif Nat.beq q 4 then qNP vs objs K else none
def qKI : Ctx := mkC 32 ((qKK qL)) [(4, [3, 21, 22], [3])] qef
theorem qS2 : CtxOK Tryz.prog qKI := mkC_ok ((qNR _ qN))
def qNO (f : Nat) (x0 : LI) (x1 : Int) (x2 x3 : LI) (x4 : Int) (x5 x6 : LL) : Option (LI × LI × Int × LL × LL) := qh qKI 0 [3, 21, 22] [3] (qG Tryz.f5 4) f ([.s (.ptr 0 0 none 0), .agg [.arr .i8 81 x0], .s (.i .i64 x1)]) ([.cells 49 [.arr .i8 81 x2, .arr .i8 16 x3, .one [.i .i8 x4], .rows [.i .u64, .i .u64] 32 x5, .rows [.i .u64, .i .u64] 2 x6]]) qNN
theorem qee (f : Nat) (x0 : LI) (x1 : Int) (x2 x3 : LI) (x4 : Int) (x5 x6 : LL) : qNO (f + 1) x0 x1 x2 x3 x4 x5 x6 = qGs (qNO f) x0 x1 x2 x3 x4 x5 x6 := by kernel_rfl
theorem qS4 : ∀ f, qNO f = qD1 f
 | 0 => rfl
 | f + 1 => by funext x0 x1 x2 x3 x4 x5 x6; rw [qee, qS4 f]; rfl
theorem qeg : qf Tryz.prog qKI 0 (qG Tryz.f5 4) :=
 ql mixed qS2 (qT.of (l' := []) (by kernel_rfl) trivial) (q := 4) (kin := [3, 21, 22]) (kout := [3]) (by kernel_rfl) (by kernel_rfl) fun vs objs K r h => by
  replace h : qNP vs objs K = some r := h
  unfold qNP at h
  split at h
  ·skip
   obtain ⟨t, h1, h2⟩ := qE h
   rw [<- qS4] at h1
   refine ⟨_, qNN, t, qC, h1, fun e vs' objs' hd => ?_⟩
   unfold qNN at hd;split at hd;(cases hd;exact h2);cases hd
  ·cases h
def qS3 : V -> List Obj -> Option (LI × LI × Int × LL × LL) := fun v objs => match v, objs with
 | .s (.ptr 0 0 none 0), [.cells 49 [.arr .i8 81 y0, .arr .i8 16 y1, .one [.i .i8 y2], .rows [.i .u64, .i .u64] 32 y3, .rows [.i .u64, .i .u64] 2 y4]] => some (y0, y1, y2, y3, y4)
 | _, _ => none
theorem qed (x0 x1 : LI) (x2 : Int) : fnE qKI Tryz.f5 ([.agg [.arr .i8 81 x0, .arr .i8 16 x1, .one [.i .i8 x2]]]) ([]) qS3 = qD0 x0 x1 x2 := by kernel_rfl
def qS1 : HA := fun o vs objs K => match vs, objs with
 | [.agg [.arr .i8 81 x0, .arr .i8 16 x1, .one [.i .i8 x2]]], [] => ob (qD0 x0 x1 x2) fun z => K false (.s (.ptr 0 0 none 0)) ([.cells 49 [.arr .i8 81 (z.1), .arr .i8 16 (z.2.1), .one [.i .i8 (z.2.2.1)], .rows [.i .u64, .i .u64] 32 (z.2.2.2.1), .rows [.i .u64, .i .u64] 2 (z.2.2.2.2)]])
 | _, _ => o 5 vs objs K
def qIh (o : Orc) : Orc := qM 5 (qS1 o) o
theorem qKJ : OQ Tryz.prog qIh := fun _ ho => qP ho fun vs objs K r h => by
 unfold qS1 at h
 split at h
 ·skip
  obtain ⟨t, h1, h2⟩ := qE h
  refine qAY mixed qS2 (fn := Tryz.f5) (b := (Tryz.f5).body.getD .skip) (by kernel_rfl) (by kernel_rfl) (by kernel_rfl) ((qed _ _ _).trans h1) (m := 0) rfl (qT.of (l' := [qG Tryz.f5 4]) (by kernel_rfl) ⟨qeg, trivial⟩) fun v objs' hd => ?_
  unfold qS3 at hd;split at hd;(cases hd;exact h2);cases hd
 ·exact ho _ _ _ _ _ h
def qS6 : Ctx := mkC 20 ((qDd qL)) [] qV
theorem qei : CtxOK Tryz.prog qS6 := mkC_ok ((qEG _ qN))
def qS7 : V -> List Obj -> Option (Int × Int) := fun v objs => match v, objs with
 | .agg [.one [.i .u64 y0, .i .u64 y1]], [] => some (y0, y1)
 | _, _ => none
theorem qeh (x0 x1 : Int) (x2 x3 : LI) (x4 : Int) (x5 x6 : LL) : fnE qS6 Tryz.f56 ([.s (.ptr 0 0 none 0), .s (.i .i64 x0), .s (.i .i64 x1)]) ([.rcells 49 [.arr .i8 81 x2, .arr .i8 16 x3, .one [.i .i8 x4], .rows [.i .u64, .i .u64] 32 x5, .rows [.i .u64, .i .u64] 2 x6]]) (qAa 1 qS7) = qCv x0 x1 x2 x3 x4 x5 x6 := by kernel_rfl
def qS5 : HA := fun o vs objs K => match vs, List.map Obj.toRO objs with
 | [.s (.ptr 0 0 none 0), .s (.i .i64 x0), .s (.i .i64 x1)], [.rcells 49 [.arr .i8 81 x2, .arr .i8 16 x3, .one [.i .i8 x4], .rows [.i .u64, .i .u64] 32 x5, .rows [.i .u64, .i .u64] 2 x6]] => ob (qCv x0 x1 x2 x3 x4 x5 x6) fun z => K true (.agg [.one [.i .u64 (z.1), .i .u64 (z.2)]]) ([])
 | _, _ => o 56 vs objs K
def qF2 (o : Orc) : Orc := qM 56 (qS5 o) o
theorem qGt : OQ Tryz.prog qF2 := fun _ ho => qP ho fun vs objs K r h => by
 unfold qS5 at h
 split at h
 ·skip
  have hq : List.map Obj.toRO objs = _ := (by rename_i hq; first | exact hq | assumption)
  obtain ⟨t, h1, h2⟩ := qE h
  refine qAi mixed qei (m := 1) (fn := Tryz.f56) (b := (Tryz.f56).body.getD .skip) (by kernel_rfl) (by kernel_rfl) (by kernel_rfl) hq (by kernel_rfl) (by kernel_rfl) (qT.of (l' := []) (by kernel_rfl) trivial) ((qeh _ _ _ _ _ _ _).trans h1) fun v objs' hd => ?_
  unfold qS7 at hd;split at hd;(cases hd;exact h2);cases hd
 ·exact ho _ _ _ _ _ h
def qM5 : Ctx := mkC 14 (qL) [] qV
theorem qeG : CtxOK Tryz.prog qM5 := mkC_ok (qN)
def qM6 : V -> List Obj -> Option (Int) := fun v objs => match v, objs with
 | .s (.i .i64 y0), [] => some (y0)
 | _, _ => none
theorem qeF (B : {R : Type} -> Bool -> Option R -> Option R -> Option R) (x0 : Int) : fnE { qM5 with brg := B } Tryz.f89 ([.s (.i .u64 x0)]) ([]) qM6 = qM4 B x0 := by kernel_rfl
theorem qeE (x0 : Int) : fnE qM5 Tryz.f89 ([.s (.i .u64 x0)]) ([]) qM6 = qEu x0 := qeF br x0
def qSf : HA := fun o vs objs K => match vs, objs with
 | [.s (.i .u64 x0)], [] => ob (qEu x0) fun y0 => K false (.s (.i .i64 y0)) ([])
 | _, _ => o 89 vs objs K
def qM7 (o : Orc) : Orc := qM 89 (qSf o) o
theorem qSg : OQ Tryz.prog qM7 := fun _ ho => qP ho fun vs objs K r h => by
 unfold qSf at h
 split at h
 ·skip
  obtain ⟨t, h1, h2⟩ := qE h
  refine qc mixed qeG ((qeE _).trans h1) (by kernel_rfl) fun v objs' hd => ?_
  unfold qM6 at hd;split at hd;(cases hd;exact h2);cases hd
 ·exact ho _ _ _ _ _ h
def qbD : Ctx := mkC 18 ((qM7 qL)) [] qV
theorem qoG : CtxOK Tryz.prog qbD := mkC_ok ((qSg _ qN))
def qbE : V -> List Obj -> Option (Int) := fun v objs => match v, objs with
 | .s (.i .i64 y0), [] => some (y0)
 | _, _ => none
theorem qoF (x0 x1 : Int) : fnE qbD Tryz.f54 ([.agg [.one [.i .u64 x0, .i .u64 x1]]]) ([]) qbE = qGW x0 x1 := by kernel_rfl
def qbC : HA := fun o vs objs K => match vs, objs with
 | [.agg [.one [.i .u64 x0, .i .u64 x1]]], [] => ob (qGW x0 x1) fun y0 => K false (.s (.i .i64 y0)) ([])
 | _, _ => o 54 vs objs K
def qL9 (o : Orc) : Orc := qM 54 (qbC o) o
theorem qQ1 : OQ Tryz.prog qL9 := fun _ ho => qP ho fun vs objs K r h => by
 unfold qbC at h
 split at h
 ·skip
  obtain ⟨t, h1, h2⟩ := qE h
  refine qc mixed qoG ((qoF _ _).trans h1) (by kernel_rfl) fun v objs' hd => ?_
  unfold qbE at hd;split at hd;(cases hd;exact h2);cases hd
 ·exact ho _ _ _ _ _ h
def qSz : Ctx := mkC 9 ((qL9 (qF2 qL))) [] qV
theorem qec : CtxOK Tryz.prog qSz := mkC_ok ((qQ1 _ (qGt _ qN)))
def qS0 : V -> List Obj -> Option (Int) := fun v objs => match v, objs with
 | .s (.i .i64 y0), [] => some (y0)
 | _, _ => none
theorem qeb (x0 : Int) (x1 x2 : LI) (x3 : Int) (x4 x5 : LL) : fnE qSz Tryz.f49 ([.s (.ptr 0 0 none 0), .s (.i .i64 x0)]) ([.rcells 49 [.arr .i8 81 x1, .arr .i8 16 x2, .one [.i .i8 x3], .rows [.i .u64, .i .u64] 32 x4, .rows [.i .u64, .i .u64] 2 x5]]) (qAa 1 qS0) = qF1 x0 x1 x2 x3 x4 x5 := by kernel_rfl
def qSy : HA := fun o vs objs K => match vs, List.map Obj.toRO objs with
 | [.s (.ptr 0 0 none 0), .s (.i .i64 x0)], [.rcells 49 [.arr .i8 81 x1, .arr .i8 16 x2, .one [.i .i8 x3], .rows [.i .u64, .i .u64] 32 x4, .rows [.i .u64, .i .u64] 2 x5]] => ob (qF1 x0 x1 x2 x3 x4 x5) fun y0 => K true (.s (.i .i64 y0)) ([])
 | _, _ => o 49 vs objs K
def qKH (o : Orc) : Orc := qM 49 (qSy o) o
theorem qNM : OQ Tryz.prog qKH := fun _ ho => qP ho fun vs objs K r h => by
 unfold qSy at h
 split at h
 ·skip
  have hq : List.map Obj.toRO objs = _ := (by rename_i hq; first | exact hq | assumption)
  obtain ⟨t, h1, h2⟩ := qE h
  refine qAi mixed qec (m := 1) (fn := Tryz.f49) (b := (Tryz.f49).body.getD .skip) (by kernel_rfl) (by kernel_rfl) (by kernel_rfl) hq (by kernel_rfl) (by kernel_rfl) (qT.of (l' := []) (by kernel_rfl) trivial) ((qeb _ _ _ _ _ _).trans h1) fun v objs' hd => ?_
  unfold qS0 at hd;split at hd;(cases hd;exact h2);cases hd
 ·exact ho _ _ _ _ _ h
def qay : Ctx := mkC 2 (qL) [] qV
theorem qn6 : CtxOK Tryz.prog qay := mkC_ok (qN)
def qaz : V -> List Obj -> Option (Int × Int) := fun v objs => match v, objs with
 | .agg [.one [.i .u64 y0, .i .u64 y1]], [] => some (y0, y1)
 | _, _ => none
theorem qn5 : fnE qay Tryz.f20 ([]) ([]) qaz = qGS  := by kernel_rfl
def qax : HA := fun o vs objs K => match vs, objs with
 | [], [] => ob (qGS ) fun z => K false (.agg [.one [.i .u64 (z.1), .i .u64 (z.2)]]) ([])
 | _, _ => o 20 vs objs K
def qJe (o : Orc) : Orc := qM 20 (qax o) o
theorem qL6 : OQ Tryz.prog qJe := fun _ ho => qP ho fun vs objs K r h => by
 unfold qax at h
 split at h
 ·skip
  obtain ⟨t, h1, h2⟩ := qE h
  refine qc mixed qn6 ((qn5).trans h1) (by kernel_rfl) fun v objs' hd => ?_
  unfold qaz at hd;split at hd;(cases hd;exact h2);cases hd
 ·exact ho _ _ _ _ _ h
def qRC : Ex -> List V -> List Obj -> Option (Nat × Int × Int × Nat × LI) := fun e vs objs => match e, vs, objs with
 | .exit 0, [.s (.ptr 0 0 none 0), .s (.sl 1 0 y0 true)], [.cells 45 [.one [.i .u64 y1, .i .u64 y2]], .sli 3 false (.arr .i64 y3 y4)] => some (y0, y1, y2, y3, y4)
 | _, _, _ => none
def qRE : Ex -> List V -> List Obj -> Option (Nat × Nat × LI) := fun e vs objs => match e, vs, objs with
 | .exit 2, [.s (.sl 0 0 y0 true)], [.sli 3 false (.arr .i64 y1 y2)] => some (y0, y1, y2)
 | _, _, _ => none
def qRG : HL := fun vs objs K => match vs, objs with
 | [.s (.ptr 0 0 none 0), .s (.sl 1 0 x0 true)], [.cells 45 [.one [.i .u64 x1, .i .u64 x2]], .sli 3 false (.arr .i64 x3 x4)] => ob (qIL qC x0 x1 x2 x3 x4) fun z => K (.exit 0) ([.s (.ptr 0 0 none 0), .s (.sl 1 0 (z.1) true)]) ([.cells 45 [.one [.i .u64 (z.2.1), .i .u64 (z.2.2.1)]], .sli 3 false (.arr .i64 (z.2.2.2.1) (z.2.2.2.2))])
 | _, _ => none
def qRH : HL := fun vs objs K => match vs, objs with
 | [.s (.ptr 0 0 none 0), .s (.sl 1 0 x0 true)], [.cells 45 [.one [.i .u64 x1, .i .u64 x2]], .sli 3 false (.arr .i64 x3 x4)] => ob (qIM qC x0 x1 x2 x3 x4) fun z => K (.exit 2) ([.s (.sl 0 0 (z.1) true)]) ([.sli 3 false (.arr .i64 (z.2.1) (z.2.2))])
 | _, _ => none
def qoe : {R : Type} -> Nat -> List V -> List Obj -> (Ex -> List V -> List Obj -> Option R) -> Option R := fun q vs objs K => bif Nat.beq q 2 then qRG vs objs K else bif Nat.beq q 5 then qRH vs objs K else none
def qIK : Ctx := mkC 38 ((qM7 qL)) [(2, [1, 3], [1, 3]), (5, [1, 3], [3])] qoe
theorem qRB : CtxOK Tryz.prog qIK := mkC_ok ((qSg _ qN))
def qRD (f : Nat) (x0 : Nat) (x1 x2 : Int) (x3 : Nat) (x4 : LI) : Option (Nat × Int × Int × Nat × LI) := qh qIK 0 [1, 3] [1, 3] (qG Tryz.f58 2) f ([.s (.ptr 0 0 none 0), .s (.sl 1 0 x0 true)]) ([.cells 45 [.one [.i .u64 x1, .i .u64 x2]], .sli 3 false (.arr .i64 x3 x4)]) qRC
theorem qoc (f : Nat) (x0 : Nat) (x1 x2 : Int) (x3 : Nat) (x4 : LI) : qRD (f + 1) x0 x1 x2 x3 x4 = qMF (qRD f) x0 x1 x2 x3 x4 := by kernel_rfl
theorem qbi : ∀ f, qRD f = qIL f
 | 0 => rfl
 | f + 1 => by funext x0 x1 x2 x3 x4; rw [qoc, qbi f]; rfl
def qRF (f : Nat) (x0 : Nat) (x1 x2 : Int) (x3 : Nat) (x4 : LI) : Option (Nat × Nat × LI) := qh qIK 0 [1, 3] [3] (qG Tryz.f58 5) f ([.s (.ptr 0 0 none 0), .s (.sl 1 0 x0 true)]) ([.cells 45 [.one [.i .u64 x1, .i .u64 x2]], .sli 3 false (.arr .i64 x3 x4)]) qRE
theorem qod (f : Nat) (x0 : Nat) (x1 x2 : Int) (x3 : Nat) (x4 : LI) : qRF (f + 1) x0 x1 x2 x3 x4 = qMG (qRF f) x0 x1 x2 x3 x4 := by kernel_rfl
theorem qbj : ∀ f, qRF f = qIM f
 | 0 => rfl
 | f + 1 => by funext x0 x1 x2 x3 x4; rw [qod, qbj f]; rfl
theorem qof : qf Tryz.prog qIK 0 (qG Tryz.f58 2) :=
 ql mixed qRB (qT.of (l' := []) (by kernel_rfl) trivial) (q := 2) (kin := [1, 3]) (kout := [1, 3]) (by kernel_rfl) (by kernel_rfl) fun vs objs K r h => by
  replace h : qRG vs objs K = some r := h
  unfold qRG at h
  split at h
  ·skip
   obtain ⟨t, h1, h2⟩ := qE h
   rw [<- qbi] at h1
   refine ⟨_, qRC, t, qC, h1, fun e vs' objs' hd => ?_⟩
   unfold qRC at hd;split at hd;(cases hd;exact h2);cases hd
  ·cases h
theorem qog : qf Tryz.prog qIK 0 (qG Tryz.f58 5) :=
 ql mixed qRB (qT.of (l' := []) (by kernel_rfl) trivial) (q := 5) (kin := [1, 3]) (kout := [3]) (by kernel_rfl) (by kernel_rfl) fun vs objs K r h => by
  replace h : qRH vs objs K = some r := h
  unfold qRH at h
  split at h
  ·skip
   obtain ⟨t, h1, h2⟩ := qE h
   rw [<- qbj] at h1
   refine ⟨_, qRE, t, qC, h1, fun e vs' objs' hd => ?_⟩
   unfold qRE at hd;split at hd;(cases hd;exact h2);cases hd
  ·cases h
def qbh : V -> List Obj -> Option (Nat × Nat × LI) := fun v objs => match v, objs with
 | .s (.sl 0 0 y0 true), [.sli 3 false (.arr .i64 y1 y2)] => some (y0, y1, y2)
 | _, _ => none
theorem qob (x0 x1 : Int) : fnE qIK Tryz.f58 ([.agg [.one [.i .u64 x0, .i .u64 x1]]]) ([]) qbh = qEa x0 x1 := by kernel_rfl
def qbg : HA := fun o vs objs K => match vs, objs with
 | [.agg [.one [.i .u64 x0, .i .u64 x1]]], [] => ob (qEa x0 x1) fun z => K false (.s (.sl 0 0 (z.1) true)) ([.sli 3 false (.arr .i64 (z.2.1) (z.2.2))])
 | _, _ => o 58 vs objs K
def qJh (o : Orc) : Orc := qM 58 (qbg o) o
theorem qMH : OQ Tryz.prog qJh := fun _ ho => qP ho fun vs objs K r h => by
 unfold qbg at h
 split at h
 ·skip
  obtain ⟨t, h1, h2⟩ := qE h
  refine qAY mixed qRB (fn := Tryz.f58) (b := (Tryz.f58).body.getD .skip) (by kernel_rfl) (by kernel_rfl) (by kernel_rfl) ((qob _ _).trans h1) (m := 0) rfl (qT.of (l' := [qG Tryz.f58 2, qG Tryz.f58 5]) (by kernel_rfl) ⟨qof, qog, trivial⟩) fun v objs' hd => ?_
  unfold qbh at hd;split at hd;(cases hd;exact h2);cases hd
 ·exact ho _ _ _ _ _ h
def qYS : Ctx := mkC 24 (qL) [] qV
theorem qla : CtxOK Tryz.prog qYS := mkC_ok (qN)
def qYT : V -> List Obj -> Option (Nat × Nat × LL) := fun v objs => match v, objs with
 | .s (.sl 0 0 y0 true), [.sli 118 false (.rows [.i .i64, .i .i64] y1 y2)] => some (y0, y1, y2)
 | _, _ => none
theorem qlZ (x0 : Int) : fnE qYS Tryz.f86 ([.s (.i .i64 x0)]) ([]) qYT = qGN x0 := by kernel_rfl
def qYR : HA := fun o vs objs K => match vs, objs with
 | [.s (.i .i64 x0)], [] => ob (qGN x0) fun z => K false (.s (.sl 0 0 (z.1) true)) ([.sli 118 false (.rows [.i .i64, .i .i64] (z.2.1) (z.2.2))])
 | _, _ => o 86 vs objs K
def qPm (o : Orc) : Orc := qM 86 (qYR o) o
theorem qYU : OQ Tryz.prog qPm := fun _ ho => qP ho fun vs objs K r h => by
 unfold qYR at h
 split at h
 ·skip
  obtain ⟨t, h1, h2⟩ := qE h
  refine qc mixed qla ((qlZ _).trans h1) (by kernel_rfl) fun v objs' hd => ?_
  unfold qYT at hd;split at hd;(cases hd;exact h2);cases hd
 ·exact ho _ _ _ _ _ h
def qQ7 : Ex -> List V -> List Obj -> Option (Nat × LI × Int × Int × Int × Int) := fun e vs objs => match e, vs, objs with
 | .exit 0, [.s (.ptr 1 0 none 0), .s (.ptr 2 0 none 0)], [.sli 3 true (.arr .i64 y0 y1), .cells 45 [.one [.i .u64 y2, .i .u64 y3]], .cells 45 [.one [.i .u64 y4, .i .u64 y5]]] => some (y0, y1, y2, y3, y4, y5)
 | _, _, _ => none
def qQ9 : HL := fun vs objs K => match vs, objs with
 | [.s (.ptr 1 0 none 0), .s (.ptr 2 0 none 0), .s (.sl 0 0 x0 true), .s (.i .i64 x1), .s (.i .i64 x2)], [.sli 3 true (.arr .i64 x3 x4), .cells 45 [.one [.i .u64 x5, .i .u64 x6]], .cells 45 [.one [.i .u64 x7, .i .u64 x8]]] => ob (qFl qC x0 x1 x2 x3 x4 x5 x6 x7 x8) fun z => K (.exit 0) ([.s (.ptr 1 0 none 0), .s (.ptr 2 0 none 0)]) ([.sli 3 true (.arr .i64 (z.1) (z.2.1)), .cells 45 [.one [.i .u64 (z.2.2.1), .i .u64 (z.2.2.2.1)]], .cells 45 [.one [.i .u64 (z.2.2.2.2.1), .i .u64 (z.2.2.2.2.2)]]])
 | _, _ => none
def qoU : {R : Type} -> Nat -> List V -> List Obj -> (Ex -> List V -> List Obj -> Option R) -> Option R := fun q vs objs K => bif Nat.beq q 3 then qQ9 vs objs K else none
def qMD : Ctx := mkC 17 ((qEb qL)) [(3, [2, 3, 6, 7, 8], [2, 3])] qoU
theorem qbW : CtxOK Tryz.prog qMD := mkC_ok ((qFn _ qN))
def qQ8 (f : Nat) (x0 : Nat) (x1 x2 : Int) (x3 : Nat) (x4 : LI) (x5 x6 : Int) (x7 x8 : Int) : Option (Nat × LI × Int × Int × Int × Int) := qh qMD 1 [2, 3, 6, 7, 8] [2, 3] (qG Tryz.f88 3) f ([.s (.ptr 1 0 none 0), .s (.ptr 2 0 none 0), .s (.sl 0 0 x0 true), .s (.i .i64 x1), .s (.i .i64 x2)]) ([.sli 3 true (.arr .i64 x3 x4), .cells 45 [.one [.i .u64 x5, .i .u64 x6]], .cells 45 [.one [.i .u64 x7, .i .u64 x8]]]) qQ7
theorem qoT (f : Nat) (x0 : Nat) (x1 x2 : Int) (x3 : Nat) (x4 : LI) (x5 x6 : Int) (x7 x8 : Int) : qQ8 (f + 1) x0 x1 x2 x3 x4 x5 x6 x7 x8 = qII (qQ8 f) x0 x1 x2 x3 x4 x5 x6 x7 x8 := by kernel_rfl
theorem qbY : ∀ f, qQ8 f = qFl f
 | 0 => rfl
 | f + 1 => by funext x0 x1 x2 x3 x4 x5 x6 x7 x8; rw [qoT, qbY f]; rfl
theorem qoW : qf Tryz.prog qMD 1 (qG Tryz.f88 3) :=
 ql mixed qbW (qT.of (l' := []) (by kernel_rfl) trivial) (q := 3) (kin := [2, 3, 6, 7, 8]) (kout := [2, 3]) (by kernel_rfl) (by kernel_rfl) fun vs objs K r h => by
  replace h : qQ9 vs objs K = some r := h
  unfold qQ9 at h
  split at h
  ·skip
   obtain ⟨t, h1, h2⟩ := qE h
   rw [<- qbY] at h1
   refine ⟨_, qQ7, t, qC, h1, fun e vs' objs' hd => ?_⟩
   unfold qQ7 at hd;split at hd;(cases hd;exact h2);cases hd
  ·cases h
def qbX : V -> List Obj -> Option (Int × Int) := fun v objs => match v, objs with
 | .agg [.one [.i .u64 y0, .i .u64 y1]], [] => some (y0, y1)
 | _, _ => none
theorem qoS (x0 x1 : Nat) (x2 : LI) : fnE qMD Tryz.f88 ([.s (.sl 0 0 x0 true)]) ([.sli 3 true (.arr .i64 x1 x2)]) (qAa 1 qbX) = qIH x0 x1 x2 := by kernel_rfl
def qbV : HA := fun o vs objs K => match vs, List.map Obj.toRO objs with
 | [.s (.sl 0 0 x0 true)], [.sli 3 true (.arr .i64 x1 x2)] => ob (qIH x0 x1 x2) fun z => K true (.agg [.one [.i .u64 (z.1), .i .u64 (z.2)]]) ([])
 | _, _ => o 88 vs objs K
def qbZ (o : Orc) : Orc := qM 88 (qbV o) o
theorem qoV : OQ Tryz.prog qbZ := fun _ ho => qP ho fun vs objs K r h => by
 unfold qbV at h
 split at h
 ·skip
  have hq : List.map Obj.toRO objs = _ := (by rename_i hq; first | exact hq | assumption)
  obtain ⟨t, h1, h2⟩ := qE h
  refine qAi mixed qbW (m := 1) (fn := Tryz.f88) (b := (Tryz.f88).body.getD .skip) (by kernel_rfl) (by kernel_rfl) (by kernel_rfl) hq (by kernel_rfl) (by kernel_rfl) (qT.of (l' := [qG Tryz.f88 3]) (by kernel_rfl) ⟨qoW, trivial⟩) ((qoS _ _ _).trans h1) fun v objs' hd => ?_
  unfold qbX at hd;split at hd;(cases hd;exact h2);cases hd
 ·exact ho _ _ _ _ _ h
def qbA : Ctx := mkC 5 (qL) [] qV
theorem qoE : CtxOK Tryz.prog qbA := mkC_ok (qN)
def qbB : V -> List Obj -> Option (Int) := fun v objs => match v, objs with
 | .s (.i .i64 y0), [] => some (y0)
 | _, _ => none
theorem qoD (x0 : Int) : fnE qbA Tryz.f82 ([.s (.i .i64 x0)]) ([]) qbB = qGV x0 := by kernel_rfl
def qa9 : HA := fun o vs objs K => match vs, objs with
 | [.s (.i .i64 x0)], [] => ob (qGV x0) fun y0 => K false (.s (.i .i64 y0)) ([])
 | _, _ => o 82 vs objs K
def qL8 (o : Orc) : Orc := qM 82 (qa9 o) o
theorem qQ0 : OQ Tryz.prog qL8 := fun _ ho => qP ho fun vs objs K r h => by
 unfold qa9 at h
 split at h
 ·skip
  obtain ⟨t, h1, h2⟩ := qE h
  refine qc mixed qoE ((qoD _).trans h1) (by kernel_rfl) fun v objs' hd => ?_
  unfold qbB at hd;split at hd;(cases hd;exact h2);cases hd
 ·exact ho _ _ _ _ _ h
def qbe : Ctx := mkC 5 (qL) [] qV
theorem qoa : CtxOK Tryz.prog qbe := mkC_ok (qN)
def qbf : V -> List Obj -> Option (Int) := fun v objs => match v, objs with
 | .s (.i .i64 y0), [] => some (y0)
 | _, _ => none
theorem qoZ (x0 : Int) : fnE qbe Tryz.f83 ([.s (.i .i64 x0)]) ([]) qbf = qFm x0 := by kernel_rfl
def qbd : HA := fun o vs objs K => match vs, objs with
 | [.s (.i .i64 x0)], [] => ob (qFm x0) fun y0 => K false (.s (.i .i64 y0)) ([])
 | _, _ => o 83 vs objs K
def qME (o : Orc) : Orc := qM 83 (qbd o) o
theorem qRA : OQ Tryz.prog qME := fun _ ho => qP ho fun vs objs K r h => by
 unfold qbd at h
 split at h
 ·skip
  obtain ⟨t, h1, h2⟩ := qE h
  refine qc mixed qoa ((qoZ _).trans h1) (by kernel_rfl) fun v objs' hd => ?_
  unfold qbf at hd;split at hd;(cases hd;exact h2);cases hd
 ·exact ho _ _ _ _ _ h
def qcC : Ctx := mkC 42 ((set_Squareo (qME (qL8 qL)))) [] qV
theorem qpM : CtxOK Tryz.prog qcC := mkC_ok ((set_Squareo_ok _ (qRA _ (qQ0 _ qN))))
def qcD : V -> List Obj -> Option (Int) := fun v objs => match v, objs with
 | .s (.i .i64 y0), [] => some (y0)
 | _, _ => none
theorem qpL (x0 x1 x2 : Int) : fnE qcC Tryz.f108 ([.agg [.one [.i .i64 x0, .i .i64 x1]], .s (.i .i64 x2)]) ([]) qcD = qGb x0 x1 x2 := by kernel_rfl
def qcB : HA := fun o vs objs K => match vs, objs with
 | [.agg [.one [.i .i64 x0, .i .i64 x1]], .s (.i .i64 x2)], [] => ob (qGb x0 x1 x2) fun y0 => K false (.s (.i .i64 y0)) ([])
 | _, _ => o 108 vs objs K
def qRR (o : Orc) : Orc := qM 108 (qcB o) o
theorem qcE : OQ Tryz.prog qRR := fun _ ho => qP ho fun vs objs K r h => by
 unfold qcB at h
 split at h
 ·skip
  obtain ⟨t, h1, h2⟩ := qE h
  refine qc mixed qpM ((qpL _ _ _).trans h1) (by kernel_rfl) fun v objs' hd => ?_
  unfold qcD at hd;split at hd;(cases hd;exact h2);cases hd
 ·exact ho _ _ _ _ _ h
def qa1 : Ctx := mkC 16 (qL) [] qV
theorem qn8 : CtxOK Tryz.prog qa1 := mkC_ok (qN)
def qa2 : V -> List Obj -> Option (Int × Int) := fun v objs => match v, objs with
 | .agg [.one [.i .u64 y0, .i .u64 y1]], [] => some (y0, y1)
 | _, _ => none
theorem qn7 (x0 x1 : Int) (x2 x3 : Int) : fnE qa1 Tryz.f62 ([.agg [.one [.i .u64 x0, .i .u64 x1]], .agg [.one [.i .u64 x2, .i .u64 x3]]]) ([]) qa2 = qCn x0 x1 x2 x3 := by kernel_rfl
def qa0 : HA := fun o vs objs K => match vs, objs with
 | [.agg [.one [.i .u64 x0, .i .u64 x1]], .agg [.one [.i .u64 x2, .i .u64 x3]]], [] => ob (qCn x0 x1 x2 x3) fun z => K false (.agg [.one [.i .u64 (z.1), .i .u64 (z.2)]]) ([])
 | _, _ => o 62 vs objs K
def qFj (o : Orc) : Orc := qM 62 (qa0 o) o
theorem qGT : OQ Tryz.prog qFj := fun _ ho => qP ho fun vs objs K r h => by
 unfold qa0 at h
 split at h
 ·skip
  obtain ⟨t, h1, h2⟩ := qE h
  refine qc mixed qn8 ((qn7 _ _ _ _).trans h1) (by kernel_rfl) fun v objs' hd => ?_
  unfold qa2 at hd;split at hd;(cases hd;exact h2);cases hd
 ·exact ho _ _ _ _ _ h
def qa7 : Ctx := mkC 6 (qL) [] qV
theorem qoC : CtxOK Tryz.prog qa7 := mkC_ok (qN)
def qa8 : V -> List Obj -> Option (Bool) := fun v objs => match v, objs with
 | .s (.b y0), [] => some (y0)
 | _, _ => none
theorem qoB (x0 x1 : Int) : fnE qa7 Tryz.f66 ([.agg [.one [.i .u64 x0, .i .u64 x1]]]) ([]) qa8 = qEZ x0 x1 := by kernel_rfl
def qa6 : HA := fun o vs objs K => match vs, objs with
 | [.agg [.one [.i .u64 x0, .i .u64 x1]]], [] => ob (qEZ x0 x1) fun y0 => K false (.s (.b y0)) ([])
 | _, _ => o 66 vs objs K
def qIE (o : Orc) : Orc := qM 66 (qa6 o) o
theorem qJf : OQ Tryz.prog qIE := fun _ ho => qP ho fun vs objs K r h => by
 unfold qa6 at h
 split at h
 ·skip
  obtain ⟨t, h1, h2⟩ := qE h
  refine qc mixed qoC ((qoB _ _).trans h1) (by kernel_rfl) fun v objs' hd => ?_
  unfold qa8 at hd;split at hd;(cases hd;exact h2);cases hd
 ·exact ho _ _ _ _ _ h
def qbG : Ctx := mkC 11 ((qIE (qFj (qMJ qL)))) [] qV
theorem qoI : CtxOK Tryz.prog qbG := mkC_ok ((qJf _ (qGT _ (qRI _ qN))))
def qbH : V -> List Obj -> Option (Bool) := fun v objs => match v, objs with
 | .s (.b y0), [] => some (y0)
 | _, _ => none
theorem qoH (x0 x1 x2 : Int) : fnE qbG Tryz.f67 ([.agg [.one [.i .u64 x0, .i .u64 x1]], .s (.i .i64 x2)]) ([]) qbH = qCA x0 x1 x2 := by kernel_rfl
def qbF : HA := fun o vs objs K => match vs, objs with
 | [.agg [.one [.i .u64 x0, .i .u64 x1]], .s (.i .i64 x2)], [] => ob (qCA x0 x1 x2) fun y0 => K false (.s (.b y0)) ([])
 | _, _ => o 67 vs objs K
def qGX (o : Orc) : Orc := qM 67 (qbF o) o
theorem qIF : OQ Tryz.prog qGX := fun _ ho => qP ho fun vs objs K r h => by
 unfold qbF at h
 split at h
 ·skip
  obtain ⟨t, h1, h2⟩ := qE h
  refine qc mixed qoI ((qoH _ _ _).trans h1) (by kernel_rfl) fun v objs' hd => ?_
  unfold qbH at hd;split at hd;(cases hd;exact h2);cases hd
 ·exact ho _ _ _ _ _ h
def qPr : Ex -> List V -> List Obj -> Option (Int × Int × Int × Int) := fun e vs objs => match e, vs, objs with
 | .exit 0, [.s (.ptr 0 0 none 0), .s (.ptr 1 0 none 0)], [.cells 45 [.one [.i .u64 y0, .i .u64 y1]], .cells 45 [.one [.i .u64 y2, .i .u64 y3]]] => some (y0, y1, y2, y3)
 | _, _, _ => none
def qPu : HL := fun vs objs K => match vs, objs with
 | [.s (.i .i64 x0), .s (.ptr 0 0 none 0), .s (.ptr 1 0 none 0), .s (.ptr 2 0 none 0), .s (.ptr 3 0 none 0)], [.cells 118 [.one [.i .i64 x1, .i .i64 x2]], .cells 45 [.one [.i .u64 x3, .i .u64 x4]], .cells 45 [.one [.i .u64 x5, .i .u64 x6]], .cells 45 [.one [.i .u64 x7, .i .u64 x8]]] => ob (qGO qC x0 x1 x2 x3 x4 x5 x6 x7 x8) fun z => K (.exit 0) ([.s (.ptr 0 0 none 0), .s (.ptr 1 0 none 0)]) ([.cells 45 [.one [.i .u64 (z.1), .i .u64 (z.2.1)]], .cells 45 [.one [.i .u64 (z.2.2.1), .i .u64 (z.2.2.2)]]])
 | _, _ => none
def qlh : {R : Type} -> Nat -> List V -> List Obj -> (Ex -> List V -> List Obj -> Option R) -> Option R := fun q vs objs K => bif Nat.beq q 5 then qPu vs objs K else none
def qLj : Ctx := mkC 27 ((qGX (qEb (qRR qL)))) [(5, [0, 4, 5, 6, 7], [6, 7])] qlh
theorem qYa : CtxOK Tryz.prog qLj := mkC_ok ((qIF _ (qFn _ (qcE _ qN))))
def qPs (f : Nat) (x0 x1 : Int) (x2 x3 : Int) (x4 x5 : Int) (x6 x7 x8 : Int) : Option (Int × Int × Int × Int) := qh qLj 0 [0, 4, 5, 6, 7] [6, 7] (qG Tryz.f87 5) f ([.s (.i .i64 x0), .s (.ptr 0 0 none 0), .s (.ptr 1 0 none 0), .s (.ptr 2 0 none 0), .s (.ptr 3 0 none 0)]) ([.cells 118 [.one [.i .i64 x1, .i .i64 x2]], .cells 45 [.one [.i .u64 x3, .i .u64 x4]], .cells 45 [.one [.i .u64 x5, .i .u64 x6]], .cells 45 [.one [.i .u64 x7, .i .u64 x8]]]) qPr
theorem qlg (f : Nat) (x0 x1 : Int) (x2 x3 : Int) (x4 x5 : Int) (x6 x7 x8 : Int) : qPs (f + 1) x0 x1 x2 x3 x4 x5 x6 x7 x8 = qHm (qPs f) x0 x1 x2 x3 x4 x5 x6 x7 x8 := by kernel_rfl
theorem qYc : ∀ f, qPs f = qGO f
 | 0 => rfl
 | f + 1 => by funext x0 x1 x2 x3 x4 x5 x6 x7 x8; rw [qlg, qYc f]; rfl
theorem qli : qf Tryz.prog qLj 0 (qG Tryz.f87 5) :=
 ql mixed qYa (qT.of (l' := []) (by kernel_rfl) trivial) (q := 5) (kin := [0, 4, 5, 6, 7]) (kout := [6, 7]) (by kernel_rfl) (by kernel_rfl) fun vs objs K r h => by
  replace h : qPu vs objs K = some r := h
  unfold qPu at h
  split at h
  ·skip
   obtain ⟨t, h1, h2⟩ := qE h
   rw [<- qYc] at h1
   refine ⟨_, qPr, t, qC, h1, fun e vs' objs' hd => ?_⟩
   unfold qPr at hd;split at hd;(cases hd;exact h2);cases hd
  ·cases h
def qYb : V -> List Obj -> Option (Int × Int) := fun v objs => match v, objs with
 | .agg [.one [.i .u64 y0, .i .u64 y1]], [] => some (y0, y1)
 | _, _ => none
theorem qlf (x0 x1 : Int) (x2 x3 x4 : Int) : fnE qLj Tryz.f87 ([.s (.i .i64 x0), .agg [.one [.i .i64 x1, .i .i64 x2]], .agg [.one [.i .u64 x3, .i .u64 x4]]]) ([]) qYb = qHl x0 x1 x2 x3 x4 := by kernel_rfl
def qYZ : HA := fun o vs objs K => match vs, objs with
 | [.s (.i .i64 x0), .agg [.one [.i .i64 x1, .i .i64 x2]], .agg [.one [.i .u64 x3, .i .u64 x4]]], [] => ob (qHl x0 x1 x2 x3 x4) fun z => K false (.agg [.one [.i .u64 (z.1), .i .u64 (z.2)]]) ([])
 | _, _ => o 87 vs objs K
def qPt (o : Orc) : Orc := qM 87 (qYZ o) o
theorem qYd : OQ Tryz.prog qPt := fun _ ho => qP ho fun vs objs K r h => by
 unfold qYZ at h
 split at h
 ·skip
  obtain ⟨t, h1, h2⟩ := qE h
  refine qAY mixed qYa (fn := Tryz.f87) (b := (Tryz.f87).body.getD .skip) (by kernel_rfl) (by kernel_rfl) (by kernel_rfl) ((qlf _ _ _ _ _).trans h1) (m := 0) rfl (qT.of (l' := [qG Tryz.f87 5]) (by kernel_rfl) ⟨qli, trivial⟩) fun v objs' hd => ?_
  unfold qYb at hd;split at hd;(cases hd;exact h2);cases hd
 ·exact ho _ _ _ _ _ h
def qPi : Ex -> List V -> List Obj -> Option ((Int × Int) ⊕ (Int × Int)) := fun e vs objs => match e, vs, objs with
 | .ret, [.s (.ptr 0 0 none 0)], [.cells 45 [.one [.i .u64 y0, .i .u64 y1]]] => some (.inl (y0, y1))
 | .exit 0, [.s (.ptr 0 0 none 0)], [.cells 45 [.one [.i .u64 y0, .i .u64 y1]]] => some (.inr (y0, y1))
 | _, _, _ => none
def qPl : HL := fun vs objs K => match vs, objs with
 | [.s (.i .i64 x0), .s (.i .i64 x1), .s (.ptr 0 0 none 0), .s (.sl 1 0 x2 true), .s (.i .i64 x3), .s (.i .i64 x4)], [.cells 45 [.one [.i .u64 x5, .i .u64 x6]], .sli 118 false (.rows [.i .i64, .i .i64] x7 x8)] => ob (qFR qC x0 x1 x2 x3 x4 x5 x6 x7 x8) fun t0 => sw t0 (fun z => K (.ret) ([.s (.ptr 0 0 none 0)]) ([.cells 45 [.one [.i .u64 (z.1), .i .u64 (z.2)]]])) (fun z => K (.exit 0) ([.s (.ptr 0 0 none 0)]) ([.cells 45 [.one [.i .u64 (z.1), .i .u64 (z.2)]]]))
 | _, _ => none
def qlX : {R : Type} -> Nat -> List V -> List Obj -> (Ex -> List V -> List Obj -> Option R) -> Option R := fun q vs objs K => bif Nat.beq q 2 then qPl vs objs K else none
def qLg : Ctx := mkC 30 ((qJi (qGX (qPt (qbZ (qPm qL)))))) [(2, [0, 1, 4, 10, 11, 12], [4])] qlX
theorem qYN : CtxOK Tryz.prog qLg := mkC_ok ((qMI _ (qIF _ (qYd _ (qoV _ (qYU _ qN))))))
def qPj (f : Nat) (x0 x1 : Int) (x2 : Nat) (x3 x4 : Int) (x5 x6 : Int) (x7 : Nat) (x8 : LL) : Option ((Int × Int) ⊕ (Int × Int)) := qh qLg 0 [0, 1, 4, 10, 11, 12] [4] (qG Tryz.f53 2) f ([.s (.i .i64 x0), .s (.i .i64 x1), .s (.ptr 0 0 none 0), .s (.sl 1 0 x2 true), .s (.i .i64 x3), .s (.i .i64 x4)]) ([.cells 45 [.one [.i .u64 x5, .i .u64 x6]], .sli 118 false (.rows [.i .i64, .i .i64] x7 x8)]) qPi
theorem qlW (f : Nat) (x0 x1 : Int) (x2 : Nat) (x3 x4 : Int) (x5 x6 : Int) (x7 : Nat) (x8 : LL) : qPj (f + 1) x0 x1 x2 x3 x4 x5 x6 x7 x8 = qHj (qPj f) x0 x1 x2 x3 x4 x5 x6 x7 x8 := by kernel_rfl
theorem qYP : ∀ f, qPj f = qFR f
 | 0 => rfl
 | f + 1 => by funext x0 x1 x2 x3 x4 x5 x6 x7 x8; rw [qlW, qYP f]; rfl
theorem qlY : qf Tryz.prog qLg 0 (qG Tryz.f53 2) :=
 ql mixed qYN (qT.of (l' := []) (by kernel_rfl) trivial) (q := 2) (kin := [0, 1, 4, 10, 11, 12]) (kout := [4]) (by kernel_rfl) (by kernel_rfl) fun vs objs K r h => by
  replace h : qPl vs objs K = some r := h
  unfold qPl at h
  split at h
  ·skip
   obtain ⟨t, h1, h2⟩ := qE h
   rw [<- qYP] at h1
   refine ⟨_, qPi, t, qC, h1, fun e vs' objs' hd => ?_⟩
   unfold qPi at hd
   split at hd
   ·skip
    cases hd
    exact h2
   ·skip
    cases hd
    exact h2
   ·cases hd
  ·cases h
def qYO : V -> List Obj -> Option (Int × Int) := fun v objs => match v, objs with
 | .agg [.one [.i .u64 y0, .i .u64 y1]], [] => some (y0, y1)
 | _, _ => none
theorem qlV (x0 x1 : Int) : fnE qLg Tryz.f53 ([.s (.i .i64 x0), .s (.i .i64 x1)]) ([]) qYO = qHi x0 x1 := by kernel_rfl
def qYM : HA := fun o vs objs K => match vs, objs with
 | [.s (.i .i64 x0), .s (.i .i64 x1)], [] => ob (qHi x0 x1) fun z => K false (.agg [.one [.i .u64 (z.1), .i .u64 (z.2)]]) ([])
 | _, _ => o 53 vs objs K
def qPk (o : Orc) : Orc := qM 53 (qYM o) o
theorem qYQ : OQ Tryz.prog qPk := fun _ ho => qP ho fun vs objs K r h => by
 unfold qYM at h
 split at h
 ·skip
  obtain ⟨t, h1, h2⟩ := qE h
  refine qAY mixed qYN (fn := Tryz.f53) (b := (Tryz.f53).body.getD .skip) (by kernel_rfl) (by kernel_rfl) (by kernel_rfl) ((qlV _ _).trans h1) (m := 0) rfl (qT.of (l' := [qG Tryz.f53 2]) (by kernel_rfl) ⟨qlY, trivial⟩) fun v objs' hd => ?_
  unfold qYO at hd;split at hd;(cases hd;exact h2);cases hd
 ·exact ho _ _ _ _ _ h
def qTR : Ctx := mkC 14 ((qGY qL)) [] qV
theorem qey : CtxOK Tryz.prog qTR := mkC_ok ((qIJ _ qN))
def qTS : V -> List Obj -> Option (Int × Int) := fun v objs => match v, objs with
 | .agg [.one [.i .u64 y0, .i .u64 y1]], [] => some (y0, y1)
 | _, _ => none
theorem qex (x0 x1 : LI) (x2 : Int) (x3 x4 : LL) : fnE qTR Tryz.f60 ([.s (.ptr 0 0 none 0)]) ([.rcells 49 [.arr .i8 81 x0, .arr .i8 16 x1, .one [.i .i8 x2], .rows [.i .u64, .i .u64] 32 x3, .rows [.i .u64, .i .u64] 2 x4]]) (qAa 1 qTS) = qCw x0 x1 x2 x3 x4 := by kernel_rfl
def qTQ : HA := fun o vs objs K => match vs, List.map Obj.toRO objs with
 | [.s (.ptr 0 0 none 0)], [.rcells 49 [.arr .i8 81 x0, .arr .i8 16 x1, .one [.i .i8 x2], .rows [.i .u64, .i .u64] 32 x3, .rows [.i .u64, .i .u64] 2 x4]] => ob (qCw x0 x1 x2 x3 x4) fun z => K true (.agg [.one [.i .u64 (z.1), .i .u64 (z.2)]]) ([])
 | _, _ => o 60 vs objs K
def qGv (o : Orc) : Orc := qM 60 (qTQ o) o
theorem qIj : OQ Tryz.prog qGv := fun _ ho => qP ho fun vs objs K r h => by
 unfold qTQ at h
 split at h
 ·skip
  have hq : List.map Obj.toRO objs = _ := (by rename_i hq; first | exact hq | assumption)
  obtain ⟨t, h1, h2⟩ := qE h
  refine qAi mixed qey (m := 1) (fn := Tryz.f60) (b := (Tryz.f60).body.getD .skip) (by kernel_rfl) (by kernel_rfl) (by kernel_rfl) hq (by kernel_rfl) (by kernel_rfl) (qT.of (l' := []) (by kernel_rfl) trivial) ((qex _ _ _ _ _).trans h1) fun v objs' hd => ?_
  unfold qTS at hd;split at hd;(cases hd;exact h2);cases hd
 ·exact ho _ _ _ _ _ h
def qSc : Ctx := mkC 35 (qL) [] qV
theorem qeC : CtxOK Tryz.prog qSc := mkC_ok (qN)
def qSd : V -> List Obj -> Option (Int) := fun v objs => match v, objs with
 | .s (.i .i64 y0), [] => some (y0)
 | _, _ => none
theorem qeB (x0 : Int) : fnE qSc Tryz.f85 ([.s (.i .u64 x0)]) ([]) qSd = qFz x0 := by kernel_rfl
def qSb : HA := fun o vs objs K => match vs, objs with
 | [.s (.i .u64 x0)], [] => ob (qFz x0) fun y0 => K false (.s (.i .i64 y0)) ([])
 | _, _ => o 85 vs objs K
def qSe (o : Orc) : Orc := qM 85 (qSb o) o
theorem qeD : OQ Tryz.prog qSe := fun _ ho => qP ho fun vs objs K r h => by
 unfold qSb at h
 split at h
 ·skip
  obtain ⟨t, h1, h2⟩ := qE h
  refine qc mixed qeC ((qeB _).trans h1) (by kernel_rfl) fun v objs' hd => ?_
  unfold qSd at hd;split at hd;(cases hd;exact h2);cases hd
 ·exact ho _ _ _ _ _ h
def qa4 : Ctx := mkC 10 ((qSe qL)) [] qV
theorem qoA : CtxOK Tryz.prog qa4 := mkC_ok ((qeD _ qN))
def qa5 : V -> List Obj -> Option (Int) := fun v objs => match v, objs with
 | .s (.i .i64 y0), [] => some (y0)
 | _, _ => none
theorem qn9 (x0 x1 : Int) : fnE qa4 Tryz.f52 ([.agg [.one [.i .u64 x0, .i .u64 x1]]]) ([]) qa5 = qGU x0 x1 := by kernel_rfl
def qa3 : HA := fun o vs objs K => match vs, objs with
 | [.agg [.one [.i .u64 x0, .i .u64 x1]]], [] => ob (qGU x0 x1) fun y0 => K false (.s (.i .i64 y0)) ([])
 | _, _ => o 52 vs objs K
def qL7 (o : Orc) : Orc := qM 52 (qa3 o) o
theorem qQz : OQ Tryz.prog qL7 := fun _ ho => qP ho fun vs objs K r h => by
 unfold qa3 at h
 split at h
 ·skip
  obtain ⟨t, h1, h2⟩ := qE h
  refine qc mixed qoA ((qn9 _ _).trans h1) (by kernel_rfl) fun v objs' hd => ?_
  unfold qa5 at hd;split at hd;(cases hd;exact h2);cases hd
 ·exact ho _ _ _ _ _ h
def qS9 : Ctx := mkC 18 (qL) [] qV
theorem qek : CtxOK Tryz.prog qS9 := mkC_ok (qN)
def qTA : V -> List Obj -> Option (Int × Int) := fun v objs => match v, objs with
 | .agg [.one [.i .u64 y0, .i .u64 y1]], [] => some (y0, y1)
 | _, _ => none
theorem qej (x0 : Int) (x1 x2 : LI) (x3 : Int) (x4 x5 : LL) : fnE qS9 Tryz.f57 ([.s (.ptr 0 0 none 0), .s (.i .i64 x0)]) ([.rcells 49 [.arr .i8 81 x1, .arr .i8 16 x2, .one [.i .i8 x3], .rows [.i .u64, .i .u64] 32 x4, .rows [.i .u64, .i .u64] 2 x5]]) (qAa 1 qTA) = qF3 x0 x1 x2 x3 x4 x5 := by kernel_rfl
def qS8 : HA := fun o vs objs K => match vs, List.map Obj.toRO objs with
 | [.s (.ptr 0 0 none 0), .s (.i .i64 x0)], [.rcells 49 [.arr .i8 81 x1, .arr .i8 16 x2, .one [.i .i8 x3], .rows [.i .u64, .i .u64] 32 x4, .rows [.i .u64, .i .u64] 2 x5]] => ob (qF3 x0 x1 x2 x3 x4 x5) fun z => K true (.agg [.one [.i .u64 (z.1), .i .u64 (z.2)]]) ([])
 | _, _ => o 57 vs objs K
def qNQ (o : Orc) : Orc := qM 57 (qS8 o) o
theorem qTB : OQ Tryz.prog qNQ := fun _ ho => qP ho fun vs objs K r h => by
 unfold qS8 at h
 split at h
 ·skip
  have hq : List.map Obj.toRO objs = _ := (by rename_i hq; first | exact hq | assumption)
  obtain ⟨t, h1, h2⟩ := qE h
  refine qAi mixed qek (m := 1) (fn := Tryz.f57) (b := (Tryz.f57).body.getD .skip) (by kernel_rfl) (by kernel_rfl) (by kernel_rfl) hq (by kernel_rfl) (by kernel_rfl) (qT.of (l' := []) (by kernel_rfl) trivial) ((qej _ _ _ _ _ _).trans h1) fun v objs' hd => ?_
  unfold qTA at hd;split at hd;(cases hd;exact h2);cases hd
 ·exact ho _ _ _ _ _ h
def qSi : Ctx := mkC 18 (qL) [] qV
theorem qeK : CtxOK Tryz.prog qSi := mkC_ok (qN)
def qSj : V -> List Obj -> Option (Int) := fun v objs => match v, objs with
 | .s (.i .i8 y0), [] => some (y0)
 | _, _ => none
theorem qeJ (x0 : Int) (x1 x2 : LI) (x3 : Int) (x4 x5 : LL) : fnE qSi Tryz.f39 ([.s (.ptr 0 0 none 0), .s (.i .i64 x0)]) ([.rcells 49 [.arr .i8 81 x1, .arr .i8 16 x2, .one [.i .i8 x3], .rows [.i .u64, .i .u64] 32 x4, .rows [.i .u64, .i .u64] 2 x5]]) (qAa 1 qSj) = qAc x0 x1 x2 x3 x4 x5 := by kernel_rfl
def qSh : HA := fun o vs objs K => match vs, List.map Obj.toRO objs with
 | [.s (.ptr 0 0 none 0), .s (.i .i64 x0)], [.rcells 49 [.arr .i8 81 x1, .arr .i8 16 x2, .one [.i .i8 x3], .rows [.i .u64, .i .u64] 32 x4, .rows [.i .u64, .i .u64] 2 x5]] => ob (qAc x0 x1 x2 x3 x4 x5) fun y0 => K true (.s (.i .i8 y0)) ([])
 | _, _ => o 39 vs objs K
def qF0 (o : Orc) : Orc := qM 39 (qSh o) o
theorem qGq : OQ Tryz.prog qF0 := fun _ ho => qP ho fun vs objs K r h => by
 unfold qSh at h
 split at h
 ·skip
  have hq : List.map Obj.toRO objs = _ := (by rename_i hq; first | exact hq | assumption)
  obtain ⟨t, h1, h2⟩ := qE h
  refine qAi mixed qeK (m := 1) (fn := Tryz.f39) (b := (Tryz.f39).body.getD .skip) (by kernel_rfl) (by kernel_rfl) (by kernel_rfl) hq (by kernel_rfl) (by kernel_rfl) (qT.of (l' := []) (by kernel_rfl) trivial) ((qeJ _ _ _ _ _ _).trans h1) fun v objs' hd => ?_
  unfold qSj at hd;split at hd;(cases hd;exact h2);cases hd
 ·exact ho _ _ _ _ _ h
def qGd (n : Nat) {R : Type} (o : Orc) (vs : List V) (objs : List Obj) (K : Bool -> V -> List Obj -> Option R) : Option R := match vs, objs with
 | [.s (.i .i64 x0)], [] => ob (qGc n x0) fun z => K false (.s (.sl 0 0 (z.1) true)) ([.sli 118 false (.rows [.i .i64, .i .i64] (z.2.1) (z.2.2))])
 | _, _ => o 109 vs objs K
def qRT (n : Nat) (o : Orc) : Orc := fun f vs objs K => bif Nat.beq f 109 then qGd n o vs objs K else o f vs objs K
def qpS (n : Nat) : Orc := qRT n qL
def qcJ (n : Nat) : Ctx := mkC 57 (qpS n) [] qV
def qcK : V -> List Obj -> Option (Nat × Nat × LL) := fun v objs => match v, objs with
 | .s (.sl 0 0 y0 true), [.sli 118 false (.rows [.i .i64, .i .i64] y1 y2)] => some (y0, y1, y2)
 | _, _ => none
theorem qpP (n : Nat) (x0 : Int) : fnE (qcJ n) Tryz.f109 ([.s (.i .i64 x0)]) ([]) qcK = qGc (n + 1) x0 := by kernel_rfl
theorem qpQ (n : Nat) (hc : CtxOK Tryz.prog (qcJ n)) {vs : List V} {objs : List Obj} (x0 : Int) {R : Type} {K : Bool -> V -> List Obj -> Option R} {r : R} (hv : vs = [.s (.i .i64 x0)]) (ho : objs = []) (h : ob (qGc (n + 1) x0) (fun z => K false (.s (.sl 0 0 (z.1) true)) ([.sli 118 false (.rows [.i .i64, .i .i64] (z.2.1) (z.2.2))])) = some r) :
  ∃ p v objs', K p v objs' = some r /\ qEm Tryz.prog 109 vs objs p v objs' := by
 subst hv
 subst ho
 obtain ⟨t, h1, h2⟩ := qE h
 refine qMj mixed hc (objs := []) (fn := Tryz.f109) (b := (Tryz.f109).body.getD .skip) (by kernel_rfl) (by kernel_rfl) (by kernel_rfl) (qT.of (l' := []) (by kernel_rfl) trivial) ((qpP n x0).trans h1) fun v objs' hd => ?_
 unfold qcK at hd;split at hd;(cases hd;exact h2);cases hd
theorem qpR : ∀ (n : Nat) (o : Orc) (ho : qCr Tryz.prog o), qCr Tryz.prog (qRT n o) := by
 intro n
 induction n with
 | zero =>
   intro o ho R f vs objs K r h
   replace h : (bif Nat.beq f 109 then qGd 0 o vs objs K else o f vs objs K) = some r := h
   cases hf : Nat.beq f 109 with
   | false => rw [hf] at h; exact ho f vs objs K r h
   | true =>
     rw [hf] at h
     have e := Nat.eq_of_beq_eq_true hf
     subst e
     replace h : qGd 0 o vs objs K = some r := h
     unfold qGd at h
     split at h
     ·skip
      cases h
     ·exact ho _ _ _ _ _ h
 | succ n ih =>
   intro o ho R f vs objs K r h
   replace h : (bif Nat.beq f 109 then qGd (n + 1) o vs objs K else o f vs objs K) = some r := h
   cases hf : Nat.beq f 109 with
   | false => rw [hf] at h; exact ho f vs objs K r h
   | true =>
     rw [hf] at h
     have e := Nat.eq_of_beq_eq_true hf
     subst e
     replace h : qGd (n + 1) o vs objs K = some r := h
     unfold qGd at h
     split at h
     ·skip
      exact qpQ n ⟨tab_ok, ih _ qN, eqs_ok, bytes_ok, fun _ _ _ => rfl⟩ _ rfl rfl h
     ·exact ho _ _ _ _ _ h
def qcG : Ctx := mkC 15 (qL) [] qV
theorem qpO : CtxOK Tryz.prog qcG := mkC_ok (qN)
def qcH : V -> List Obj -> Option (Int × Int) := fun v objs => match v, objs with
 | .agg [.one [.i .i64 y0, .i .i64 y1]], [] => some (y0, y1)
 | _, _ => none
theorem qpN (x0 x1 x2 : Int) : fnE qcG Tryz.f91 ([.agg [.one [.i .i64 x0, .i .i64 x1]], .s (.i .i64 x2)]) ([]) qcH = qFp x0 x1 x2 := by kernel_rfl
def qcF : HA := fun o vs objs K => match vs, objs with
 | [.agg [.one [.i .i64 x0, .i .i64 x1]], .s (.i .i64 x2)], [] => ob (qFp x0 x1 x2) fun z => K false (.agg [.one [.i .i64 (z.1), .i .i64 (z.2)]]) ([])
 | _, _ => o 91 vs objs K
def qRS (o : Orc) : Orc := qM 91 (qcF o) o
theorem qcI : OQ Tryz.prog qRS := fun _ ho => qP ho fun vs objs K r h => by
 unfold qcF at h
 split at h
 ·skip
  obtain ⟨t, h1, h2⟩ := qE h
  refine qc mixed qpO ((qpN _ _ _).trans h1) (by kernel_rfl) fun v objs' hd => ?_
  unfold qcH at hd;split at hd;(cases hd;exact h2);cases hd
 ·exact ho _ _ _ _ _ h
def qRV : Ex -> List V -> List Obj -> Option (Int × Int × Int × Int) := fun e vs objs => match e, vs, objs with
 | .exit 0, [.s (.ptr 0 0 none 0), .s (.ptr 1 0 none 0)], [.cells 45 [.one [.i .u64 y0, .i .u64 y1]], .cells 45 [.one [.i .u64 y2, .i .u64 y3]]] => some (y0, y1, y2, y3)
 | _, _, _ => none
def qRX : HL := fun vs objs K => match vs, objs with
 | [.s (.i .i8 x0), .s (.i .i64 x1), .s (.ptr 0 0 none 0), .s (.ptr 1 0 none 0), .s (.sl 2 0 x2 true), .s (.i .i64 x3), .s (.i .i64 x4)], [.cells 45 [.one [.i .u64 x5, .i .u64 x6]], .cells 45 [.one [.i .u64 x7, .i .u64 x8]], .sli 118 false (.rows [.i .i64, .i .i64] x9 x10)] => ob (qFr qC x0 x1 x2 x3 x4 x5 x6 x7 x8 x9 x10) fun z => K (.exit 0) ([.s (.ptr 0 0 none 0), .s (.ptr 1 0 none 0)]) ([.cells 45 [.one [.i .u64 (z.1), .i .u64 (z.2.1)]], .cells 45 [.one [.i .u64 (z.2.2.1), .i .u64 (z.2.2.2)]]])
 | _, _ => none
def qpY : {R : Type} -> Nat -> List V -> List Obj -> (Ex -> List V -> List Obj -> Option R) -> Option R := fun q vs objs K => bif Nat.beq q 3 then qRX vs objs K else none
def qMR : Ctx := mkC 26 ((qEb (qRR (qRS (qDe (qRT qC (qCP qL))))))) [(3, [0, 1, 4, 5, 10, 11, 12], [4, 5])] qpY
theorem qcQ : CtxOK Tryz.prog qMR := mkC_ok ((qFn _ (qcE _ (qcI _ (qEH _ (qpR qC _ (qCi _ qN)))))))
def qRW (f : Nat) (x0 x1 : Int) (x2 : Nat) (x3 x4 : Int) (x5 x6 : Int) (x7 x8 : Int) (x9 : Nat) (x10 : LL) : Option (Int × Int × Int × Int) := qh qMR 0 [0, 1, 4, 5, 10, 11, 12] [4, 5] (qG Tryz.f90 3) f ([.s (.i .i8 x0), .s (.i .i64 x1), .s (.ptr 0 0 none 0), .s (.ptr 1 0 none 0), .s (.sl 2 0 x2 true), .s (.i .i64 x3), .s (.i .i64 x4)]) ([.cells 45 [.one [.i .u64 x5, .i .u64 x6]], .cells 45 [.one [.i .u64 x7, .i .u64 x8]], .sli 118 false (.rows [.i .i64, .i .i64] x9 x10)]) qRV
theorem qpX (f : Nat) (x0 x1 : Int) (x2 : Nat) (x3 x4 : Int) (x5 x6 : Int) (x7 x8 : Int) (x9 : Nat) (x10 : LL) : qRW (f + 1) x0 x1 x2 x3 x4 x5 x6 x7 x8 x9 x10 = qIR (qRW f) x0 x1 x2 x3 x4 x5 x6 x7 x8 x9 x10 := by kernel_rfl
theorem qcS : ∀ f, qRW f = qFr f
 | 0 => rfl
 | f + 1 => by funext x0 x1 x2 x3 x4 x5 x6 x7 x8 x9 x10; rw [qpX, qcS f]; rfl
theorem qpa : qf Tryz.prog qMR 0 (qG Tryz.f90 3) :=
 ql mixed qcQ (qT.of (l' := []) (by kernel_rfl) trivial) (q := 3) (kin := [0, 1, 4, 5, 10, 11, 12]) (kout := [4, 5]) (by kernel_rfl) (by kernel_rfl) fun vs objs K r h => by
  replace h : qRX vs objs K = some r := h
  unfold qRX at h
  split at h
  ·skip
   obtain ⟨t, h1, h2⟩ := qE h
   rw [<- qcS] at h1
   refine ⟨_, qRV, t, qC, h1, fun e vs' objs' hd => ?_⟩
   unfold qRV at hd;split at hd;(cases hd;exact h2);cases hd
  ·cases h
def qcR : V -> List Obj -> Option (Int × Int) := fun v objs => match v, objs with
 | .agg [.one [.i .u64 y0, .i .u64 y1]], [] => some (y0, y1)
 | _, _ => none
theorem qpW (x0 x1 : Int) : fnE qMR Tryz.f90 ([.s (.i .i8 x0), .s (.i .i64 x1)]) ([]) qcR = qJl x0 x1 := by kernel_rfl
def qcP : HA := fun o vs objs K => match vs, objs with
 | [.s (.i .i8 x0), .s (.i .i64 x1)], [] => ob (qJl x0 x1) fun z => K false (.agg [.one [.i .u64 (z.1), .i .u64 (z.2)]]) ([])
 | _, _ => o 90 vs objs K
def qcT (o : Orc) : Orc := qM 90 (qcP o) o
theorem qpZ : OQ Tryz.prog qcT := fun _ ho => qP ho fun vs objs K r h => by
 unfold qcP at h
 split at h
 ·skip
  obtain ⟨t, h1, h2⟩ := qE h
  refine qAY mixed qcQ (fn := Tryz.f90) (b := (Tryz.f90).body.getD .skip) (by kernel_rfl) (by kernel_rfl) (by kernel_rfl) ((qpW _ _).trans h1) (m := 0) rfl (qT.of (l' := [qG Tryz.f90 3]) (by kernel_rfl) ⟨qpa, trivial⟩) fun v objs' hd => ?_
  unfold qcR at hd;split at hd;(cases hd;exact h2);cases hd
 ·exact ho _ _ _ _ _ h
def qPn : Ex -> List V -> List Obj -> Option (Int × Int × Int × Int) := fun e vs objs => match e, vs, objs with
 | .exit 0, [.s (.ptr 0 0 none 0), .s (.ptr 1 0 none 0)], [.cells 45 [.one [.i .u64 y0, .i .u64 y1]], .cells 45 [.one [.i .u64 y2, .i .u64 y3]]] => some (y0, y1, y2, y3)
 | _, _, _ => none
def qPq : HL := fun vs objs K => match vs, objs with
 | [.s (.i .i8 x0), .s (.i .i64 x1), .s (.ptr 0 0 none 0), .s (.ptr 1 0 none 0), .s (.ptr 2 0 none 0), .s (.sl 3 0 x2 true), .s (.i .i64 x3), .s (.i .i64 x4)], [.cells 45 [.one [.i .u64 x5, .i .u64 x6]], .cells 45 [.one [.i .u64 x7, .i .u64 x8]], .cells 45 [.one [.i .u64 x9, .i .u64 x10]], .sli 118 false (.rows [.i .i64, .i .i64] x11 x12)] => ob (qFT qC x0 x1 x2 x3 x4 x5 x6 x7 x8 x9 x10 x11 x12) fun z => K (.exit 0) ([.s (.ptr 0 0 none 0), .s (.ptr 1 0 none 0)]) ([.cells 45 [.one [.i .u64 (z.1), .i .u64 (z.2.1)]], .cells 45 [.one [.i .u64 (z.2.2.1), .i .u64 (z.2.2.2)]]])
 | _, _ => none
def qld : {R : Type} -> Nat -> List V -> List Obj -> (Ex -> List V -> List Obj -> Option R) -> Option R := fun q vs objs K => bif Nat.beq q 3 then qPq vs objs K else none
def qLh : Ctx := mkC 32 ((qGY (qPt (qRS (qDe (qPm (qCP (qcT qL)))))))) [(3, [0, 1, 5, 6, 7, 15, 16, 17], [6, 7])] qld
theorem qYW : CtxOK Tryz.prog qLh := mkC_ok ((qIJ _ (qYd _ (qcI _ (qEH _ (qYU _ (qCi _ (qpZ _ qN))))))))
def qPo (f : Nat) (x0 x1 : Int) (x2 : Nat) (x3 x4 : Int) (x5 x6 : Int) (x7 x8 : Int) (x9 x10 : Int) (x11 : Nat) (x12 : LL) : Option (Int × Int × Int × Int) := qh qLh 0 [0, 1, 5, 6, 7, 15, 16, 17] [6, 7] (qG Tryz.f59 3) f ([.s (.i .i8 x0), .s (.i .i64 x1), .s (.ptr 0 0 none 0), .s (.ptr 1 0 none 0), .s (.ptr 2 0 none 0), .s (.sl 3 0 x2 true), .s (.i .i64 x3), .s (.i .i64 x4)]) ([.cells 45 [.one [.i .u64 x5, .i .u64 x6]], .cells 45 [.one [.i .u64 x7, .i .u64 x8]], .cells 45 [.one [.i .u64 x9, .i .u64 x10]], .sli 118 false (.rows [.i .i64, .i .i64] x11 x12)]) qPn
theorem qlc (f : Nat) (x0 x1 : Int) (x2 : Nat) (x3 x4 : Int) (x5 x6 : Int) (x7 x8 : Int) (x9 x10 : Int) (x11 : Nat) (x12 : LL) : qPo (f + 1) x0 x1 x2 x3 x4 x5 x6 x7 x8 x9 x10 x11 x12 = qHk (qPo f) x0 x1 x2 x3 x4 x5 x6 x7 x8 x9 x10 x11 x12 := by kernel_rfl
theorem qYY : ∀ f, qPo f = qFT f
 | 0 => rfl
 | f + 1 => by funext x0 x1 x2 x3 x4 x5 x6 x7 x8 x9 x10 x11 x12; rw [qlc, qYY f]; rfl
theorem qle : qf Tryz.prog qLh 0 (qG Tryz.f59 3) :=
 ql mixed qYW (qT.of (l' := []) (by kernel_rfl) trivial) (q := 3) (kin := [0, 1, 5, 6, 7, 15, 16, 17]) (kout := [6, 7]) (by kernel_rfl) (by kernel_rfl) fun vs objs K r h => by
  replace h : qPq vs objs K = some r := h
  unfold qPq at h
  split at h
  ·skip
   obtain ⟨t, h1, h2⟩ := qE h
   rw [<- qYY] at h1
   refine ⟨_, qPn, t, qC, h1, fun e vs' objs' hd => ?_⟩
   unfold qPn at hd;split at hd;(cases hd;exact h2);cases hd
  ·cases h
def qYX : V -> List Obj -> Option (Int × Int) := fun v objs => match v, objs with
 | .agg [.one [.i .u64 y0, .i .u64 y1]], [] => some (y0, y1)
 | _, _ => none
theorem qlb (x0 x1 : Int) (x2 x3 : Int) : fnE qLh Tryz.f59 ([.s (.i .i8 x0), .s (.i .i64 x1), .agg [.one [.i .u64 x2, .i .u64 x3]]]) ([]) qYX = qFS x0 x1 x2 x3 := by kernel_rfl
def qYV : HA := fun o vs objs K => match vs, objs with
 | [.s (.i .i8 x0), .s (.i .i64 x1), .agg [.one [.i .u64 x2, .i .u64 x3]]], [] => ob (qFS x0 x1 x2 x3) fun z => K false (.agg [.one [.i .u64 (z.1), .i .u64 (z.2)]]) ([])
 | _, _ => o 59 vs objs K
def qLi (o : Orc) : Orc := qM 59 (qYV o) o
theorem qPp : OQ Tryz.prog qLi := fun _ ho => qP ho fun vs objs K r h => by
 unfold qYV at h
 split at h
 ·skip
  obtain ⟨t, h1, h2⟩ := qE h
  refine qAY mixed qYW (fn := Tryz.f59) (b := (Tryz.f59).body.getD .skip) (by kernel_rfl) (by kernel_rfl) (by kernel_rfl) ((qlb _ _ _ _).trans h1) (m := 0) rfl (qT.of (l' := [qG Tryz.f59 3]) (by kernel_rfl) ⟨qle, trivial⟩) fun v objs' hd => ?_
  unfold qYX at hd;split at hd;(cases hd;exact h2);cases hd
 ·exact ho _ _ _ _ _ h
end
end Go.Kk.KkST
