/- Printed by a tool of this project (KkGen): the program's functions come to the plain ones. -/
import Derived.Test.YtlcccogiaaalhaaDoorProg
import Derived.Test.YtlcccogiaaalhaaDoorKkB
import Derived.Test.YtlcccogiaaalhaaDoorKkPl
namespace Go.Kk.KkBA
open Go.Proofs Go.Kk.Pl
set_option maxRecDepth 100000
set_option maxHeartbeats 4000000
def tab : Tab := [(1, .sc (.f)),
  (2, .sc (.i .i64)),
  (3, .sc (.i .i64)),
  (4, .sc (.b)),
  (5, .sc (.i .u8)),
  (6, .sc (.i .u8)),
  (7, .st [.one [.i .i64, .i .i64, .b, .i .u8]] [(0, 0, 2), (0, 1, 3), (0, 2, 4), (0, 3, 6)]),
  (8, .st [.one [.i .i64, .i .i64, .b, .i .u8]] [(0, 0, 2), (0, 1, 3), (0, 2, 4), (0, 3, 6)]),
  (9, .sc (.str)),
  (10, .sc (.str)),
  (11, .sc (.str)),
  (12, .sc (.i .u64)),
  (13, .st [.one [.str, .i .u64]] [(0, 0, 9), (0, 1, 12)]),
  (14, .st [.one [.str, .i .u64]] [(0, 0, 9), (0, 1, 12)]),
  (15, .sc (.p)),
  (16, .sc (.p)),
  (17, .sc (.p)),
  (18, .st [.one [.p]] [(0, 0, 17)]),
  (19, .st [.one [.p]] [(0, 0, 17)]),
  (21, .sc (.i .i32)),
  (22, .sc (.i .i8)),
  (23, .sc (.i .i8)),
  (24, .ar 81 1 23 (.arr .i8 81)),
  (25, .ar 8 1 22 (.arr .i8 8)),
  (26, .ar 2 8 25 (.arr .i8 16)),
  (27, .st [.arr .i8 81, .arr .i8 16, .one [.i .i8]] [(0, 0, 24), (1, 0, 26), (2, 0, 22)]),
  (28, .st [.arr .i8 81, .arr .i8 16, .one [.i .i8]] [(0, 0, 24), (1, 0, 26), (2, 0, 22)]),
  (29, .sc (.f)),
  (30, .sc (.i .i64)),
  (31, .sc (.f)),
  (32, .sc (.f)),
  (33, .sc (.f)),
  (34, .sc (.f)),
  (35, .sc (.f)),
  (36, .sc (.p)),
  (37, .sc (.f)),
  (38, .sc (.i .u64)),
  (39, .st [.one [.i .u64, .i .u64]] [(0, 0, 38), (0, 1, 38)]),
  (40, .st [.one [.i .u64, .i .u64]] [(0, 0, 38), (0, 1, 38)]),
  (41, .ar 32 1 40 (.rows [.i .u64, .i .u64] 32)),
  (42, .ar 2 1 40 (.rows [.i .u64, .i .u64] 2)),
  (43, .st [.arr .i8 81, .arr .i8 16, .one [.i .i8], .rows [.i .u64, .i .u64] 32, .rows [.i .u64, .i .u64] 2] [(0, 0, 28), (3, 0, 41), (4, 0, 42)]),
  (44, .st [.arr .i8 81, .arr .i8 16, .one [.i .i8], .rows [.i .u64, .i .u64] 32, .rows [.i .u64, .i .u64] 2] [(0, 0, 28), (3, 0, 41), (4, 0, 42)]),
  (45, .sc (.f)),
  (46, .sc (.f)),
  (47, .sc (.f)),
  (48, .sc (.f)),
  (49, .sc (.f)),
  (50, .sc (.f)),
  (51, .sc (.sl 55)),
  (52, .ar 81 1 3 (.arr .i64 81)),
  (53, .sc (.f)),
  (54, .st [.one [.i .i64, .i .i8]] [(0, 0, 3), (0, 1, 23)]),
  (55, .st [.one [.i .i64, .i .i8]] [(0, 0, 3), (0, 1, 23)]),
  (56, .sc (.f)),
  (57, .sc (.f)),
  (58, .sc (.f)),
  (59, .sc (.f)),
  (60, .sc (.f)),
  (61, .sc (.f)),
  (62, .sc (.f)),
  (63, .ar 9 1 3 (.arr .i64 9)),
  (64, .ar 2 1 3 (.arr .i64 2)),
  (65, .sc (.f)),
  (66, .sc (.f)),
  (67, .sc (.f)),
  (68, .sc (.f)),
  (69, .sc (.f)),
  (70, .sc (.sl 9)),
  (71, .sc (.f)),
  (72, .sc (.f)),
  (73, .sc (.f)),
  (74, .sc (.sl 3)),
  (75, .ar 64 1 5 (.arr .u8 64)),
  (76, .sc (.i .u64)),
  (77, .sc (.f)),
  (78, .st [.one [.p, .p, .p, .str]] [(0, 0, 17), (0, 1, 17), (0, 2, 17), (0, 3, 9)]),
  (79, .st [.one [.p, .p, .p, .str]] [(0, 0, 17), (0, 1, 17), (0, 2, 17), (0, 3, 9)]),
  (83, .sc (.i .u32)),
  (84, .sc (.i .u8)),
  (85, .sc (.i .u8)),
  (86, .sc (.f)),
  (87, .sc (.p)),
  (88, .sc (.i .i32)),
  (89, .sc (.i .i32)),
  (90, .st [.one [.i .u64, .i .u64, .i .u32, .i .u8, .i .u8, .i .u8, .i .u8, .f, .p, .i .i32, .i .i32]] [(0, 0, 12), (0, 1, 12), (0, 2, 83), (0, 3, 84), (0, 4, 5), (0, 5, 5), (0, 6, 85), (0, 7, 86), (0, 8, 87), (0, 9, 88), (0, 10, 89)]),
  (91, .st [.one [.i .u64, .i .u64, .i .u32, .i .u8, .i .u8, .i .u8, .i .u8, .f, .p, .i .i32, .i .i32]] [(0, 0, 12), (0, 1, 12), (0, 2, 83), (0, 3, 84), (0, 4, 5), (0, 5, 5), (0, 6, 85), (0, 7, 86), (0, 8, 87), (0, 9, 88), (0, 10, 89)])]

def eqs : List TypeId := [24, 26, 28, 40, 42, 64]
def bytes : List (TypeId × Nat) := [(55, 16), (9, 16), (3, 8)]
theorem mixed : Tryd.prog.follows .mixedOrders = true := by kernel_rfl
theorem tab_ok : ∀ t L, Tab.get tab t = some L → LayOK Tryd.prog tab t L := tabB_ok (P := Tryd.prog) (tab := tab) (l := tab) (by kernel_rfl)
theorem eqs_ok : ∀ t L, memT t eqs = true → Tab.get tab t = some L → ∃ f ck, f ≤ 10000 ∧ tyCK Tryd.prog f t = some ck ∧ cksOf L.segTs = some ck ∧ Tryd.prog.eqGuardType Tryd.prog.depth t = false := eqsB_ok (P := Tryd.prog) (tab := tab) (l := eqs) (by kernel_rfl)
theorem bytes_ok : ∀ t n, byN t bytes = some n → ∃ i, Tryd.prog.info? t = some i ∧ i.bytes = n := bytesB_ok (P := Tryd.prog) (l := bytes) (by kernel_rfl)
def mkC (nt : Nat) (orc : Orc) (keeps : List (Nat × List Nat × List Nat)) (lp : {R : Type} → Nat → List V → List Obj → (Ex → List V → List Obj → Option R) → Option R) : Ctx := { tab := tab, eqs := eqs, bytes := bytes, nt := nt, orc := orc, keeps := keeps, lp := lp }
theorem mkC_ok {nt : Nat} {orc : Orc} {keeps : List (Nat × List Nat × List Nat)} {lp : {R : Type} → Nat → List V → List Obj → (Ex → List V → List Obj → Option R) → Option R} (h : OSound Tryd.prog orc) : CtxOK Tryd.prog (mkC nt orc keeps lp) := ⟨tab_ok, h, eqs_ok, bytes_ok, fun _ _ _ => rfl⟩


noncomputable def set_Squarec : Ctx := mkC 23 (oNil) [] lpNil

theorem set_Squarec_ok : CtxOK Tryd.prog set_Squarec := mkC_ok (oNil_ok)

noncomputable def set_Squared : V → List Obj → Option (Int) := fun v objs => match v, objs with
  | V.s (S.i IntKind.i64 y0), [] => some (y0)
  | _, _ => none

theorem set_Square_eq (x0 : Int) (x1 : Int) : fnE set_Squarec Tryd.f43 ([V.s (S.i IntKind.i64 x0), V.s (S.i IntKind.i64 x1)]) ([]) set_Squared = set_Square x0 x1 := by kernel_rfl

noncomputable def set_Squarea {R : Type} (o : Orc) (vs : List V) (objs : List Obj) (K : Bool → V → List Obj → Option R) : Option R := match vs, objs with
  | [V.s (S.i IntKind.i64 x0), V.s (S.i IntKind.i64 x1)], [] => ob (set_Square x0 x1) fun y0 => K false (V.s (S.i IntKind.i64 y0)) ([])
  | _, _ => o 43 vs objs K

noncomputable def set_Squareo (o : Orc) : Orc := hook 43 (set_Squarea o) o

theorem set_Squareo_ok (o : Orc) (ho : OSound Tryd.prog o) : OSound Tryd.prog (set_Squareo o) := hook_ok ho fun vs objs K r h => by
  unfold set_Squarea at h
  split at h
  · skip
    obtain ⟨t, h1, h2⟩ := ob_ok h
    refine anyOK_of mixed set_Squarec_ok (fn := Tryd.f43) (b := (Tryd.f43).body.getD .skip) (by kernel_rfl) (by kernel_rfl) (by kernel_rfl) ((set_Square_eq _ _).trans h1) (m := 0) rfl (AllP.of (l' := []) (by kernel_rfl) trivial) fun v objs' hd => ?_
    unfold set_Squared at hd
    split at hd
    · skip
      cases hd
      exact h2
    · cases hd
  · exact ho _ _ _ _ _ h

noncomputable def board_Start_1c : Ctx := mkC 14 ((set_Squareo oNil)) [] lpNil

theorem board_Start_1c_ok : CtxOK Tryd.prog board_Start_1c := mkC_ok ((set_Squareo_ok _ oNil_ok))

noncomputable def board_Start_1d : V → List Obj → Option (Int) := fun v objs => match v, objs with
  | V.s (S.i IntKind.i64 y0), [] => some (y0)
  | _, _ => none

theorem board_Start_1_eq (x0 : Int) (x1 : Int) (x2 : Int) : fnE board_Start_1c Tryd.f42 ([V.s (S.i IntKind.i64 x0), V.s (S.ptr 0 0 none 0), V.s (S.ptr 1 0 none 0)]) ([Obj.rcells 3 [Seg.one [S.i IntKind.i64 x1]], Obj.rcells 3 [Seg.one [S.i IntKind.i64 x2]]]) (pureD 2 board_Start_1d) = board_Start_1 x0 x1 x2 := by kernel_rfl

noncomputable def board_Start_1a {R : Type} (o : Orc) (vs : List V) (objs : List Obj) (K : Bool → V → List Obj → Option R) : Option R := match vs, List.map Obj.toRO objs with
  | [V.s (S.i IntKind.i64 x0), V.s (S.ptr 0 0 none 0), V.s (S.ptr 1 0 none 0)], [Obj.rcells 3 [Seg.one [S.i IntKind.i64 x1]], Obj.rcells 3 [Seg.one [S.i IntKind.i64 x2]]] => ob (board_Start_1 x0 x1 x2) fun y0 => K true (V.s (S.i IntKind.i64 y0)) ([])
  | _, _ => o 42 vs objs K

noncomputable def board_Start_1o (o : Orc) : Orc := hook 42 (board_Start_1a o) o

theorem board_Start_1o_ok (o : Orc) (ho : OSound Tryd.prog o) : OSound Tryd.prog (board_Start_1o o) := hook_ok ho fun vs objs K r h => by
  unfold board_Start_1a at h
  split at h
  · skip
    have hq : List.map Obj.toRO objs = _ := (by rename_i hq; first | exact hq | assumption)
    obtain ⟨t, h1, h2⟩ := ob_ok h
    refine purOK_by mixed board_Start_1c_ok (m := 2) (fn := Tryd.f42) (b := (Tryd.f42).body.getD .skip) (by kernel_rfl) (by kernel_rfl) (by kernel_rfl) hq (by kernel_rfl) (by kernel_rfl) (AllP.of (l' := []) (by kernel_rfl) trivial) ((board_Start_1_eq _ _ _).trans h1) fun v objs' hd => ?_
    unfold board_Start_1d at hd
    split at hd
    · skip
      cases hd
      exact h2
    · cases hd
  · exact ho _ _ _ _ _ h

noncomputable def piece_Ofc : Ctx := mkC 28 (oNil) [] lpNil

theorem piece_Ofc_ok : CtxOK Tryd.prog piece_Ofc := mkC_ok (oNil_ok)

noncomputable def piece_Ofd : V → List Obj → Option (Int) := fun v objs => match v, objs with
  | V.s (S.i IntKind.i8 y0), [] => some (y0)
  | _, _ => none

theorem piece_Of_eq (x0 : Int) (x1 : Int) : fnE piece_Ofc Tryd.f44 ([V.s (S.i IntKind.i64 x0), V.s (S.i IntKind.i64 x1)]) ([]) piece_Ofd = piece_Of x0 x1 := by kernel_rfl

noncomputable def piece_Ofa {R : Type} (o : Orc) (vs : List V) (objs : List Obj) (K : Bool → V → List Obj → Option R) : Option R := match vs, objs with
  | [V.s (S.i IntKind.i64 x0), V.s (S.i IntKind.i64 x1)], [] => ob (piece_Of x0 x1) fun y0 => K false (V.s (S.i IntKind.i8 y0)) ([])
  | _, _ => o 44 vs objs K

noncomputable def piece_Ofo (o : Orc) : Orc := hook 44 (piece_Ofa o) o

theorem piece_Ofo_ok (o : Orc) (ho : OSound Tryd.prog o) : OSound Tryd.prog (piece_Ofo o) := hook_ok ho fun vs objs K r h => by
  unfold piece_Ofa at h
  split at h
  · skip
    obtain ⟨t, h1, h2⟩ := ob_ok h
    refine anyOK_of mixed piece_Ofc_ok (fn := Tryd.f44) (b := (Tryd.f44).body.getD .skip) (by kernel_rfl) (by kernel_rfl) (by kernel_rfl) ((piece_Of_eq _ _).trans h1) (m := 0) rfl (AllP.of (l' := []) (by kernel_rfl) trivial) fun v objs' hd => ?_
    unfold piece_Ofd at hd
    split at hd
    · skip
      cases hd
      exact h2
    · cases hd
  · exact ho _ _ _ _ _ h

noncomputable def board_Startl7d : Ex → List V → List Obj → Option (Int × List Int × List Int × Int × List Int × List Int × Int × List Int) := fun e vs objs => match e, vs, objs with
  | Ex.exit 2, [V.s (S.ptr 0 0 none 0), V.s (S.ptr 1 0 none 0), V.s (S.ptr 2 0 none 0), V.s (S.i IntKind.i64 y0)], [Obj.cells 28 [Seg.arr IntKind.i8 81 y1, Seg.arr IntKind.i8 16 y2, Seg.one [S.i IntKind.i8 y3]], Obj.cells 28 [Seg.arr IntKind.i8 81 y4, Seg.arr IntKind.i8 16 y5, Seg.one [S.i IntKind.i8 y6]], Obj.cells 63 [Seg.arr IntKind.i64 9 y7]] => some (y0, y1, y2, y3, y4, y5, y6, y7)
  | _, _, _ => none

noncomputable def board_Startl4d : Ex → List V → List Obj → Option (List Int × List Int × Int × List Int × List Int × Int) := fun e vs objs => match e, vs, objs with
  | Ex.exit 0, [V.s (S.ptr 0 0 none 0), V.s (S.ptr 1 0 none 0)], [Obj.cells 28 [Seg.arr IntKind.i8 81 y0, Seg.arr IntKind.i8 16 y1, Seg.one [S.i IntKind.i8 y2]], Obj.cells 28 [Seg.arr IntKind.i8 81 y3, Seg.arr IntKind.i8 16 y4, Seg.one [S.i IntKind.i8 y5]]] => some (y0, y1, y2, y3, y4, y5)
  | _, _, _ => none

noncomputable def board_Startp7 {R : Type} (vs : List V) (objs : List Obj) (K : Ex → List V → List Obj → Option R) : Option R := match vs, objs with
  | [V.s (S.ptr 0 0 none 0), V.s (S.ptr 1 0 none 0), V.s (S.ptr 2 0 none 0), V.s (S.ptr 3 0 none 0), V.s (S.i IntKind.i64 x0), V.s (S.i IntKind.i64 x1)], [Obj.cells 28 [Seg.arr IntKind.i8 81 x2, Seg.arr IntKind.i8 16 x3, Seg.one [S.i IntKind.i8 x4]], Obj.cells 28 [Seg.arr IntKind.i8 81 x5, Seg.arr IntKind.i8 16 x6, Seg.one [S.i IntKind.i8 x7]], Obj.cells 63 [Seg.arr IntKind.i64 9 x8], Obj.cells 3 [Seg.one [S.i IntKind.i64 x9]]] => ob (board_Startl7 many x0 x1 x2 x3 x4 x5 x6 x7 x8 x9) fun z => K (Ex.exit 2) ([V.s (S.ptr 0 0 none 0), V.s (S.ptr 1 0 none 0), V.s (S.ptr 2 0 none 0), V.s (S.i IntKind.i64 (z.1))]) ([Obj.cells 28 [Seg.arr IntKind.i8 81 (z.2.1), Seg.arr IntKind.i8 16 (z.2.2.1), Seg.one [S.i IntKind.i8 (z.2.2.2.1)]], Obj.cells 28 [Seg.arr IntKind.i8 81 (z.2.2.2.2.1), Seg.arr IntKind.i8 16 (z.2.2.2.2.2.1), Seg.one [S.i IntKind.i8 (z.2.2.2.2.2.2.1)]], Obj.cells 63 [Seg.arr IntKind.i64 9 (z.2.2.2.2.2.2.2)]])
  | _, _ => none

noncomputable def board_Startp4 {R : Type} (vs : List V) (objs : List Obj) (K : Ex → List V → List Obj → Option R) : Option R := match vs, objs with
  | [V.s (S.ptr 0 0 none 0), V.s (S.ptr 1 0 none 0), V.s (S.ptr 2 0 none 0), V.s (S.i IntKind.i64 x0)], [Obj.cells 28 [Seg.arr IntKind.i8 81 x1, Seg.arr IntKind.i8 16 x2, Seg.one [S.i IntKind.i8 x3]], Obj.cells 28 [Seg.arr IntKind.i8 81 x4, Seg.arr IntKind.i8 16 x5, Seg.one [S.i IntKind.i8 x6]], Obj.cells 63 [Seg.arr IntKind.i64 9 x7]] => ob (board_Startl4 many x0 x1 x2 x3 x4 x5 x6 x7) fun z => K (Ex.exit 0) ([V.s (S.ptr 0 0 none 0), V.s (S.ptr 1 0 none 0)]) ([Obj.cells 28 [Seg.arr IntKind.i8 81 (z.1), Seg.arr IntKind.i8 16 (z.2.1), Seg.one [S.i IntKind.i8 (z.2.2.1)]], Obj.cells 28 [Seg.arr IntKind.i8 81 (z.2.2.2.1), Seg.arr IntKind.i8 16 (z.2.2.2.2.1), Seg.one [S.i IntKind.i8 (z.2.2.2.2.2)]]])
  | _, _ => none

noncomputable def board_Startlp : {R : Type} → Nat → List V → List Obj → (Ex → List V → List Obj → Option R) → Option R := fun q vs objs K => bif Nat.beq q 7 then board_Startp7 vs objs K else bif Nat.beq q 4 then board_Startp4 vs objs K else none

noncomputable def board_Startc : Ctx := mkC 44 ((set_Squareo (piece_Ofo (board_Start_1o oNil)))) [(4, [0, 1, 2, 7], [0, 1]), (7, [0, 1, 2, 3, 7, 10], [0, 1, 2, 7])] board_Startlp

theorem board_Startc_ok : CtxOK Tryd.prog board_Startc := mkC_ok ((set_Squareo_ok _ (piece_Ofo_ok _ (board_Start_1o_ok _ oNil_ok))))

noncomputable def board_Startl7r (f : Nat) (x0 : Int) (x1 : Int) (x2 : List Int) (x3 : List Int) (x4 : Int) (x5 : List Int) (x6 : List Int) (x7 : Int) (x8 : List Int) (x9 : Int) : Option (Int × List Int × List Int × Int × List Int × List Int × Int × List Int) := lrun board_Startc 0 [0, 1, 2, 3, 7, 10] [0, 1, 2, 7] (loopOf Tryd.f12 7) f ([V.s (S.ptr 0 0 none 0), V.s (S.ptr 1 0 none 0), V.s (S.ptr 2 0 none 0), V.s (S.ptr 3 0 none 0), V.s (S.i IntKind.i64 x0), V.s (S.i IntKind.i64 x1)]) ([Obj.cells 28 [Seg.arr IntKind.i8 81 x2, Seg.arr IntKind.i8 16 x3, Seg.one [S.i IntKind.i8 x4]], Obj.cells 28 [Seg.arr IntKind.i8 81 x5, Seg.arr IntKind.i8 16 x6, Seg.one [S.i IntKind.i8 x7]], Obj.cells 63 [Seg.arr IntKind.i64 9 x8], Obj.cells 3 [Seg.one [S.i IntKind.i64 x9]]]) board_Startl7d

theorem board_Startl7_step (f : Nat) (x0 : Int) (x1 : Int) (x2 : List Int) (x3 : List Int) (x4 : Int) (x5 : List Int) (x6 : List Int) (x7 : Int) (x8 : List Int) (x9 : Int) : board_Startl7r (f + 1) x0 x1 x2 x3 x4 x5 x6 x7 x8 x9 = board_Startl7s (board_Startl7r f) x0 x1 x2 x3 x4 x5 x6 x7 x8 x9 := by kernel_rfl

theorem board_Startl7_eq : ∀ f, board_Startl7r f = board_Startl7 f
  | 0 => rfl
  | f + 1 => by funext x0 x1 x2 x3 x4 x5 x6 x7 x8 x9; rw [board_Startl7_step, board_Startl7_eq f]; rfl

noncomputable def board_Startl4r (f : Nat) (x0 : Int) (x1 : List Int) (x2 : List Int) (x3 : Int) (x4 : List Int) (x5 : List Int) (x6 : Int) (x7 : List Int) : Option (List Int × List Int × Int × List Int × List Int × Int) := lrun board_Startc 0 [0, 1, 2, 7] [0, 1] (loopOf Tryd.f12 4) f ([V.s (S.ptr 0 0 none 0), V.s (S.ptr 1 0 none 0), V.s (S.ptr 2 0 none 0), V.s (S.i IntKind.i64 x0)]) ([Obj.cells 28 [Seg.arr IntKind.i8 81 x1, Seg.arr IntKind.i8 16 x2, Seg.one [S.i IntKind.i8 x3]], Obj.cells 28 [Seg.arr IntKind.i8 81 x4, Seg.arr IntKind.i8 16 x5, Seg.one [S.i IntKind.i8 x6]], Obj.cells 63 [Seg.arr IntKind.i64 9 x7]]) board_Startl4d

theorem board_Startl4_step (f : Nat) (x0 : Int) (x1 : List Int) (x2 : List Int) (x3 : Int) (x4 : List Int) (x5 : List Int) (x6 : Int) (x7 : List Int) : board_Startl4r (f + 1) x0 x1 x2 x3 x4 x5 x6 x7 = board_Startl4s (board_Startl4r f) x0 x1 x2 x3 x4 x5 x6 x7 := by kernel_rfl

theorem board_Startl4_eq : ∀ f, board_Startl4r f = board_Startl4 f
  | 0 => rfl
  | f + 1 => by funext x0 x1 x2 x3 x4 x5 x6 x7; rw [board_Startl4_step, board_Startl4_eq f]; rfl

theorem board_Starts7 : LoopSound Tryd.prog board_Startc 0 (loopOf Tryd.f12 7) :=
  loopSound_by mixed board_Startc_ok (AllP.of (l' := []) (by kernel_rfl) trivial) (q := 7) (kin := [0, 1, 2, 3, 7, 10]) (kout := [0, 1, 2, 7]) (by kernel_rfl) (by kernel_rfl) fun vs objs K r h => by
    replace h : board_Startp7 vs objs K = some r := h
    unfold board_Startp7 at h
    split at h
    · skip
      obtain ⟨t, h1, h2⟩ := ob_ok h
      rw [← board_Startl7_eq] at h1
      refine ⟨_, board_Startl7d, t, many, h1, fun e vs' objs' hd => ?_⟩
      unfold board_Startl7d at hd
      split at hd
      · skip
        cases hd
        exact h2
      · cases hd
    · cases h

theorem board_Starts4 : LoopSound Tryd.prog board_Startc 0 (loopOf Tryd.f12 4) :=
  loopSound_by mixed board_Startc_ok (AllP.of (l' := [loopOf Tryd.f12 7]) (by kernel_rfl) ⟨board_Starts7, trivial⟩) (q := 4) (kin := [0, 1, 2, 7]) (kout := [0, 1]) (by kernel_rfl) (by kernel_rfl) fun vs objs K r h => by
    replace h : board_Startp4 vs objs K = some r := h
    unfold board_Startp4 at h
    split at h
    · skip
      obtain ⟨t, h1, h2⟩ := ob_ok h
      rw [← board_Startl4_eq] at h1
      refine ⟨_, board_Startl4d, t, many, h1, fun e vs' objs' hd => ?_⟩
      unfold board_Startl4d at hd
      split at hd
      · skip
        cases hd
        exact h2
      · cases hd
    · cases h

noncomputable def board_Startd : V → List Obj → Option (List Int × List Int × Int) := fun v objs => match v, objs with
  | V.agg [Seg.arr IntKind.i8 81 y0, Seg.arr IntKind.i8 16 y1, Seg.one [S.i IntKind.i8 y2]], [] => some (y0, y1, y2)
  | _, _ => none

theorem board_Start_eq : fnE board_Startc Tryd.f12 ([]) ([]) board_Startd = board_Start  := by kernel_rfl

noncomputable def board_Starta {R : Type} (o : Orc) (vs : List V) (objs : List Obj) (K : Bool → V → List Obj → Option R) : Option R := match vs, objs with
  | [], [] => ob (board_Start ) fun z => K false (V.agg [Seg.arr IntKind.i8 81 (z.1), Seg.arr IntKind.i8 16 (z.2.1), Seg.one [S.i IntKind.i8 (z.2.2)]]) ([])
  | _, _ => o 12 vs objs K

noncomputable def board_Starto (o : Orc) : Orc := hook 12 (board_Starta o) o

theorem board_Starto_ok (o : Orc) (ho : OSound Tryd.prog o) : OSound Tryd.prog (board_Starto o) := hook_ok ho fun vs objs K r h => by
  unfold board_Starta at h
  split at h
  · skip
    obtain ⟨t, h1, h2⟩ := ob_ok h
    refine anyOK_of mixed board_Startc_ok (fn := Tryd.f12) (b := (Tryd.f12).body.getD .skip) (by kernel_rfl) (by kernel_rfl) (by kernel_rfl) ((board_Start_eq).trans h1) (m := 0) rfl (AllP.of (l' := [loopOf Tryd.f12 4]) (by kernel_rfl) ⟨board_Starts4, trivial⟩) fun v objs' hd => ?_
    unfold board_Startd at hd
    split at hd
    · skip
      cases hd
      exact h2
    · cases hd
  · exact ho _ _ _ _ _ h

noncomputable def set_bitc : Ctx := mkC 21 (oNil) [] lpNil

theorem set_bitc_ok : CtxOK Tryd.prog set_bitc := mkC_ok (oNil_ok)

noncomputable def set_bitd : V → List Obj → Option (Int × Int) := fun v objs => match v, objs with
  | V.agg [Seg.one [S.i IntKind.u64 y0, S.i IntKind.u64 y1]], [] => some (y0, y1)
  | _, _ => none

theorem set_bit_eq (x0 : Int) : fnE set_bitc Tryd.f47 ([V.s (S.i IntKind.i64 x0)]) ([]) set_bitd = set_bit x0 := by kernel_rfl

noncomputable def set_bita {R : Type} (o : Orc) (vs : List V) (objs : List Obj) (K : Bool → V → List Obj → Option R) : Option R := match vs, objs with
  | [V.s (S.i IntKind.i64 x0)], [] => ob (set_bit x0) fun z => K false (V.agg [Seg.one [S.i IntKind.u64 (z.1), S.i IntKind.u64 (z.2)]]) ([])
  | _, _ => o 47 vs objs K

noncomputable def set_bito (o : Orc) : Orc := hook 47 (set_bita o) o

theorem set_bito_ok (o : Orc) (ho : OSound Tryd.prog o) : OSound Tryd.prog (set_bito o) := hook_ok ho fun vs objs K r h => by
  unfold set_bita at h
  split at h
  · skip
    obtain ⟨t, h1, h2⟩ := ob_ok h
    refine anyOK_of mixed set_bitc_ok (fn := Tryd.f47) (b := (Tryd.f47).body.getD .skip) (by kernel_rfl) (by kernel_rfl) (by kernel_rfl) ((set_bit_eq _).trans h1) (m := 0) rfl (AllP.of (l' := []) (by kernel_rfl) trivial) fun v objs' hd => ?_
    unfold set_bitd at hd
    split at hd
    · skip
      cases hd
      exact h2
    · cases hd
  · exact ho _ _ _ _ _ h

noncomputable def set_Minusc : Ctx := mkC 16 (oNil) [] lpNil

theorem set_Minusc_ok : CtxOK Tryd.prog set_Minusc := mkC_ok (oNil_ok)

noncomputable def set_Minusd : V → List Obj → Option (Int × Int) := fun v objs => match v, objs with
  | V.agg [Seg.one [S.i IntKind.u64 y0, S.i IntKind.u64 y1]], [] => some (y0, y1)
  | _, _ => none

theorem set_Minus_eq (x0 : Int) (x1 : Int) (x2 : Int) (x3 : Int) : fnE set_Minusc Tryd.f54 ([V.agg [Seg.one [S.i IntKind.u64 x0, S.i IntKind.u64 x1]], V.agg [Seg.one [S.i IntKind.u64 x2, S.i IntKind.u64 x3]]]) ([]) set_Minusd = set_Minus x0 x1 x2 x3 := by kernel_rfl

noncomputable def set_Minusa {R : Type} (o : Orc) (vs : List V) (objs : List Obj) (K : Bool → V → List Obj → Option R) : Option R := match vs, objs with
  | [V.agg [Seg.one [S.i IntKind.u64 x0, S.i IntKind.u64 x1]], V.agg [Seg.one [S.i IntKind.u64 x2, S.i IntKind.u64 x3]]], [] => ob (set_Minus x0 x1 x2 x3) fun z => K false (V.agg [Seg.one [S.i IntKind.u64 (z.1), S.i IntKind.u64 (z.2)]]) ([])
  | _, _ => o 54 vs objs K

noncomputable def set_Minuso (o : Orc) : Orc := hook 54 (set_Minusa o) o

theorem set_Minuso_ok (o : Orc) (ho : OSound Tryd.prog o) : OSound Tryd.prog (set_Minuso o) := hook_ok ho fun vs objs K r h => by
  unfold set_Minusa at h
  split at h
  · skip
    obtain ⟨t, h1, h2⟩ := ob_ok h
    refine anyOK_of mixed set_Minusc_ok (fn := Tryd.f54) (b := (Tryd.f54).body.getD .skip) (by kernel_rfl) (by kernel_rfl) (by kernel_rfl) ((set_Minus_eq _ _ _ _).trans h1) (m := 0) rfl (AllP.of (l' := []) (by kernel_rfl) trivial) fun v objs' hd => ?_
    unfold set_Minusd at hd
    split at hd
    · skip
      cases hd
      exact h2
    · cases hd
  · exact ho _ _ _ _ _ h

noncomputable def set_Withoutc : Ctx := mkC 9 ((set_Minuso (set_bito oNil))) [] lpNil

theorem set_Withoutc_ok : CtxOK Tryd.prog set_Withoutc := mkC_ok ((set_Minuso_ok _ (set_bito_ok _ oNil_ok)))

noncomputable def set_Withoutd : V → List Obj → Option (Int × Int) := fun v objs => match v, objs with
  | V.agg [Seg.one [S.i IntKind.u64 y0, S.i IntKind.u64 y1]], [] => some (y0, y1)
  | _, _ => none

theorem set_Without_eq (x0 : Int) (x1 : Int) (x2 : Int) : fnE set_Withoutc Tryd.f46 ([V.agg [Seg.one [S.i IntKind.u64 x0, S.i IntKind.u64 x1]], V.s (S.i IntKind.i64 x2)]) ([]) set_Withoutd = set_Without x0 x1 x2 := by kernel_rfl

noncomputable def set_Withouta {R : Type} (o : Orc) (vs : List V) (objs : List Obj) (K : Bool → V → List Obj → Option R) : Option R := match vs, objs with
  | [V.agg [Seg.one [S.i IntKind.u64 x0, S.i IntKind.u64 x1]], V.s (S.i IntKind.i64 x2)], [] => ob (set_Without x0 x1 x2) fun z => K false (V.agg [Seg.one [S.i IntKind.u64 (z.1), S.i IntKind.u64 (z.2)]]) ([])
  | _, _ => o 46 vs objs K

noncomputable def set_Withouto (o : Orc) : Orc := hook 46 (set_Withouta o) o

theorem set_Withouto_ok (o : Orc) (ho : OSound Tryd.prog o) : OSound Tryd.prog (set_Withouto o) := hook_ok ho fun vs objs K r h => by
  unfold set_Withouta at h
  split at h
  · skip
    obtain ⟨t, h1, h2⟩ := ob_ok h
    refine anyOK_of mixed set_Withoutc_ok (fn := Tryd.f46) (b := (Tryd.f46).body.getD .skip) (by kernel_rfl) (by kernel_rfl) (by kernel_rfl) ((set_Without_eq _ _ _).trans h1) (m := 0) rfl (AllP.of (l' := []) (by kernel_rfl) trivial) fun v objs' hd => ?_
    unfold set_Withoutd at hd
    split at hd
    · skip
      cases hd
      exact h2
    · cases hd
  · exact ho _ _ _ _ _ h

noncomputable def piece_Kindc : Ctx := mkC 28 (oNil) [] lpNil

theorem piece_Kindc_ok : CtxOK Tryd.prog piece_Kindc := mkC_ok (oNil_ok)

noncomputable def piece_Kindd : V → List Obj → Option (Int) := fun v objs => match v, objs with
  | V.s (S.i IntKind.i64 y0), [] => some (y0)
  | _, _ => none

theorem piece_Kind_eq (x0 : Int) : fnE piece_Kindc Tryd.f32 ([V.s (S.i IntKind.i8 x0)]) ([]) piece_Kindd = piece_Kind x0 := by kernel_rfl

noncomputable def piece_Kinda {R : Type} (o : Orc) (vs : List V) (objs : List Obj) (K : Bool → V → List Obj → Option R) : Option R := match vs, objs with
  | [V.s (S.i IntKind.i8 x0)], [] => ob (piece_Kind x0) fun y0 => K false (V.s (S.i IntKind.i64 y0)) ([])
  | _, _ => o 32 vs objs K

noncomputable def piece_Kindo (o : Orc) : Orc := hook 32 (piece_Kinda o) o

theorem piece_Kindo_ok (o : Orc) (ho : OSound Tryd.prog o) : OSound Tryd.prog (piece_Kindo o) := hook_ok ho fun vs objs K r h => by
  unfold piece_Kinda at h
  split at h
  · skip
    obtain ⟨t, h1, h2⟩ := ob_ok h
    refine anyOK_of mixed piece_Kindc_ok (fn := Tryd.f32) (b := (Tryd.f32).body.getD .skip) (by kernel_rfl) (by kernel_rfl) (by kernel_rfl) ((piece_Kind_eq _).trans h1) (m := 0) rfl (AllP.of (l' := []) (by kernel_rfl) trivial) fun v objs' hd => ?_
    unfold piece_Kindd at hd
    split at hd
    · skip
      cases hd
      exact h2
    · cases hd
  · exact ho _ _ _ _ _ h

noncomputable def piece_Sidec : Ctx := mkC 10 ((piece_Kindo oNil)) [] lpNil

theorem piece_Sidec_ok : CtxOK Tryd.prog piece_Sidec := mkC_ok ((piece_Kindo_ok _ oNil_ok))

noncomputable def piece_Sided : V → List Obj → Option (Int) := fun v objs => match v, objs with
  | V.s (S.i IntKind.i64 y0), [] => some (y0)
  | _, _ => none

theorem piece_Side_eq (x0 : Int) : fnE piece_Sidec Tryd.f33 ([V.s (S.i IntKind.i8 x0)]) ([]) piece_Sided = piece_Side x0 := by kernel_rfl

noncomputable def piece_Sidea {R : Type} (o : Orc) (vs : List V) (objs : List Obj) (K : Bool → V → List Obj → Option R) : Option R := match vs, objs with
  | [V.s (S.i IntKind.i8 x0)], [] => ob (piece_Side x0) fun y0 => K false (V.s (S.i IntKind.i64 y0)) ([])
  | _, _ => o 33 vs objs K

noncomputable def piece_Sideo (o : Orc) : Orc := hook 33 (piece_Sidea o) o

theorem piece_Sideo_ok (o : Orc) (ho : OSound Tryd.prog o) : OSound Tryd.prog (piece_Sideo o) := hook_ok ho fun vs objs K r h => by
  unfold piece_Sidea at h
  split at h
  · skip
    obtain ⟨t, h1, h2⟩ := ob_ok h
    refine anyOK_of mixed piece_Sidec_ok (fn := Tryd.f33) (b := (Tryd.f33).body.getD .skip) (by kernel_rfl) (by kernel_rfl) (by kernel_rfl) ((piece_Side_eq _).trans h1) (m := 0) rfl (AllP.of (l' := []) (by kernel_rfl) trivial) fun v objs' hd => ?_
    unfold piece_Sided at hd
    split at hd
    · skip
      cases hd
      exact h2
    · cases hd
  · exact ho _ _ _ _ _ h

noncomputable def set_Orc : Ctx := mkC 16 (oNil) [] lpNil

theorem set_Orc_ok : CtxOK Tryd.prog set_Orc := mkC_ok (oNil_ok)

noncomputable def set_Ord : V → List Obj → Option (Int × Int) := fun v objs => match v, objs with
  | V.agg [Seg.one [S.i IntKind.u64 y0, S.i IntKind.u64 y1]], [] => some (y0, y1)
  | _, _ => none

theorem set_Or_eq (x0 : Int) (x1 : Int) (x2 : Int) (x3 : Int) : fnE set_Orc Tryd.f19 ([V.agg [Seg.one [S.i IntKind.u64 x0, S.i IntKind.u64 x1]], V.agg [Seg.one [S.i IntKind.u64 x2, S.i IntKind.u64 x3]]]) ([]) set_Ord = set_Or x0 x1 x2 x3 := by kernel_rfl

noncomputable def set_Ora {R : Type} (o : Orc) (vs : List V) (objs : List Obj) (K : Bool → V → List Obj → Option R) : Option R := match vs, objs with
  | [V.agg [Seg.one [S.i IntKind.u64 x0, S.i IntKind.u64 x1]], V.agg [Seg.one [S.i IntKind.u64 x2, S.i IntKind.u64 x3]]], [] => ob (set_Or x0 x1 x2 x3) fun z => K false (V.agg [Seg.one [S.i IntKind.u64 (z.1), S.i IntKind.u64 (z.2)]]) ([])
  | _, _ => o 19 vs objs K

noncomputable def set_Oro (o : Orc) : Orc := hook 19 (set_Ora o) o

theorem set_Oro_ok (o : Orc) (ho : OSound Tryd.prog o) : OSound Tryd.prog (set_Oro o) := hook_ok ho fun vs objs K r h => by
  unfold set_Ora at h
  split at h
  · skip
    obtain ⟨t, h1, h2⟩ := ob_ok h
    refine anyOK_of mixed set_Orc_ok (fn := Tryd.f19) (b := (Tryd.f19).body.getD .skip) (by kernel_rfl) (by kernel_rfl) (by kernel_rfl) ((set_Or_eq _ _ _ _).trans h1) (m := 0) rfl (AllP.of (l' := []) (by kernel_rfl) trivial) fun v objs' hd => ?_
    unfold set_Ord at hd
    split at hd
    · skip
      cases hd
      exact h2
    · cases hd
  · exact ho _ _ _ _ _ h

noncomputable def set_Withc : Ctx := mkC 9 ((set_Oro (set_bito oNil))) [] lpNil

theorem set_Withc_ok : CtxOK Tryd.prog set_Withc := mkC_ok ((set_Oro_ok _ (set_bito_ok _ oNil_ok)))

noncomputable def set_Withd : V → List Obj → Option (Int × Int) := fun v objs => match v, objs with
  | V.agg [Seg.one [S.i IntKind.u64 y0, S.i IntKind.u64 y1]], [] => some (y0, y1)
  | _, _ => none

theorem set_With_eq (x0 : Int) (x1 : Int) (x2 : Int) : fnE set_Withc Tryd.f23 ([V.agg [Seg.one [S.i IntKind.u64 x0, S.i IntKind.u64 x1]], V.s (S.i IntKind.i64 x2)]) ([]) set_Withd = set_With x0 x1 x2 := by kernel_rfl

noncomputable def set_Witha {R : Type} (o : Orc) (vs : List V) (objs : List Obj) (K : Bool → V → List Obj → Option R) : Option R := match vs, objs with
  | [V.agg [Seg.one [S.i IntKind.u64 x0, S.i IntKind.u64 x1]], V.s (S.i IntKind.i64 x2)], [] => ob (set_With x0 x1 x2) fun z => K false (V.agg [Seg.one [S.i IntKind.u64 (z.1), S.i IntKind.u64 (z.2)]]) ([])
  | _, _ => o 23 vs objs K

noncomputable def set_Witho (o : Orc) : Orc := hook 23 (set_Witha o) o

theorem set_Witho_ok (o : Orc) (ho : OSound Tryd.prog o) : OSound Tryd.prog (set_Witho o) := hook_ok ho fun vs objs K r h => by
  unfold set_Witha at h
  split at h
  · skip
    obtain ⟨t, h1, h2⟩ := ob_ok h
    refine anyOK_of mixed set_Withc_ok (fn := Tryd.f23) (b := (Tryd.f23).body.getD .skip) (by kernel_rfl) (by kernel_rfl) (by kernel_rfl) ((set_With_eq _ _ _).trans h1) (m := 0) rfl (AllP.of (l' := []) (by kernel_rfl) trivial) fun v objs' hd => ?_
    unfold set_Withd at hd
    split at hd
    · skip
      cases hd
      exact h2
    · cases hd
  · exact ho _ _ _ _ _ h

noncomputable def board_Putc : Ctx := mkC 90 ((set_Witho (piece_Kindo (piece_Sideo (set_Withouto oNil))))) [] lpNil

theorem board_Putc_ok : CtxOK Tryd.prog board_Putc := mkC_ok ((set_Witho_ok _ (piece_Kindo_ok _ (piece_Sideo_ok _ (set_Withouto_ok _ oNil_ok)))))

noncomputable def board_Putd : V → List Obj → Option (List Int × List Int × Int × List (List Int) × List (List Int)) := fun v objs => match v, objs with
  | V.tup [], [Obj.cells 44 [Seg.arr IntKind.i8 81 y0, Seg.arr IntKind.i8 16 y1, Seg.one [S.i IntKind.i8 y2], Seg.rows [.i .u64, .i .u64] 32 y3, Seg.rows [.i .u64, .i .u64] 2 y4]] => some (y0, y1, y2, y3, y4)
  | _, _ => none

theorem board_Put_eq (x0 : Int) (x1 : Int) (x2 : List Int) (x3 : List Int) (x4 : Int) (x5 : List (List Int)) (x6 : List (List Int)) : fnE board_Putc Tryd.f17 ([V.s (S.ptr 0 0 none 0), V.s (S.i IntKind.i64 x0), V.s (S.i IntKind.i8 x1)]) ([Obj.cells 44 [Seg.arr IntKind.i8 81 x2, Seg.arr IntKind.i8 16 x3, Seg.one [S.i IntKind.i8 x4], Seg.rows [.i .u64, .i .u64] 32 x5, Seg.rows [.i .u64, .i .u64] 2 x6]]) board_Putd = board_Put x0 x1 x2 x3 x4 x5 x6 := by kernel_rfl

noncomputable def board_Puta {R : Type} (o : Orc) (vs : List V) (objs : List Obj) (K : Bool → V → List Obj → Option R) : Option R := match vs, objs with
  | [V.s (S.ptr 0 0 none 0), V.s (S.i IntKind.i64 x0), V.s (S.i IntKind.i8 x1)], [Obj.cells 44 [Seg.arr IntKind.i8 81 x2, Seg.arr IntKind.i8 16 x3, Seg.one [S.i IntKind.i8 x4], Seg.rows [.i .u64, .i .u64] 32 x5, Seg.rows [.i .u64, .i .u64] 2 x6]] => ob (board_Put x0 x1 x2 x3 x4 x5 x6) fun z => K false (V.tup []) ([Obj.cells 44 [Seg.arr IntKind.i8 81 (z.1), Seg.arr IntKind.i8 16 (z.2.1), Seg.one [S.i IntKind.i8 (z.2.2.1)], Seg.rows [.i .u64, .i .u64] 32 (z.2.2.2.1), Seg.rows [.i .u64, .i .u64] 2 (z.2.2.2.2)]])
  | _, _ => o 17 vs objs K

noncomputable def board_Puto (o : Orc) : Orc := hook 17 (board_Puta o) o

theorem board_Puto_ok (o : Orc) (ho : OSound Tryd.prog o) : OSound Tryd.prog (board_Puto o) := hook_ok ho fun vs objs K r h => by
  unfold board_Puta at h
  split at h
  · skip
    obtain ⟨t, h1, h2⟩ := ob_ok h
    refine anyOK_of mixed board_Putc_ok (fn := Tryd.f17) (b := (Tryd.f17).body.getD .skip) (by kernel_rfl) (by kernel_rfl) (by kernel_rfl) ((board_Put_eq _ _ _ _ _ _ _).trans h1) (m := 1) rfl (AllP.of (l' := []) (by kernel_rfl) trivial) fun v objs' hd => ?_
    unfold board_Putd at hd
    split at hd
    · skip
      cases hd
      exact h2
    · cases hd
  · exact ho _ _ _ _ _ h

noncomputable def board_Newl4d : Ex → List V → List Obj → Option (List Int × List Int × Int × List (List Int) × List (List Int)) := fun e vs objs => match e, vs, objs with
  | Ex.exit 0, [V.s (S.ptr 0 0 none 0)], [Obj.cells 44 [Seg.arr IntKind.i8 81 y0, Seg.arr IntKind.i8 16 y1, Seg.one [S.i IntKind.i8 y2], Seg.rows [.i .u64, .i .u64] 32 y3, Seg.rows [.i .u64, .i .u64] 2 y4]] => some (y0, y1, y2, y3, y4)
  | _, _, _ => none

noncomputable def board_Newp4 {R : Type} (vs : List V) (objs : List Obj) (K : Ex → List V → List Obj → Option R) : Option R := match vs, objs with
  | [V.s (S.ptr 0 0 none 0), V.agg [Seg.arr IntKind.i8 81 x0], V.s (S.i IntKind.i64 x1)], [Obj.cells 44 [Seg.arr IntKind.i8 81 x2, Seg.arr IntKind.i8 16 x3, Seg.one [S.i IntKind.i8 x4], Seg.rows [.i .u64, .i .u64] 32 x5, Seg.rows [.i .u64, .i .u64] 2 x6]] => ob (board_Newl4 many x0 x1 x2 x3 x4 x5 x6) fun z => K (Ex.exit 0) ([V.s (S.ptr 0 0 none 0)]) ([Obj.cells 44 [Seg.arr IntKind.i8 81 (z.1), Seg.arr IntKind.i8 16 (z.2.1), Seg.one [S.i IntKind.i8 (z.2.2.1)], Seg.rows [.i .u64, .i .u64] 32 (z.2.2.2.1), Seg.rows [.i .u64, .i .u64] 2 (z.2.2.2.2)]])
  | _, _ => none

noncomputable def board_Newlp : {R : Type} → Nat → List V → List Obj → (Ex → List V → List Obj → Option R) → Option R := fun q vs objs K => bif Nat.beq q 4 then board_Newp4 vs objs K else none

noncomputable def board_Newc : Ctx := mkC 32 ((board_Puto oNil)) [(4, [3, 21, 22], [3])] board_Newlp

theorem board_Newc_ok : CtxOK Tryd.prog board_Newc := mkC_ok ((board_Puto_ok _ oNil_ok))

noncomputable def board_Newl4r (f : Nat) (x0 : List Int) (x1 : Int) (x2 : List Int) (x3 : List Int) (x4 : Int) (x5 : List (List Int)) (x6 : List (List Int)) : Option (List Int × List Int × Int × List (List Int) × List (List Int)) := lrun board_Newc 0 [3, 21, 22] [3] (loopOf Tryd.f14 4) f ([V.s (S.ptr 0 0 none 0), V.agg [Seg.arr IntKind.i8 81 x0], V.s (S.i IntKind.i64 x1)]) ([Obj.cells 44 [Seg.arr IntKind.i8 81 x2, Seg.arr IntKind.i8 16 x3, Seg.one [S.i IntKind.i8 x4], Seg.rows [.i .u64, .i .u64] 32 x5, Seg.rows [.i .u64, .i .u64] 2 x6]]) board_Newl4d

theorem board_Newl4_step (f : Nat) (x0 : List Int) (x1 : Int) (x2 : List Int) (x3 : List Int) (x4 : Int) (x5 : List (List Int)) (x6 : List (List Int)) : board_Newl4r (f + 1) x0 x1 x2 x3 x4 x5 x6 = board_Newl4s (board_Newl4r f) x0 x1 x2 x3 x4 x5 x6 := by kernel_rfl

theorem board_Newl4_eq : ∀ f, board_Newl4r f = board_Newl4 f
  | 0 => rfl
  | f + 1 => by funext x0 x1 x2 x3 x4 x5 x6; rw [board_Newl4_step, board_Newl4_eq f]; rfl

theorem board_News4 : LoopSound Tryd.prog board_Newc 0 (loopOf Tryd.f14 4) :=
  loopSound_by mixed board_Newc_ok (AllP.of (l' := []) (by kernel_rfl) trivial) (q := 4) (kin := [3, 21, 22]) (kout := [3]) (by kernel_rfl) (by kernel_rfl) fun vs objs K r h => by
    replace h : board_Newp4 vs objs K = some r := h
    unfold board_Newp4 at h
    split at h
    · skip
      obtain ⟨t, h1, h2⟩ := ob_ok h
      rw [← board_Newl4_eq] at h1
      refine ⟨_, board_Newl4d, t, many, h1, fun e vs' objs' hd => ?_⟩
      unfold board_Newl4d at hd
      split at hd
      · skip
        cases hd
        exact h2
      · cases hd
    · cases h

noncomputable def board_Newd : V → List Obj → Option (List Int × List Int × Int × List (List Int) × List (List Int)) := fun v objs => match v, objs with
  | V.s (S.ptr 0 0 none 0), [Obj.cells 44 [Seg.arr IntKind.i8 81 y0, Seg.arr IntKind.i8 16 y1, Seg.one [S.i IntKind.i8 y2], Seg.rows [.i .u64, .i .u64] 32 y3, Seg.rows [.i .u64, .i .u64] 2 y4]] => some (y0, y1, y2, y3, y4)
  | _, _ => none

theorem board_New_eq (x0 : List Int) (x1 : List Int) (x2 : Int) : fnE board_Newc Tryd.f14 ([V.agg [Seg.arr IntKind.i8 81 x0, Seg.arr IntKind.i8 16 x1, Seg.one [S.i IntKind.i8 x2]]]) ([]) board_Newd = board_New x0 x1 x2 := by kernel_rfl

noncomputable def board_Newa {R : Type} (o : Orc) (vs : List V) (objs : List Obj) (K : Bool → V → List Obj → Option R) : Option R := match vs, objs with
  | [V.agg [Seg.arr IntKind.i8 81 x0, Seg.arr IntKind.i8 16 x1, Seg.one [S.i IntKind.i8 x2]]], [] => ob (board_New x0 x1 x2) fun z => K false (V.s (S.ptr 0 0 none 0)) ([Obj.cells 44 [Seg.arr IntKind.i8 81 (z.1), Seg.arr IntKind.i8 16 (z.2.1), Seg.one [S.i IntKind.i8 (z.2.2.1)], Seg.rows [.i .u64, .i .u64] 32 (z.2.2.2.1), Seg.rows [.i .u64, .i .u64] 2 (z.2.2.2.2)]])
  | _, _ => o 14 vs objs K

noncomputable def board_Newo (o : Orc) : Orc := hook 14 (board_Newa o) o

theorem board_Newo_ok (o : Orc) (ho : OSound Tryd.prog o) : OSound Tryd.prog (board_Newo o) := hook_ok ho fun vs objs K r h => by
  unfold board_Newa at h
  split at h
  · skip
    obtain ⟨t, h1, h2⟩ := ob_ok h
    refine anyOK_of mixed board_Newc_ok (fn := Tryd.f14) (b := (Tryd.f14).body.getD .skip) (by kernel_rfl) (by kernel_rfl) (by kernel_rfl) ((board_New_eq _ _ _).trans h1) (m := 0) rfl (AllP.of (l' := [loopOf Tryd.f14 4]) (by kernel_rfl) ⟨board_News4, trivial⟩) fun v objs' hd => ?_
    unfold board_Newd at hd
    split at hd
    · skip
      cases hd
      exact h2
    · cases hd
  · exact ho _ _ _ _ _ h

noncomputable def board_Takenc : Ctx := mkC 14 ((set_Oro oNil)) [] lpNil

theorem board_Takenc_ok : CtxOK Tryd.prog board_Takenc := mkC_ok ((set_Oro_ok _ oNil_ok))

noncomputable def board_Takend : V → List Obj → Option (Int × Int) := fun v objs => match v, objs with
  | V.agg [Seg.one [S.i IntKind.u64 y0, S.i IntKind.u64 y1]], [] => some (y0, y1)
  | _, _ => none

theorem board_Taken_eq (x0 : List Int) (x1 : List Int) (x2 : Int) (x3 : List (List Int)) (x4 : List (List Int)) : fnE board_Takenc Tryd.f15 ([V.s (S.ptr 0 0 none 0)]) ([Obj.rcells 44 [Seg.arr IntKind.i8 81 x0, Seg.arr IntKind.i8 16 x1, Seg.one [S.i IntKind.i8 x2], Seg.rows [.i .u64, .i .u64] 32 x3, Seg.rows [.i .u64, .i .u64] 2 x4]]) (pureD 1 board_Takend) = board_Taken x0 x1 x2 x3 x4 := by kernel_rfl

noncomputable def board_Takena {R : Type} (o : Orc) (vs : List V) (objs : List Obj) (K : Bool → V → List Obj → Option R) : Option R := match vs, List.map Obj.toRO objs with
  | [V.s (S.ptr 0 0 none 0)], [Obj.rcells 44 [Seg.arr IntKind.i8 81 x0, Seg.arr IntKind.i8 16 x1, Seg.one [S.i IntKind.i8 x2], Seg.rows [.i .u64, .i .u64] 32 x3, Seg.rows [.i .u64, .i .u64] 2 x4]] => ob (board_Taken x0 x1 x2 x3 x4) fun z => K true (V.agg [Seg.one [S.i IntKind.u64 (z.1), S.i IntKind.u64 (z.2)]]) ([])
  | _, _ => o 15 vs objs K

noncomputable def board_Takeno (o : Orc) : Orc := hook 15 (board_Takena o) o

theorem board_Takeno_ok (o : Orc) (ho : OSound Tryd.prog o) : OSound Tryd.prog (board_Takeno o) := hook_ok ho fun vs objs K r h => by
  unfold board_Takena at h
  split at h
  · skip
    have hq : List.map Obj.toRO objs = _ := (by rename_i hq; first | exact hq | assumption)
    obtain ⟨t, h1, h2⟩ := ob_ok h
    refine purOK_by mixed board_Takenc_ok (m := 1) (fn := Tryd.f15) (b := (Tryd.f15).body.getD .skip) (by kernel_rfl) (by kernel_rfl) (by kernel_rfl) hq (by kernel_rfl) (by kernel_rfl) (AllP.of (l' := []) (by kernel_rfl) trivial) ((board_Taken_eq _ _ _ _ _).trans h1) fun v objs' hd => ?_
    unfold board_Takend at hd
    split at hd
    · skip
      cases hd
      exact h2
    · cases hd
  · exact ho _ _ _ _ _ h

noncomputable def bits_OnesCount64c : Ctx := mkC 35 (oNil) [] lpNil

theorem bits_OnesCount64c_ok : CtxOK Tryd.prog bits_OnesCount64c := mkC_ok (oNil_ok)

noncomputable def bits_OnesCount64d : V → List Obj → Option (Int) := fun v objs => match v, objs with
  | V.s (S.i IntKind.i64 y0), [] => some (y0)
  | _, _ => none

theorem bits_OnesCount64_eq (x0 : Int) : fnE bits_OnesCount64c Tryd.f49 ([V.s (S.i IntKind.u64 x0)]) ([]) bits_OnesCount64d = bits_OnesCount64 x0 := by kernel_rfl

noncomputable def bits_OnesCount64a {R : Type} (o : Orc) (vs : List V) (objs : List Obj) (K : Bool → V → List Obj → Option R) : Option R := match vs, objs with
  | [V.s (S.i IntKind.u64 x0)], [] => ob (bits_OnesCount64 x0) fun y0 => K false (V.s (S.i IntKind.i64 y0)) ([])
  | _, _ => o 49 vs objs K

noncomputable def bits_OnesCount64o (o : Orc) : Orc := hook 49 (bits_OnesCount64a o) o

theorem bits_OnesCount64o_ok (o : Orc) (ho : OSound Tryd.prog o) : OSound Tryd.prog (bits_OnesCount64o o) := hook_ok ho fun vs objs K r h => by
  unfold bits_OnesCount64a at h
  split at h
  · skip
    obtain ⟨t, h1, h2⟩ := ob_ok h
    refine anyOK_of mixed bits_OnesCount64c_ok (fn := Tryd.f49) (b := (Tryd.f49).body.getD .skip) (by kernel_rfl) (by kernel_rfl) (by kernel_rfl) ((bits_OnesCount64_eq _).trans h1) (m := 0) rfl (AllP.of (l' := []) (by kernel_rfl) trivial) fun v objs' hd => ?_
    unfold bits_OnesCount64d at hd
    split at hd
    · skip
      cases hd
      exact h2
    · cases hd
  · exact ho _ _ _ _ _ h

noncomputable def set_Countc : Ctx := mkC 10 ((bits_OnesCount64o oNil)) [] lpNil

theorem set_Countc_ok : CtxOK Tryd.prog set_Countc := mkC_ok ((bits_OnesCount64o_ok _ oNil_ok))

noncomputable def set_Countd : V → List Obj → Option (Int) := fun v objs => match v, objs with
  | V.s (S.i IntKind.i64 y0), [] => some (y0)
  | _, _ => none

theorem set_Count_eq (x0 : Int) (x1 : Int) : fnE set_Countc Tryd.f31 ([V.agg [Seg.one [S.i IntKind.u64 x0, S.i IntKind.u64 x1]]]) ([]) set_Countd = set_Count x0 x1 := by kernel_rfl

noncomputable def set_Counta {R : Type} (o : Orc) (vs : List V) (objs : List Obj) (K : Bool → V → List Obj → Option R) : Option R := match vs, objs with
  | [V.agg [Seg.one [S.i IntKind.u64 x0, S.i IntKind.u64 x1]]], [] => ob (set_Count x0 x1) fun y0 => K false (V.s (S.i IntKind.i64 y0)) ([])
  | _, _ => o 31 vs objs K

noncomputable def set_Counto (o : Orc) : Orc := hook 31 (set_Counta o) o

theorem set_Counto_ok (o : Orc) (ho : OSound Tryd.prog o) : OSound Tryd.prog (set_Counto o) := hook_ok ho fun vs objs K r h => by
  unfold set_Counta at h
  split at h
  · skip
    obtain ⟨t, h1, h2⟩ := ob_ok h
    refine anyOK_of mixed set_Countc_ok (fn := Tryd.f31) (b := (Tryd.f31).body.getD .skip) (by kernel_rfl) (by kernel_rfl) (by kernel_rfl) ((set_Count_eq _ _).trans h1) (m := 0) rfl (AllP.of (l' := []) (by kernel_rfl) trivial) fun v objs' hd => ?_
    unfold set_Countd at hd
    split at hd
    · skip
      cases hd
      exact h2
    · cases hd
  · exact ho _ _ _ _ _ h

noncomputable def board_Atc : Ctx := mkC 18 (oNil) [] lpNil

theorem board_Atc_ok : CtxOK Tryd.prog board_Atc := mkC_ok (oNil_ok)

noncomputable def board_Atd : V → List Obj → Option (Int) := fun v objs => match v, objs with
  | V.s (S.i IntKind.i8 y0), [] => some (y0)
  | _, _ => none

theorem board_At_eq (x0 : Int) (x1 : List Int) (x2 : List Int) (x3 : Int) (x4 : List (List Int)) (x5 : List (List Int)) : fnE board_Atc Tryd.f16 ([V.s (S.ptr 0 0 none 0), V.s (S.i IntKind.i64 x0)]) ([Obj.rcells 44 [Seg.arr IntKind.i8 81 x1, Seg.arr IntKind.i8 16 x2, Seg.one [S.i IntKind.i8 x3], Seg.rows [.i .u64, .i .u64] 32 x4, Seg.rows [.i .u64, .i .u64] 2 x5]]) (pureD 1 board_Atd) = board_At x0 x1 x2 x3 x4 x5 := by kernel_rfl

noncomputable def board_Ata {R : Type} (o : Orc) (vs : List V) (objs : List Obj) (K : Bool → V → List Obj → Option R) : Option R := match vs, List.map Obj.toRO objs with
  | [V.s (S.ptr 0 0 none 0), V.s (S.i IntKind.i64 x0)], [Obj.rcells 44 [Seg.arr IntKind.i8 81 x1, Seg.arr IntKind.i8 16 x2, Seg.one [S.i IntKind.i8 x3], Seg.rows [.i .u64, .i .u64] 32 x4, Seg.rows [.i .u64, .i .u64] 2 x5]] => ob (board_At x0 x1 x2 x3 x4 x5) fun y0 => K true (V.s (S.i IntKind.i8 y0)) ([])
  | _, _ => o 16 vs objs K

noncomputable def board_Ato (o : Orc) : Orc := hook 16 (board_Ata o) o

theorem board_Ato_ok (o : Orc) (ho : OSound Tryd.prog o) : OSound Tryd.prog (board_Ato o) := hook_ok ho fun vs objs K r h => by
  unfold board_Ata at h
  split at h
  · skip
    have hq : List.map Obj.toRO objs = _ := (by rename_i hq; first | exact hq | assumption)
    obtain ⟨t, h1, h2⟩ := ob_ok h
    refine purOK_by mixed board_Atc_ok (m := 1) (fn := Tryd.f16) (b := (Tryd.f16).body.getD .skip) (by kernel_rfl) (by kernel_rfl) (by kernel_rfl) hq (by kernel_rfl) (by kernel_rfl) (AllP.of (l' := []) (by kernel_rfl) trivial) ((board_At_eq _ _ _ _ _ _).trans h1) fun v objs' hd => ?_
    unfold board_Atd at hd
    split at hd
    · skip
      cases hd
      exact h2
    · cases hd
  · exact ho _ _ _ _ _ h

noncomputable def board_Ofc : Ctx := mkC 20 ((piece_Ofo oNil)) [] lpNil

theorem board_Ofc_ok : CtxOK Tryd.prog board_Ofc := mkC_ok ((piece_Ofo_ok _ oNil_ok))

noncomputable def board_Ofd : V → List Obj → Option (Int × Int) := fun v objs => match v, objs with
  | V.agg [Seg.one [S.i IntKind.u64 y0, S.i IntKind.u64 y1]], [] => some (y0, y1)
  | _, _ => none

theorem board_Of_eq (x0 : Int) (x1 : Int) (x2 : List Int) (x3 : List Int) (x4 : Int) (x5 : List (List Int)) (x6 : List (List Int)) : fnE board_Ofc Tryd.f24 ([V.s (S.ptr 0 0 none 0), V.s (S.i IntKind.i64 x0), V.s (S.i IntKind.i64 x1)]) ([Obj.rcells 44 [Seg.arr IntKind.i8 81 x2, Seg.arr IntKind.i8 16 x3, Seg.one [S.i IntKind.i8 x4], Seg.rows [.i .u64, .i .u64] 32 x5, Seg.rows [.i .u64, .i .u64] 2 x6]]) (pureD 1 board_Ofd) = board_Of x0 x1 x2 x3 x4 x5 x6 := by kernel_rfl

noncomputable def board_Ofa {R : Type} (o : Orc) (vs : List V) (objs : List Obj) (K : Bool → V → List Obj → Option R) : Option R := match vs, List.map Obj.toRO objs with
  | [V.s (S.ptr 0 0 none 0), V.s (S.i IntKind.i64 x0), V.s (S.i IntKind.i64 x1)], [Obj.rcells 44 [Seg.arr IntKind.i8 81 x2, Seg.arr IntKind.i8 16 x3, Seg.one [S.i IntKind.i8 x4], Seg.rows [.i .u64, .i .u64] 32 x5, Seg.rows [.i .u64, .i .u64] 2 x6]] => ob (board_Of x0 x1 x2 x3 x4 x5 x6) fun z => K true (V.agg [Seg.one [S.i IntKind.u64 (z.1), S.i IntKind.u64 (z.2)]]) ([])
  | _, _ => o 24 vs objs K

noncomputable def board_Ofo (o : Orc) : Orc := hook 24 (board_Ofa o) o

theorem board_Ofo_ok (o : Orc) (ho : OSound Tryd.prog o) : OSound Tryd.prog (board_Ofo o) := hook_ok ho fun vs objs K r h => by
  unfold board_Ofa at h
  split at h
  · skip
    have hq : List.map Obj.toRO objs = _ := (by rename_i hq; first | exact hq | assumption)
    obtain ⟨t, h1, h2⟩ := ob_ok h
    refine purOK_by mixed board_Ofc_ok (m := 1) (fn := Tryd.f24) (b := (Tryd.f24).body.getD .skip) (by kernel_rfl) (by kernel_rfl) (by kernel_rfl) hq (by kernel_rfl) (by kernel_rfl) (AllP.of (l' := []) (by kernel_rfl) trivial) ((board_Of_eq _ _ _ _ _ _ _).trans h1) fun v objs' hd => ?_
    unfold board_Ofd at hd
    split at hd
    · skip
      cases hd
      exact h2
    · cases hd
  · exact ho _ _ _ _ _ h

noncomputable def bits_TrailingZeros64c : Ctx := mkC 14 (oNil) [] lpNil

theorem bits_TrailingZeros64c_ok : CtxOK Tryd.prog bits_TrailingZeros64c := mkC_ok (oNil_ok)

noncomputable def bits_TrailingZeros64d : V → List Obj → Option (Int) := fun v objs => match v, objs with
  | V.s (S.i IntKind.i64 y0), [] => some (y0)
  | _, _ => none

theorem bits_TrailingZeros64_eqb (B : {R : Type} → Bool → Option R → Option R → Option R) (x0 : Int) : fnE { bits_TrailingZeros64c with brg := B } Tryd.f48 ([V.s (S.i IntKind.u64 x0)]) ([]) bits_TrailingZeros64d = bits_TrailingZeros64b B x0 := by kernel_rfl

theorem bits_TrailingZeros64_eq (x0 : Int) : fnE bits_TrailingZeros64c Tryd.f48 ([V.s (S.i IntKind.u64 x0)]) ([]) bits_TrailingZeros64d = bits_TrailingZeros64 x0 := bits_TrailingZeros64_eqb br x0

noncomputable def bits_TrailingZeros64a {R : Type} (o : Orc) (vs : List V) (objs : List Obj) (K : Bool → V → List Obj → Option R) : Option R := match vs, objs with
  | [V.s (S.i IntKind.u64 x0)], [] => ob (bits_TrailingZeros64 x0) fun y0 => K false (V.s (S.i IntKind.i64 y0)) ([])
  | _, _ => o 48 vs objs K

noncomputable def bits_TrailingZeros64o (o : Orc) : Orc := hook 48 (bits_TrailingZeros64a o) o

theorem bits_TrailingZeros64o_ok (o : Orc) (ho : OSound Tryd.prog o) : OSound Tryd.prog (bits_TrailingZeros64o o) := hook_ok ho fun vs objs K r h => by
  unfold bits_TrailingZeros64a at h
  split at h
  · skip
    obtain ⟨t, h1, h2⟩ := ob_ok h
    refine anyOK_of mixed bits_TrailingZeros64c_ok (fn := Tryd.f48) (b := (Tryd.f48).body.getD .skip) (by kernel_rfl) (by kernel_rfl) (by kernel_rfl) ((bits_TrailingZeros64_eq _).trans h1) (m := 0) rfl (AllP.of (l' := []) (by kernel_rfl) trivial) fun v objs' hd => ?_
    unfold bits_TrailingZeros64d at hd
    split at hd
    · skip
      cases hd
      exact h2
    · cases hd
  · exact ho _ _ _ _ _ h

noncomputable def set_Firstc : Ctx := mkC 18 ((bits_TrailingZeros64o oNil)) [] lpNil

theorem set_Firstc_ok : CtxOK Tryd.prog set_Firstc := mkC_ok ((bits_TrailingZeros64o_ok _ oNil_ok))

noncomputable def set_Firstd : V → List Obj → Option (Int) := fun v objs => match v, objs with
  | V.s (S.i IntKind.i64 y0), [] => some (y0)
  | _, _ => none

theorem set_First_eq (x0 : Int) (x1 : Int) : fnE set_Firstc Tryd.f27 ([V.agg [Seg.one [S.i IntKind.u64 x0, S.i IntKind.u64 x1]]]) ([]) set_Firstd = set_First x0 x1 := by kernel_rfl

noncomputable def set_Firsta {R : Type} (o : Orc) (vs : List V) (objs : List Obj) (K : Bool → V → List Obj → Option R) : Option R := match vs, objs with
  | [V.agg [Seg.one [S.i IntKind.u64 x0, S.i IntKind.u64 x1]]], [] => ob (set_First x0 x1) fun y0 => K false (V.s (S.i IntKind.i64 y0)) ([])
  | _, _ => o 27 vs objs K

noncomputable def set_Firsto (o : Orc) : Orc := hook 27 (set_Firsta o) o

theorem set_Firsto_ok (o : Orc) (ho : OSound Tryd.prog o) : OSound Tryd.prog (set_Firsto o) := hook_ok ho fun vs objs K r h => by
  unfold set_Firsta at h
  split at h
  · skip
    obtain ⟨t, h1, h2⟩ := ob_ok h
    refine anyOK_of mixed set_Firstc_ok (fn := Tryd.f27) (b := (Tryd.f27).body.getD .skip) (by kernel_rfl) (by kernel_rfl) (by kernel_rfl) ((set_First_eq _ _).trans h1) (m := 0) rfl (AllP.of (l' := []) (by kernel_rfl) trivial) fun v objs' hd => ?_
    unfold set_Firstd at hd
    split at hd
    · skip
      cases hd
      exact h2
    · cases hd
  · exact ho _ _ _ _ _ h

noncomputable def board_Kingc : Ctx := mkC 9 ((set_Firsto (board_Ofo oNil))) [] lpNil

theorem board_Kingc_ok : CtxOK Tryd.prog board_Kingc := mkC_ok ((set_Firsto_ok _ (board_Ofo_ok _ oNil_ok)))

noncomputable def board_Kingd : V → List Obj → Option (Int) := fun v objs => match v, objs with
  | V.s (S.i IntKind.i64 y0), [] => some (y0)
  | _, _ => none

theorem board_King_eq (x0 : Int) (x1 : List Int) (x2 : List Int) (x3 : Int) (x4 : List (List Int)) (x5 : List (List Int)) : fnE board_Kingc Tryd.f26 ([V.s (S.ptr 0 0 none 0), V.s (S.i IntKind.i64 x0)]) ([Obj.rcells 44 [Seg.arr IntKind.i8 81 x1, Seg.arr IntKind.i8 16 x2, Seg.one [S.i IntKind.i8 x3], Seg.rows [.i .u64, .i .u64] 32 x4, Seg.rows [.i .u64, .i .u64] 2 x5]]) (pureD 1 board_Kingd) = board_King x0 x1 x2 x3 x4 x5 := by kernel_rfl

noncomputable def board_Kinga {R : Type} (o : Orc) (vs : List V) (objs : List Obj) (K : Bool → V → List Obj → Option R) : Option R := match vs, List.map Obj.toRO objs with
  | [V.s (S.ptr 0 0 none 0), V.s (S.i IntKind.i64 x0)], [Obj.rcells 44 [Seg.arr IntKind.i8 81 x1, Seg.arr IntKind.i8 16 x2, Seg.one [S.i IntKind.i8 x3], Seg.rows [.i .u64, .i .u64] 32 x4, Seg.rows [.i .u64, .i .u64] 2 x5]] => ob (board_King x0 x1 x2 x3 x4 x5) fun y0 => K true (V.s (S.i IntKind.i64 y0)) ([])
  | _, _ => o 26 vs objs K

noncomputable def board_Kingo (o : Orc) : Orc := hook 26 (board_Kinga o) o

theorem board_Kingo_ok (o : Orc) (ho : OSound Tryd.prog o) : OSound Tryd.prog (board_Kingo o) := hook_ok ho fun vs objs K r h => by
  unfold board_Kinga at h
  split at h
  · skip
    have hq : List.map Obj.toRO objs = _ := (by rename_i hq; first | exact hq | assumption)
    obtain ⟨t, h1, h2⟩ := ob_ok h
    refine purOK_by mixed board_Kingc_ok (m := 1) (fn := Tryd.f26) (b := (Tryd.f26).body.getD .skip) (by kernel_rfl) (by kernel_rfl) (by kernel_rfl) hq (by kernel_rfl) (by kernel_rfl) (AllP.of (l' := []) (by kernel_rfl) trivial) ((board_King_eq _ _ _ _ _ _).trans h1) fun v objs' hd => ?_
    unfold board_Kingd at hd
    split at hd
    · skip
      cases hd
      exact h2
    · cases hd
  · exact ho _ _ _ _ _ h

noncomputable def piece_Rawc : Ctx := mkC 13 ((piece_Ofo oNil)) [] lpNil

theorem piece_Rawc_ok : CtxOK Tryd.prog piece_Rawc := mkC_ok ((piece_Ofo_ok _ oNil_ok))

noncomputable def piece_Rawd : V → List Obj → Option (Int) := fun v objs => match v, objs with
  | V.s (S.i IntKind.i64 y0), [] => some (y0)
  | _, _ => none

theorem piece_Raw_eq (x0 : Int) : fnE piece_Rawc Tryd.f34 ([V.s (S.i IntKind.i64 x0)]) ([]) piece_Rawd = piece_Raw x0 := by kernel_rfl

noncomputable def piece_Rawa {R : Type} (o : Orc) (vs : List V) (objs : List Obj) (K : Bool → V → List Obj → Option R) : Option R := match vs, objs with
  | [V.s (S.i IntKind.i64 x0)], [] => ob (piece_Raw x0) fun y0 => K false (V.s (S.i IntKind.i64 y0)) ([])
  | _, _ => o 34 vs objs K

noncomputable def piece_Rawo (o : Orc) : Orc := hook 34 (piece_Rawa o) o

theorem piece_Rawo_ok (o : Orc) (ho : OSound Tryd.prog o) : OSound Tryd.prog (piece_Rawo o) := hook_ok ho fun vs objs K r h => by
  unfold piece_Rawa at h
  split at h
  · skip
    obtain ⟨t, h1, h2⟩ := ob_ok h
    refine anyOK_of mixed piece_Rawc_ok (fn := Tryd.f34) (b := (Tryd.f34).body.getD .skip) (by kernel_rfl) (by kernel_rfl) (by kernel_rfl) ((piece_Raw_eq _).trans h1) (m := 0) rfl (AllP.of (l' := []) (by kernel_rfl) trivial) fun v objs' hd => ?_
    unfold piece_Rawd at hd
    split at hd
    · skip
      cases hd
      exact h2
    · cases hd
  · exact ho _ _ _ _ _ h

noncomputable def piece_Totalc : Ctx := mkC 15 (oNil) [] lpNil

theorem piece_Totalc_ok : CtxOK Tryd.prog piece_Totalc := mkC_ok (oNil_ok)

noncomputable def piece_Totald : V → List Obj → Option (Int) := fun v objs => match v, objs with
  | V.s (S.i IntKind.i64 y0), [] => some (y0)
  | _, _ => none

theorem piece_Total_eq (x0 : Int) : fnE piece_Totalc Tryd.f35 ([V.s (S.i IntKind.i64 x0)]) ([]) piece_Totald = piece_Total x0 := by kernel_rfl

noncomputable def piece_Totala {R : Type} (o : Orc) (vs : List V) (objs : List Obj) (K : Bool → V → List Obj → Option R) : Option R := match vs, objs with
  | [V.s (S.i IntKind.i64 x0)], [] => ob (piece_Total x0) fun y0 => K false (V.s (S.i IntKind.i64 y0)) ([])
  | _, _ => o 35 vs objs K

noncomputable def piece_Totalo (o : Orc) : Orc := hook 35 (piece_Totala o) o

theorem piece_Totalo_ok (o : Orc) (ho : OSound Tryd.prog o) : OSound Tryd.prog (piece_Totalo o) := hook_ok ho fun vs objs K r h => by
  unfold piece_Totala at h
  split at h
  · skip
    obtain ⟨t, h1, h2⟩ := ob_ok h
    refine anyOK_of mixed piece_Totalc_ok (fn := Tryd.f35) (b := (Tryd.f35).body.getD .skip) (by kernel_rfl) (by kernel_rfl) (by kernel_rfl) ((piece_Total_eq _).trans h1) (m := 0) rfl (AllP.of (l' := []) (by kernel_rfl) trivial) fun v objs' hd => ?_
    unfold piece_Totald at hd
    split at hd
    · skip
      cases hd
      exact h2
    · cases hd
  · exact ho _ _ _ _ _ h

noncomputable def set_Rankc : Ctx := mkC 5 (oNil) [] lpNil

theorem set_Rankc_ok : CtxOK Tryd.prog set_Rankc := mkC_ok (oNil_ok)

noncomputable def set_Rankd : V → List Obj → Option (Int) := fun v objs => match v, objs with
  | V.s (S.i IntKind.i64 y0), [] => some (y0)
  | _, _ => none

theorem set_Rank_eq (x0 : Int) : fnE set_Rankc Tryd.f56 ([V.s (S.i IntKind.i64 x0)]) ([]) set_Rankd = set_Rank x0 := by kernel_rfl

noncomputable def set_Ranka {R : Type} (o : Orc) (vs : List V) (objs : List Obj) (K : Bool → V → List Obj → Option R) : Option R := match vs, objs with
  | [V.s (S.i IntKind.i64 x0)], [] => ob (set_Rank x0) fun y0 => K false (V.s (S.i IntKind.i64 y0)) ([])
  | _, _ => o 56 vs objs K

noncomputable def set_Ranko (o : Orc) : Orc := hook 56 (set_Ranka o) o

theorem set_Ranko_ok (o : Orc) (ho : OSound Tryd.prog o) : OSound Tryd.prog (set_Ranko o) := hook_ok ho fun vs objs K r h => by
  unfold set_Ranka at h
  split at h
  · skip
    obtain ⟨t, h1, h2⟩ := ob_ok h
    refine anyOK_of mixed set_Rankc_ok (fn := Tryd.f56) (b := (Tryd.f56).body.getD .skip) (by kernel_rfl) (by kernel_rfl) (by kernel_rfl) ((set_Rank_eq _).trans h1) (m := 0) rfl (AllP.of (l' := []) (by kernel_rfl) trivial) fun v objs' hd => ?_
    unfold set_Rankd at hd
    split at hd
    · skip
      cases hd
      exact h2
    · cases hd
  · exact ho _ _ _ _ _ h

noncomputable def step_Farc : Ctx := mkC 23 ((set_Ranko oNil)) [] lpNil

theorem step_Farc_ok : CtxOK Tryd.prog step_Farc := mkC_ok ((set_Ranko_ok _ oNil_ok))

noncomputable def step_Fard : V → List Obj → Option (Int) := fun v objs => match v, objs with
  | V.s (S.i IntKind.i64 y0), [] => some (y0)
  | _, _ => none

theorem step_Far_eq (x0 : Int) (x1 : Int) : fnE step_Farc Tryd.f55 ([V.s (S.i IntKind.i64 x0), V.s (S.i IntKind.i64 x1)]) ([]) step_Fard = step_Far x0 x1 := by kernel_rfl

noncomputable def step_Fara {R : Type} (o : Orc) (vs : List V) (objs : List Obj) (K : Bool → V → List Obj → Option R) : Option R := match vs, objs with
  | [V.s (S.i IntKind.i64 x0), V.s (S.i IntKind.i64 x1)], [] => ob (step_Far x0 x1) fun y0 => K false (V.s (S.i IntKind.i64 y0)) ([])
  | _, _ => o 55 vs objs K

noncomputable def step_Faro (o : Orc) : Orc := hook 55 (step_Fara o) o

theorem step_Faro_ok (o : Orc) (ho : OSound Tryd.prog o) : OSound Tryd.prog (step_Faro o) := hook_ok ho fun vs objs K r h => by
  unfold step_Fara at h
  split at h
  · skip
    obtain ⟨t, h1, h2⟩ := ob_ok h
    refine anyOK_of mixed step_Farc_ok (fn := Tryd.f55) (b := (Tryd.f55).body.getD .skip) (by kernel_rfl) (by kernel_rfl) (by kernel_rfl) ((step_Far_eq _ _).trans h1) (m := 0) rfl (AllP.of (l' := []) (by kernel_rfl) trivial) fun v objs' hd => ?_
    unfold step_Fard at hd
    split at hd
    · skip
      cases hd
      exact h2
    · cases hd
  · exact ho _ _ _ _ _ h

noncomputable def step_Deadc : Ctx := mkC 25 ((piece_Kindo (step_Faro (piece_Sideo oNil)))) [] lpNil

theorem step_Deadc_ok : CtxOK Tryd.prog step_Deadc := mkC_ok ((piece_Kindo_ok _ (step_Faro_ok _ (piece_Sideo_ok _ oNil_ok))))

noncomputable def step_Deadd : V → List Obj → Option (Bool) := fun v objs => match v, objs with
  | V.s (S.b y0), [] => some (y0)
  | _, _ => none

theorem step_Dead_eq (x0 : Int) (x1 : Int) : fnE step_Deadc Tryd.f50 ([V.s (S.i IntKind.i8 x0), V.s (S.i IntKind.i64 x1)]) ([]) step_Deadd = step_Dead x0 x1 := by kernel_rfl

noncomputable def step_Deada {R : Type} (o : Orc) (vs : List V) (objs : List Obj) (K : Bool → V → List Obj → Option R) : Option R := match vs, objs with
  | [V.s (S.i IntKind.i8 x0), V.s (S.i IntKind.i64 x1)], [] => ob (step_Dead x0 x1) fun y0 => K false (V.s (S.b y0)) ([])
  | _, _ => o 50 vs objs K

noncomputable def step_Deado (o : Orc) : Orc := hook 50 (step_Deada o) o

theorem step_Deado_ok (o : Orc) (ho : OSound Tryd.prog o) : OSound Tryd.prog (step_Deado o) := hook_ok ho fun vs objs K r h => by
  unfold step_Deada at h
  split at h
  · skip
    obtain ⟨t, h1, h2⟩ := ob_ok h
    refine anyOK_of mixed step_Deadc_ok (fn := Tryd.f50) (b := (Tryd.f50).body.getD .skip) (by kernel_rfl) (by kernel_rfl) (by kernel_rfl) ((step_Dead_eq _ _).trans h1) (m := 0) rfl (AllP.of (l' := []) (by kernel_rfl) trivial) fun v objs' hd => ?_
    unfold step_Deadd at hd
    split at hd
    · skip
      cases hd
      exact h2
    · cases hd
  · exact ho _ _ _ _ _ h

noncomputable def set_InFilel3d : Ex → List V → List Obj → Option (Int × Int × Int × Int) := fun e vs objs => match e, vs, objs with
  | Ex.exit 0, [V.s (S.ptr 0 0 none 0), V.s (S.ptr 1 0 none 0)], [Obj.cells 40 [Seg.one [S.i IntKind.u64 y0, S.i IntKind.u64 y1]], Obj.cells 40 [Seg.one [S.i IntKind.u64 y2, S.i IntKind.u64 y3]]] => some (y0, y1, y2, y3)
  | _, _, _ => none

noncomputable def set_InFilep3 {R : Type} (vs : List V) (objs : List Obj) (K : Ex → List V → List Obj → Option R) : Option R := match vs, objs with
  | [V.s (S.i IntKind.i64 x0), V.s (S.ptr 0 0 none 0), V.s (S.ptr 1 0 none 0), V.s (S.i IntKind.i64 x1)], [Obj.cells 40 [Seg.one [S.i IntKind.u64 x2, S.i IntKind.u64 x3]], Obj.cells 40 [Seg.one [S.i IntKind.u64 x4, S.i IntKind.u64 x5]]] => ob (set_InFilel3 many x0 x1 x2 x3 x4 x5) fun z => K (Ex.exit 0) ([V.s (S.ptr 0 0 none 0), V.s (S.ptr 1 0 none 0)]) ([Obj.cells 40 [Seg.one [S.i IntKind.u64 (z.1), S.i IntKind.u64 (z.2.1)]], Obj.cells 40 [Seg.one [S.i IntKind.u64 (z.2.2.1), S.i IntKind.u64 (z.2.2.2)]]])
  | _, _ => none

noncomputable def set_InFilelp : {R : Type} → Nat → List V → List Obj → (Ex → List V → List Obj → Option R) → Option R := fun q vs objs K => bif Nat.beq q 3 then set_InFilep3 vs objs K else none

noncomputable def set_InFilec : Ctx := mkC 15 ((set_Witho (set_Squareo oNil))) [(3, [0, 2, 3, 5], [2, 3])] set_InFilelp

theorem set_InFilec_ok : CtxOK Tryd.prog set_InFilec := mkC_ok ((set_Witho_ok _ (set_Squareo_ok _ oNil_ok)))

noncomputable def set_InFilel3r (f : Nat) (x0 : Int) (x1 : Int) (x2 : Int) (x3 : Int) (x4 : Int) (x5 : Int) : Option (Int × Int × Int × Int) := lrun set_InFilec 0 [0, 2, 3, 5] [2, 3] (loopOf Tryd.f51 3) f ([V.s (S.i IntKind.i64 x0), V.s (S.ptr 0 0 none 0), V.s (S.ptr 1 0 none 0), V.s (S.i IntKind.i64 x1)]) ([Obj.cells 40 [Seg.one [S.i IntKind.u64 x2, S.i IntKind.u64 x3]], Obj.cells 40 [Seg.one [S.i IntKind.u64 x4, S.i IntKind.u64 x5]]]) set_InFilel3d

theorem set_InFilel3_step (f : Nat) (x0 : Int) (x1 : Int) (x2 : Int) (x3 : Int) (x4 : Int) (x5 : Int) : set_InFilel3r (f + 1) x0 x1 x2 x3 x4 x5 = set_InFilel3s (set_InFilel3r f) x0 x1 x2 x3 x4 x5 := by kernel_rfl

theorem set_InFilel3_eq : ∀ f, set_InFilel3r f = set_InFilel3 f
  | 0 => rfl
  | f + 1 => by funext x0 x1 x2 x3 x4 x5; rw [set_InFilel3_step, set_InFilel3_eq f]; rfl

theorem set_InFiles3 : LoopSound Tryd.prog set_InFilec 0 (loopOf Tryd.f51 3) :=
  loopSound_by mixed set_InFilec_ok (AllP.of (l' := []) (by kernel_rfl) trivial) (q := 3) (kin := [0, 2, 3, 5]) (kout := [2, 3]) (by kernel_rfl) (by kernel_rfl) fun vs objs K r h => by
    replace h : set_InFilep3 vs objs K = some r := h
    unfold set_InFilep3 at h
    split at h
    · skip
      obtain ⟨t, h1, h2⟩ := ob_ok h
      rw [← set_InFilel3_eq] at h1
      refine ⟨_, set_InFilel3d, t, many, h1, fun e vs' objs' hd => ?_⟩
      unfold set_InFilel3d at hd
      split at hd
      · skip
        cases hd
        exact h2
      · cases hd
    · cases h

noncomputable def set_InFiled : V → List Obj → Option (Int × Int) := fun v objs => match v, objs with
  | V.agg [Seg.one [S.i IntKind.u64 y0, S.i IntKind.u64 y1]], [] => some (y0, y1)
  | _, _ => none

theorem set_InFile_eq (x0 : Int) : fnE set_InFilec Tryd.f51 ([V.s (S.i IntKind.i64 x0)]) ([]) set_InFiled = set_InFile x0 := by kernel_rfl

noncomputable def set_InFilea {R : Type} (o : Orc) (vs : List V) (objs : List Obj) (K : Bool → V → List Obj → Option R) : Option R := match vs, objs with
  | [V.s (S.i IntKind.i64 x0)], [] => ob (set_InFile x0) fun z => K false (V.agg [Seg.one [S.i IntKind.u64 (z.1), S.i IntKind.u64 (z.2)]]) ([])
  | _, _ => o 51 vs objs K

noncomputable def set_InFileo (o : Orc) : Orc := hook 51 (set_InFilea o) o

theorem set_InFileo_ok (o : Orc) (ho : OSound Tryd.prog o) : OSound Tryd.prog (set_InFileo o) := hook_ok ho fun vs objs K r h => by
  unfold set_InFilea at h
  split at h
  · skip
    obtain ⟨t, h1, h2⟩ := ob_ok h
    refine anyOK_of mixed set_InFilec_ok (fn := Tryd.f51) (b := (Tryd.f51).body.getD .skip) (by kernel_rfl) (by kernel_rfl) (by kernel_rfl) ((set_InFile_eq _).trans h1) (m := 0) rfl (AllP.of (l' := [loopOf Tryd.f51 3]) (by kernel_rfl) ⟨set_InFiles3, trivial⟩) fun v objs' hd => ?_
    unfold set_InFiled at hd
    split at hd
    · skip
      cases hd
      exact h2
    · cases hd
  · exact ho _ _ _ _ _ h

noncomputable def set_Andc : Ctx := mkC 16 (oNil) [] lpNil

theorem set_Andc_ok : CtxOK Tryd.prog set_Andc := mkC_ok (oNil_ok)

noncomputable def set_Andd : V → List Obj → Option (Int × Int) := fun v objs => match v, objs with
  | V.agg [Seg.one [S.i IntKind.u64 y0, S.i IntKind.u64 y1]], [] => some (y0, y1)
  | _, _ => none

theorem set_And_eq (x0 : Int) (x1 : Int) (x2 : Int) (x3 : Int) : fnE set_Andc Tryd.f20 ([V.agg [Seg.one [S.i IntKind.u64 x0, S.i IntKind.u64 x1]], V.agg [Seg.one [S.i IntKind.u64 x2, S.i IntKind.u64 x3]]]) ([]) set_Andd = set_And x0 x1 x2 x3 := by kernel_rfl

noncomputable def set_Anda {R : Type} (o : Orc) (vs : List V) (objs : List Obj) (K : Bool → V → List Obj → Option R) : Option R := match vs, objs with
  | [V.agg [Seg.one [S.i IntKind.u64 x0, S.i IntKind.u64 x1]], V.agg [Seg.one [S.i IntKind.u64 x2, S.i IntKind.u64 x3]]], [] => ob (set_And x0 x1 x2 x3) fun z => K false (V.agg [Seg.one [S.i IntKind.u64 (z.1), S.i IntKind.u64 (z.2)]]) ([])
  | _, _ => o 20 vs objs K

noncomputable def set_Ando (o : Orc) : Orc := hook 20 (set_Anda o) o

theorem set_Ando_ok (o : Orc) (ho : OSound Tryd.prog o) : OSound Tryd.prog (set_Ando o) := hook_ok ho fun vs objs K r h => by
  unfold set_Anda at h
  split at h
  · skip
    obtain ⟨t, h1, h2⟩ := ob_ok h
    refine anyOK_of mixed set_Andc_ok (fn := Tryd.f20) (b := (Tryd.f20).body.getD .skip) (by kernel_rfl) (by kernel_rfl) (by kernel_rfl) ((set_And_eq _ _ _ _).trans h1) (m := 0) rfl (AllP.of (l' := []) (by kernel_rfl) trivial) fun v objs' hd => ?_
    unfold set_Andd at hd
    split at hd
    · skip
      cases hd
      exact h2
    · cases hd
  · exact ho _ _ _ _ _ h

noncomputable def board_filesl2d : Ex → List V → List Obj → Option ((Int × List Int × List Int × Int) ⊕ (List Int × List Int × Int)) := fun e vs objs => match e, vs, objs with
  | Ex.ret, [V.s (S.ptr 0 0 none 0), V.s (S.i IntKind.i64 y0)], [Obj.cells 28 [Seg.arr IntKind.i8 81 y1, Seg.arr IntKind.i8 16 y2, Seg.one [S.i IntKind.i8 y3]]] => some (Sum.inl (y0, y1, y2, y3))
  | Ex.exit 0, [V.s (S.ptr 0 0 none 0), V.s S.bad], [Obj.cells 28 [Seg.arr IntKind.i8 81 y0, Seg.arr IntKind.i8 16 y1, Seg.one [S.i IntKind.i8 y2]]] => some (Sum.inr (y0, y1, y2))
  | _, _, _ => none

noncomputable def board_filesl12d : Ex → List V → List Obj → Option ((Int × Int × List Int × List Int × Int × List (List Int) × List (List Int)) ⊕ (Int × List Int × List Int × Int × List (List Int) × List (List Int))) := fun e vs objs => match e, vs, objs with
  | Ex.ret, [V.s (S.i IntKind.i64 y0), V.s (S.ptr 0 0 none 0), V.s (S.i IntKind.i64 y1)], [Obj.cells 44 [Seg.arr IntKind.i8 81 y2, Seg.arr IntKind.i8 16 y3, Seg.one [S.i IntKind.i8 y4], Seg.rows [.i .u64, .i .u64] 32 y5, Seg.rows [.i .u64, .i .u64] 2 y6]] => some (Sum.inl (y0, y1, y2, y3, y4, y5, y6))
  | Ex.exit 4, [V.s S.bad, V.s (S.ptr 0 0 none 0), V.s (S.i IntKind.i64 y0)], [Obj.cells 44 [Seg.arr IntKind.i8 81 y1, Seg.arr IntKind.i8 16 y2, Seg.one [S.i IntKind.i8 y3], Seg.rows [.i .u64, .i .u64] 32 y4, Seg.rows [.i .u64, .i .u64] 2 y5]] => some (Sum.inr (y0, y1, y2, y3, y4, y5))
  | _, _, _ => none

noncomputable def board_filesl9d : Ex → List V → List Obj → Option ((Int) ⊕ (Unit)) := fun e vs objs => match e, vs, objs with
  | Ex.ret, [V.s (S.i IntKind.i64 y0)], [] => some (Sum.inl (y0))
  | Ex.exit 2, [V.s S.bad], [] => some (Sum.inr ())
  | _, _, _ => none

noncomputable def board_filesp2 {R : Type} (vs : List V) (objs : List Obj) (K : Ex → List V → List Obj → Option R) : Option R := match vs, objs with
  | [V.s (S.ptr 0 0 none 0), V.agg [Seg.arr IntKind.i8 81 x0], V.s (S.i IntKind.i64 x1)], [Obj.cells 28 [Seg.arr IntKind.i8 81 x2, Seg.arr IntKind.i8 16 x3, Seg.one [S.i IntKind.i8 x4]]] => ob (board_filesl2 many x0 x1 x2 x3 x4) fun t0 => sw t0 (fun z => K (Ex.ret) ([V.s (S.ptr 0 0 none 0), V.s (S.i IntKind.i64 (z.1))]) ([Obj.cells 28 [Seg.arr IntKind.i8 81 (z.2.1), Seg.arr IntKind.i8 16 (z.2.2.1), Seg.one [S.i IntKind.i8 (z.2.2.2)]]])) (fun z => K (Ex.exit 0) ([V.s (S.ptr 0 0 none 0), V.s S.bad]) ([Obj.cells 28 [Seg.arr IntKind.i8 81 (z.1), Seg.arr IntKind.i8 16 (z.2.1), Seg.one [S.i IntKind.i8 (z.2.2)]]]))
  | _, _ => none

noncomputable def board_filesp12 {R : Type} (vs : List V) (objs : List Obj) (K : Ex → List V → List Obj → Option R) : Option R := match vs, objs with
  | [V.s (S.ptr 0 0 none 0), V.s (S.i IntKind.i64 x0), V.s (S.i IntKind.i64 x1), V.s (S.i IntKind.i64 x2)], [Obj.cells 44 [Seg.arr IntKind.i8 81 x3, Seg.arr IntKind.i8 16 x4, Seg.one [S.i IntKind.i8 x5], Seg.rows [.i .u64, .i .u64] 32 x6, Seg.rows [.i .u64, .i .u64] 2 x7]] => ob (board_filesl12 many x0 x1 x2 x3 x4 x5 x6 x7) fun t0 => sw t0 (fun z => K (Ex.ret) ([V.s (S.i IntKind.i64 (z.1)), V.s (S.ptr 0 0 none 0), V.s (S.i IntKind.i64 (z.2.1))]) ([Obj.cells 44 [Seg.arr IntKind.i8 81 (z.2.2.1), Seg.arr IntKind.i8 16 (z.2.2.2.1), Seg.one [S.i IntKind.i8 (z.2.2.2.2.1)], Seg.rows [.i .u64, .i .u64] 32 (z.2.2.2.2.2.1), Seg.rows [.i .u64, .i .u64] 2 (z.2.2.2.2.2.2)]])) (fun z => K (Ex.exit 4) ([V.s S.bad, V.s (S.ptr 0 0 none 0), V.s (S.i IntKind.i64 (z.1))]) ([Obj.cells 44 [Seg.arr IntKind.i8 81 (z.2.1), Seg.arr IntKind.i8 16 (z.2.2.1), Seg.one [S.i IntKind.i8 (z.2.2.2.1)], Seg.rows [.i .u64, .i .u64] 32 (z.2.2.2.2.1), Seg.rows [.i .u64, .i .u64] 2 (z.2.2.2.2.2)]]))
  | _, _ => none

noncomputable def board_filesp9 {R : Type} (vs : List V) (objs : List Obj) (K : Ex → List V → List Obj → Option R) : Option R := match vs, objs with
  | [V.s (S.ptr 0 0 none 0), V.s (S.i IntKind.i64 x0)], [Obj.cells 44 [Seg.arr IntKind.i8 81 x1, Seg.arr IntKind.i8 16 x2, Seg.one [S.i IntKind.i8 x3], Seg.rows [.i .u64, .i .u64] 32 x4, Seg.rows [.i .u64, .i .u64] 2 x5]] => ob (board_filesl9 many x0 x1 x2 x3 x4 x5) fun t0 => sw t0 (fun y0 => K (Ex.ret) ([V.s (S.i IntKind.i64 y0)]) ([])) (fun _ => K (Ex.exit 2) ([V.s S.bad]) ([]))
  | _, _ => none

noncomputable def board_fileslp : {R : Type} → Nat → List V → List Obj → (Ex → List V → List Obj → Option R) → Option R := fun q vs objs K => bif Nat.beq q 2 then board_filesp2 vs objs K else bif Nat.beq q 12 then board_filesp12 vs objs K else bif Nat.beq q 9 then board_filesp9 vs objs K else none

noncomputable def board_filesc : Ctx := mkC 36 ((set_Counto (set_Ando (set_InFileo (board_Ofo (board_Newo (step_Deado oNil))))))) [(2, [1, 9, 10], [1, 2]), (9, [5, 20], [2]), (12, [5, 6, 20, 23], [2, 5, 20])] board_fileslp

theorem board_filesc_ok : CtxOK Tryd.prog board_filesc := mkC_ok ((set_Counto_ok _ (set_Ando_ok _ (set_InFileo_ok _ (board_Ofo_ok _ (board_Newo_ok _ (step_Deado_ok _ oNil_ok)))))))

noncomputable def board_filesl2r (f : Nat) (x0 : List Int) (x1 : Int) (x2 : List Int) (x3 : List Int) (x4 : Int) : Option ((Int × List Int × List Int × Int) ⊕ (List Int × List Int × Int)) := lrun board_filesc 0 [1, 9, 10] [1, 2] (loopOf Tryd.f36 2) f ([V.s (S.ptr 0 0 none 0), V.agg [Seg.arr IntKind.i8 81 x0], V.s (S.i IntKind.i64 x1)]) ([Obj.cells 28 [Seg.arr IntKind.i8 81 x2, Seg.arr IntKind.i8 16 x3, Seg.one [S.i IntKind.i8 x4]]]) board_filesl2d

theorem board_filesl2_step (f : Nat) (x0 : List Int) (x1 : Int) (x2 : List Int) (x3 : List Int) (x4 : Int) : board_filesl2r (f + 1) x0 x1 x2 x3 x4 = board_filesl2s (board_filesl2r f) x0 x1 x2 x3 x4 := by kernel_rfl

theorem board_filesl2_eq : ∀ f, board_filesl2r f = board_filesl2 f
  | 0 => rfl
  | f + 1 => by funext x0 x1 x2 x3 x4; rw [board_filesl2_step, board_filesl2_eq f]; rfl

noncomputable def board_filesl12r (f : Nat) (x0 : Int) (x1 : Int) (x2 : Int) (x3 : List Int) (x4 : List Int) (x5 : Int) (x6 : List (List Int)) (x7 : List (List Int)) : Option ((Int × Int × List Int × List Int × Int × List (List Int) × List (List Int)) ⊕ (Int × List Int × List Int × Int × List (List Int) × List (List Int))) := lrun board_filesc 0 [5, 6, 20, 23] [2, 5, 20] (loopOf Tryd.f36 12) f ([V.s (S.ptr 0 0 none 0), V.s (S.i IntKind.i64 x0), V.s (S.i IntKind.i64 x1), V.s (S.i IntKind.i64 x2)]) ([Obj.cells 44 [Seg.arr IntKind.i8 81 x3, Seg.arr IntKind.i8 16 x4, Seg.one [S.i IntKind.i8 x5], Seg.rows [.i .u64, .i .u64] 32 x6, Seg.rows [.i .u64, .i .u64] 2 x7]]) board_filesl12d

theorem board_filesl12_step (f : Nat) (x0 : Int) (x1 : Int) (x2 : Int) (x3 : List Int) (x4 : List Int) (x5 : Int) (x6 : List (List Int)) (x7 : List (List Int)) : board_filesl12r (f + 1) x0 x1 x2 x3 x4 x5 x6 x7 = board_filesl12s (board_filesl12r f) x0 x1 x2 x3 x4 x5 x6 x7 := by kernel_rfl

theorem board_filesl12_eq : ∀ f, board_filesl12r f = board_filesl12 f
  | 0 => rfl
  | f + 1 => by funext x0 x1 x2 x3 x4 x5 x6 x7; rw [board_filesl12_step, board_filesl12_eq f]; rfl

noncomputable def board_filesl9r (f : Nat) (x0 : Int) (x1 : List Int) (x2 : List Int) (x3 : Int) (x4 : List (List Int)) (x5 : List (List Int)) : Option ((Int) ⊕ (Unit)) := lrun board_filesc 0 [5, 20] [2] (loopOf Tryd.f36 9) f ([V.s (S.ptr 0 0 none 0), V.s (S.i IntKind.i64 x0)]) ([Obj.cells 44 [Seg.arr IntKind.i8 81 x1, Seg.arr IntKind.i8 16 x2, Seg.one [S.i IntKind.i8 x3], Seg.rows [.i .u64, .i .u64] 32 x4, Seg.rows [.i .u64, .i .u64] 2 x5]]) board_filesl9d

theorem board_filesl9_step (f : Nat) (x0 : Int) (x1 : List Int) (x2 : List Int) (x3 : Int) (x4 : List (List Int)) (x5 : List (List Int)) : board_filesl9r (f + 1) x0 x1 x2 x3 x4 x5 = board_filesl9s (board_filesl9r f) x0 x1 x2 x3 x4 x5 := by kernel_rfl

theorem board_filesl9_eq : ∀ f, board_filesl9r f = board_filesl9 f
  | 0 => rfl
  | f + 1 => by funext x0 x1 x2 x3 x4 x5; rw [board_filesl9_step, board_filesl9_eq f]; rfl

theorem board_filess2 : LoopSound Tryd.prog board_filesc 0 (loopOf Tryd.f36 2) :=
  loopSound_by mixed board_filesc_ok (AllP.of (l' := []) (by kernel_rfl) trivial) (q := 2) (kin := [1, 9, 10]) (kout := [1, 2]) (by kernel_rfl) (by kernel_rfl) fun vs objs K r h => by
    replace h : board_filesp2 vs objs K = some r := h
    unfold board_filesp2 at h
    split at h
    · skip
      obtain ⟨t, h1, h2⟩ := ob_ok h
      rw [← board_filesl2_eq] at h1
      refine ⟨_, board_filesl2d, t, many, h1, fun e vs' objs' hd => ?_⟩
      unfold board_filesl2d at hd
      split at hd
      · skip
        cases hd
        exact h2
      · skip
        cases hd
        exact h2
      · cases hd
    · cases h

theorem board_filess12 : LoopSound Tryd.prog board_filesc 0 (loopOf Tryd.f36 12) :=
  loopSound_by mixed board_filesc_ok (AllP.of (l' := []) (by kernel_rfl) trivial) (q := 12) (kin := [5, 6, 20, 23]) (kout := [2, 5, 20]) (by kernel_rfl) (by kernel_rfl) fun vs objs K r h => by
    replace h : board_filesp12 vs objs K = some r := h
    unfold board_filesp12 at h
    split at h
    · skip
      obtain ⟨t, h1, h2⟩ := ob_ok h
      rw [← board_filesl12_eq] at h1
      refine ⟨_, board_filesl12d, t, many, h1, fun e vs' objs' hd => ?_⟩
      unfold board_filesl12d at hd
      split at hd
      · skip
        cases hd
        exact h2
      · skip
        cases hd
        exact h2
      · cases hd
    · cases h

theorem board_filess9 : LoopSound Tryd.prog board_filesc 0 (loopOf Tryd.f36 9) :=
  loopSound_by mixed board_filesc_ok (AllP.of (l' := [loopOf Tryd.f36 12]) (by kernel_rfl) ⟨board_filess12, trivial⟩) (q := 9) (kin := [5, 20]) (kout := [2]) (by kernel_rfl) (by kernel_rfl) fun vs objs K r h => by
    replace h : board_filesp9 vs objs K = some r := h
    unfold board_filesp9 at h
    split at h
    · skip
      obtain ⟨t, h1, h2⟩ := ob_ok h
      rw [← board_filesl9_eq] at h1
      refine ⟨_, board_filesl9d, t, many, h1, fun e vs' objs' hd => ?_⟩
      unfold board_filesl9d at hd
      split at hd
      · skip
        cases hd
        exact h2
      · skip
        cases hd
        exact h2
      · cases hd
    · cases h

noncomputable def board_filesd : V → List Obj → Option (Int) := fun v objs => match v, objs with
  | V.s (S.i IntKind.i64 y0), [] => some (y0)
  | _, _ => none

theorem board_files_eq (x0 : List Int) (x1 : List Int) (x2 : Int) : fnE board_filesc Tryd.f36 ([V.agg [Seg.arr IntKind.i8 81 x0, Seg.arr IntKind.i8 16 x1, Seg.one [S.i IntKind.i8 x2]]]) ([]) board_filesd = board_files x0 x1 x2 := by kernel_rfl

noncomputable def board_filesa {R : Type} (o : Orc) (vs : List V) (objs : List Obj) (K : Bool → V → List Obj → Option R) : Option R := match vs, objs with
  | [V.agg [Seg.arr IntKind.i8 81 x0, Seg.arr IntKind.i8 16 x1, Seg.one [S.i IntKind.i8 x2]]], [] => ob (board_files x0 x1 x2) fun y0 => K false (V.s (S.i IntKind.i64 y0)) ([])
  | _, _ => o 36 vs objs K

noncomputable def board_fileso (o : Orc) : Orc := hook 36 (board_filesa o) o

theorem board_fileso_ok (o : Orc) (ho : OSound Tryd.prog o) : OSound Tryd.prog (board_fileso o) := hook_ok ho fun vs objs K r h => by
  unfold board_filesa at h
  split at h
  · skip
    obtain ⟨t, h1, h2⟩ := ob_ok h
    refine anyOK_of mixed board_filesc_ok (fn := Tryd.f36) (b := (Tryd.f36).body.getD .skip) (by kernel_rfl) (by kernel_rfl) (by kernel_rfl) ((board_files_eq _ _ _).trans h1) (m := 0) rfl (AllP.of (l' := [loopOf Tryd.f36 2, loopOf Tryd.f36 9]) (by kernel_rfl) ⟨board_filess2, board_filess9, trivial⟩) fun v objs' hd => ?_
    unfold board_filesd at hd
    split at hd
    · skip
      cases hd
      exact h2
    · cases hd
  · exact ho _ _ _ _ _ h

noncomputable def board_Checkl6d : Ex → List V → List Obj → Option ((Int × List Int × List Int × Int × List Int × List Int) ⊕ (List Int × List Int × Int × List Int × List Int)) := fun e vs objs => match e, vs, objs with
  | Ex.ret, [V.s (S.ptr 0 0 none 0), V.s (S.i IntKind.i64 y0), V.s (S.ptr 1 0 none 0), V.s (S.ptr 2 0 none 0)], [Obj.cells 28 [Seg.arr IntKind.i8 81 y1, Seg.arr IntKind.i8 16 y2, Seg.one [S.i IntKind.i8 y3]], Obj.cells 63 [Seg.arr IntKind.i64 9 y4], Obj.cells 64 [Seg.arr IntKind.i64 2 y5]] => some (Sum.inl (y0, y1, y2, y3, y4, y5))
  | Ex.exit 0, [V.s (S.ptr 0 0 none 0), V.s S.bad, V.s (S.ptr 1 0 none 0), V.s (S.ptr 2 0 none 0)], [Obj.cells 28 [Seg.arr IntKind.i8 81 y0, Seg.arr IntKind.i8 16 y1, Seg.one [S.i IntKind.i8 y2]], Obj.cells 63 [Seg.arr IntKind.i64 9 y3], Obj.cells 64 [Seg.arr IntKind.i64 2 y4]] => some (Sum.inr (y0, y1, y2, y3, y4))
  | _, _, _ => none

noncomputable def board_Checkl20d : Ex → List V → List Obj → Option ((Int × List Int × Int × List Int × List Int × Int × List Int × List Int) ⊕ (List Int × Int × List Int × List Int × Int × List Int × List Int)) := fun e vs objs => match e, vs, objs with
  | Ex.ret, [V.s (S.ptr 0 0 none 0), V.s (S.i IntKind.i64 y0), V.s (S.ptr 1 0 none 0), V.s (S.ptr 2 0 none 0), V.agg [Seg.arr IntKind.i8 16 y1], V.s (S.i IntKind.i64 y2)], [Obj.cells 28 [Seg.arr IntKind.i8 81 y3, Seg.arr IntKind.i8 16 y4, Seg.one [S.i IntKind.i8 y5]], Obj.cells 63 [Seg.arr IntKind.i64 9 y6], Obj.cells 64 [Seg.arr IntKind.i64 2 y7]] => some (Sum.inl (y0, y1, y2, y3, y4, y5, y6, y7))
  | Ex.exit 9, [V.s (S.ptr 0 0 none 0), V.s S.bad, V.s (S.ptr 1 0 none 0), V.s (S.ptr 2 0 none 0), V.agg [Seg.arr IntKind.i8 16 y0], V.s (S.i IntKind.i64 y1)], [Obj.cells 28 [Seg.arr IntKind.i8 81 y2, Seg.arr IntKind.i8 16 y3, Seg.one [S.i IntKind.i8 y4]], Obj.cells 63 [Seg.arr IntKind.i64 9 y5], Obj.cells 64 [Seg.arr IntKind.i64 2 y6]] => some (Sum.inr (y0, y1, y2, y3, y4, y5, y6))
  | _, _, _ => none

noncomputable def board_Checkl17d : Ex → List V → List Obj → Option ((Int × List Int × List Int × Int × List Int × List Int) ⊕ (List Int × List Int × Int × List Int × List Int)) := fun e vs objs => match e, vs, objs with
  | Ex.ret, [V.s (S.ptr 0 0 none 0), V.s (S.i IntKind.i64 y0), V.s (S.ptr 1 0 none 0), V.s (S.ptr 2 0 none 0)], [Obj.cells 28 [Seg.arr IntKind.i8 81 y1, Seg.arr IntKind.i8 16 y2, Seg.one [S.i IntKind.i8 y3]], Obj.cells 63 [Seg.arr IntKind.i64 9 y4], Obj.cells 64 [Seg.arr IntKind.i64 2 y5]] => some (Sum.inl (y0, y1, y2, y3, y4, y5))
  | Ex.exit 7, [V.s (S.ptr 0 0 none 0), V.s S.bad, V.s (S.ptr 1 0 none 0), V.s (S.ptr 2 0 none 0)], [Obj.cells 28 [Seg.arr IntKind.i8 81 y0, Seg.arr IntKind.i8 16 y1, Seg.one [S.i IntKind.i8 y2]], Obj.cells 63 [Seg.arr IntKind.i64 9 y3], Obj.cells 64 [Seg.arr IntKind.i64 2 y4]] => some (Sum.inr (y0, y1, y2, y3, y4))
  | _, _, _ => none

noncomputable def board_Checkl30d : Ex → List V → List Obj → Option ((Int × List Int × List Int × Int) ⊕ (List Int × List Int × Int)) := fun e vs objs => match e, vs, objs with
  | Ex.ret, [V.s (S.ptr 0 0 none 0), V.s (S.i IntKind.i64 y0)], [Obj.cells 28 [Seg.arr IntKind.i8 81 y1, Seg.arr IntKind.i8 16 y2, Seg.one [S.i IntKind.i8 y3]]] => some (Sum.inl (y0, y1, y2, y3))
  | Ex.exit 11, [V.s (S.ptr 0 0 none 0), V.s S.bad], [Obj.cells 28 [Seg.arr IntKind.i8 81 y0, Seg.arr IntKind.i8 16 y1, Seg.one [S.i IntKind.i8 y2]]] => some (Sum.inr (y0, y1, y2))
  | _, _, _ => none

noncomputable def board_Checkp6 {R : Type} (vs : List V) (objs : List Obj) (K : Ex → List V → List Obj → Option R) : Option R := match vs, objs with
  | [V.s (S.ptr 0 0 none 0), V.s (S.ptr 1 0 none 0), V.s (S.ptr 2 0 none 0), V.agg [Seg.arr IntKind.i8 81 x0], V.s (S.i IntKind.i64 x1)], [Obj.cells 28 [Seg.arr IntKind.i8 81 x2, Seg.arr IntKind.i8 16 x3, Seg.one [S.i IntKind.i8 x4]], Obj.cells 63 [Seg.arr IntKind.i64 9 x5], Obj.cells 64 [Seg.arr IntKind.i64 2 x6]] => ob (board_Checkl6 many x0 x1 x2 x3 x4 x5 x6) fun t0 => sw t0 (fun z => K (Ex.ret) ([V.s (S.ptr 0 0 none 0), V.s (S.i IntKind.i64 (z.1)), V.s (S.ptr 1 0 none 0), V.s (S.ptr 2 0 none 0)]) ([Obj.cells 28 [Seg.arr IntKind.i8 81 (z.2.1), Seg.arr IntKind.i8 16 (z.2.2.1), Seg.one [S.i IntKind.i8 (z.2.2.2.1)]], Obj.cells 63 [Seg.arr IntKind.i64 9 (z.2.2.2.2.1)], Obj.cells 64 [Seg.arr IntKind.i64 2 (z.2.2.2.2.2)]])) (fun z => K (Ex.exit 0) ([V.s (S.ptr 0 0 none 0), V.s S.bad, V.s (S.ptr 1 0 none 0), V.s (S.ptr 2 0 none 0)]) ([Obj.cells 28 [Seg.arr IntKind.i8 81 (z.1), Seg.arr IntKind.i8 16 (z.2.1), Seg.one [S.i IntKind.i8 (z.2.2.1)]], Obj.cells 63 [Seg.arr IntKind.i64 9 (z.2.2.2.1)], Obj.cells 64 [Seg.arr IntKind.i64 2 (z.2.2.2.2)]]))
  | _, _ => none

noncomputable def board_Checkp20 {R : Type} (vs : List V) (objs : List Obj) (K : Ex → List V → List Obj → Option R) : Option R := match vs, objs with
  | [V.s (S.ptr 0 0 none 0), V.s (S.ptr 1 0 none 0), V.s (S.ptr 2 0 none 0), V.agg [Seg.arr IntKind.i8 16 x0], V.s (S.i IntKind.i64 x1), V.agg [Seg.arr IntKind.i8 8 x2], V.s (S.i IntKind.i64 x3)], [Obj.cells 28 [Seg.arr IntKind.i8 81 x4, Seg.arr IntKind.i8 16 x5, Seg.one [S.i IntKind.i8 x6]], Obj.cells 63 [Seg.arr IntKind.i64 9 x7], Obj.cells 64 [Seg.arr IntKind.i64 2 x8]] => ob (board_Checkl20 many x0 x1 x2 x3 x4 x5 x6 x7 x8) fun t0 => sw t0 (fun z => K (Ex.ret) ([V.s (S.ptr 0 0 none 0), V.s (S.i IntKind.i64 (z.1)), V.s (S.ptr 1 0 none 0), V.s (S.ptr 2 0 none 0), V.agg [Seg.arr IntKind.i8 16 (z.2.1)], V.s (S.i IntKind.i64 (z.2.2.1))]) ([Obj.cells 28 [Seg.arr IntKind.i8 81 (z.2.2.2.1), Seg.arr IntKind.i8 16 (z.2.2.2.2.1), Seg.one [S.i IntKind.i8 (z.2.2.2.2.2.1)]], Obj.cells 63 [Seg.arr IntKind.i64 9 (z.2.2.2.2.2.2.1)], Obj.cells 64 [Seg.arr IntKind.i64 2 (z.2.2.2.2.2.2.2)]])) (fun z => K (Ex.exit 9) ([V.s (S.ptr 0 0 none 0), V.s S.bad, V.s (S.ptr 1 0 none 0), V.s (S.ptr 2 0 none 0), V.agg [Seg.arr IntKind.i8 16 (z.1)], V.s (S.i IntKind.i64 (z.2.1))]) ([Obj.cells 28 [Seg.arr IntKind.i8 81 (z.2.2.1), Seg.arr IntKind.i8 16 (z.2.2.2.1), Seg.one [S.i IntKind.i8 (z.2.2.2.2.1)]], Obj.cells 63 [Seg.arr IntKind.i64 9 (z.2.2.2.2.2.1)], Obj.cells 64 [Seg.arr IntKind.i64 2 (z.2.2.2.2.2.2)]]))
  | _, _ => none

noncomputable def board_Checkp17 {R : Type} (vs : List V) (objs : List Obj) (K : Ex → List V → List Obj → Option R) : Option R := match vs, objs with
  | [V.s (S.ptr 0 0 none 0), V.s (S.ptr 1 0 none 0), V.s (S.ptr 2 0 none 0), V.agg [Seg.arr IntKind.i8 16 x0], V.s (S.i IntKind.i64 x1)], [Obj.cells 28 [Seg.arr IntKind.i8 81 x2, Seg.arr IntKind.i8 16 x3, Seg.one [S.i IntKind.i8 x4]], Obj.cells 63 [Seg.arr IntKind.i64 9 x5], Obj.cells 64 [Seg.arr IntKind.i64 2 x6]] => ob (board_Checkl17 many x0 x1 x2 x3 x4 x5 x6) fun t0 => sw t0 (fun z => K (Ex.ret) ([V.s (S.ptr 0 0 none 0), V.s (S.i IntKind.i64 (z.1)), V.s (S.ptr 1 0 none 0), V.s (S.ptr 2 0 none 0)]) ([Obj.cells 28 [Seg.arr IntKind.i8 81 (z.2.1), Seg.arr IntKind.i8 16 (z.2.2.1), Seg.one [S.i IntKind.i8 (z.2.2.2.1)]], Obj.cells 63 [Seg.arr IntKind.i64 9 (z.2.2.2.2.1)], Obj.cells 64 [Seg.arr IntKind.i64 2 (z.2.2.2.2.2)]])) (fun z => K (Ex.exit 7) ([V.s (S.ptr 0 0 none 0), V.s S.bad, V.s (S.ptr 1 0 none 0), V.s (S.ptr 2 0 none 0)]) ([Obj.cells 28 [Seg.arr IntKind.i8 81 (z.1), Seg.arr IntKind.i8 16 (z.2.1), Seg.one [S.i IntKind.i8 (z.2.2.1)]], Obj.cells 63 [Seg.arr IntKind.i64 9 (z.2.2.2.1)], Obj.cells 64 [Seg.arr IntKind.i64 2 (z.2.2.2.2)]]))
  | _, _ => none

noncomputable def board_Checkp30 {R : Type} (vs : List V) (objs : List Obj) (K : Ex → List V → List Obj → Option R) : Option R := match vs, objs with
  | [V.s (S.ptr 0 0 none 0), V.s (S.ptr 1 0 none 0), V.s (S.i IntKind.i64 x0)], [Obj.cells 28 [Seg.arr IntKind.i8 81 x1, Seg.arr IntKind.i8 16 x2, Seg.one [S.i IntKind.i8 x3]], Obj.cells 63 [Seg.arr IntKind.i64 9 x4]] => ob (board_Checkl30 many x0 x1 x2 x3 x4) fun t0 => sw t0 (fun z => K (Ex.ret) ([V.s (S.ptr 0 0 none 0), V.s (S.i IntKind.i64 (z.1))]) ([Obj.cells 28 [Seg.arr IntKind.i8 81 (z.2.1), Seg.arr IntKind.i8 16 (z.2.2.1), Seg.one [S.i IntKind.i8 (z.2.2.2)]]])) (fun z => K (Ex.exit 11) ([V.s (S.ptr 0 0 none 0), V.s S.bad]) ([Obj.cells 28 [Seg.arr IntKind.i8 81 (z.1), Seg.arr IntKind.i8 16 (z.2.1), Seg.one [S.i IntKind.i8 (z.2.2)]]]))
  | _, _ => none

noncomputable def board_Checklp : {R : Type} → Nat → List V → List Obj → (Ex → List V → List Obj → Option R) → Option R := fun q vs objs K => bif Nat.beq q 6 then board_Checkp6 vs objs K else bif Nat.beq q 20 then board_Checkp20 vs objs K else bif Nat.beq q 17 then board_Checkp17 vs objs K else bif Nat.beq q 30 then board_Checkp30 vs objs K else none

noncomputable def board_Checkc : Ctx := mkC 98 ((board_fileso (piece_Totalo (piece_Rawo (piece_Sideo (piece_Kindo oNil)))))) [(6, [1, 3, 4, 22, 23], [1, 2, 3, 4]), (17, [1, 3, 4, 51, 52], [1, 2, 3, 4]), (20, [1, 3, 4, 51, 52, 55, 56], [1, 2, 3, 4, 51, 52]), (30, [1, 3, 12], [1, 2])] board_Checklp

theorem board_Checkc_ok : CtxOK Tryd.prog board_Checkc := mkC_ok ((board_fileso_ok _ (piece_Totalo_ok _ (piece_Rawo_ok _ (piece_Sideo_ok _ (piece_Kindo_ok _ oNil_ok))))))

noncomputable def board_Checkl6r (f : Nat) (x0 : List Int) (x1 : Int) (x2 : List Int) (x3 : List Int) (x4 : Int) (x5 : List Int) (x6 : List Int) : Option ((Int × List Int × List Int × Int × List Int × List Int) ⊕ (List Int × List Int × Int × List Int × List Int)) := lrun board_Checkc 0 [1, 3, 4, 22, 23] [1, 2, 3, 4] (loopOf Tryd.f10 6) f ([V.s (S.ptr 0 0 none 0), V.s (S.ptr 1 0 none 0), V.s (S.ptr 2 0 none 0), V.agg [Seg.arr IntKind.i8 81 x0], V.s (S.i IntKind.i64 x1)]) ([Obj.cells 28 [Seg.arr IntKind.i8 81 x2, Seg.arr IntKind.i8 16 x3, Seg.one [S.i IntKind.i8 x4]], Obj.cells 63 [Seg.arr IntKind.i64 9 x5], Obj.cells 64 [Seg.arr IntKind.i64 2 x6]]) board_Checkl6d

theorem board_Checkl6_step (f : Nat) (x0 : List Int) (x1 : Int) (x2 : List Int) (x3 : List Int) (x4 : Int) (x5 : List Int) (x6 : List Int) : board_Checkl6r (f + 1) x0 x1 x2 x3 x4 x5 x6 = board_Checkl6s (board_Checkl6r f) x0 x1 x2 x3 x4 x5 x6 := by kernel_rfl

theorem board_Checkl6_eq : ∀ f, board_Checkl6r f = board_Checkl6 f
  | 0 => rfl
  | f + 1 => by funext x0 x1 x2 x3 x4 x5 x6; rw [board_Checkl6_step, board_Checkl6_eq f]; rfl

noncomputable def board_Checkl20r (f : Nat) (x0 : List Int) (x1 : Int) (x2 : List Int) (x3 : Int) (x4 : List Int) (x5 : List Int) (x6 : Int) (x7 : List Int) (x8 : List Int) : Option ((Int × List Int × Int × List Int × List Int × Int × List Int × List Int) ⊕ (List Int × Int × List Int × List Int × Int × List Int × List Int)) := lrun board_Checkc 0 [1, 3, 4, 51, 52, 55, 56] [1, 2, 3, 4, 51, 52] (loopOf Tryd.f10 20) f ([V.s (S.ptr 0 0 none 0), V.s (S.ptr 1 0 none 0), V.s (S.ptr 2 0 none 0), V.agg [Seg.arr IntKind.i8 16 x0], V.s (S.i IntKind.i64 x1), V.agg [Seg.arr IntKind.i8 8 x2], V.s (S.i IntKind.i64 x3)]) ([Obj.cells 28 [Seg.arr IntKind.i8 81 x4, Seg.arr IntKind.i8 16 x5, Seg.one [S.i IntKind.i8 x6]], Obj.cells 63 [Seg.arr IntKind.i64 9 x7], Obj.cells 64 [Seg.arr IntKind.i64 2 x8]]) board_Checkl20d

theorem board_Checkl20_step (f : Nat) (x0 : List Int) (x1 : Int) (x2 : List Int) (x3 : Int) (x4 : List Int) (x5 : List Int) (x6 : Int) (x7 : List Int) (x8 : List Int) : board_Checkl20r (f + 1) x0 x1 x2 x3 x4 x5 x6 x7 x8 = board_Checkl20s (board_Checkl20r f) x0 x1 x2 x3 x4 x5 x6 x7 x8 := by kernel_rfl

theorem board_Checkl20_eq : ∀ f, board_Checkl20r f = board_Checkl20 f
  | 0 => rfl
  | f + 1 => by funext x0 x1 x2 x3 x4 x5 x6 x7 x8; rw [board_Checkl20_step, board_Checkl20_eq f]; rfl

noncomputable def board_Checkl17r (f : Nat) (x0 : List Int) (x1 : Int) (x2 : List Int) (x3 : List Int) (x4 : Int) (x5 : List Int) (x6 : List Int) : Option ((Int × List Int × List Int × Int × List Int × List Int) ⊕ (List Int × List Int × Int × List Int × List Int)) := lrun board_Checkc 0 [1, 3, 4, 51, 52] [1, 2, 3, 4] (loopOf Tryd.f10 17) f ([V.s (S.ptr 0 0 none 0), V.s (S.ptr 1 0 none 0), V.s (S.ptr 2 0 none 0), V.agg [Seg.arr IntKind.i8 16 x0], V.s (S.i IntKind.i64 x1)]) ([Obj.cells 28 [Seg.arr IntKind.i8 81 x2, Seg.arr IntKind.i8 16 x3, Seg.one [S.i IntKind.i8 x4]], Obj.cells 63 [Seg.arr IntKind.i64 9 x5], Obj.cells 64 [Seg.arr IntKind.i64 2 x6]]) board_Checkl17d

theorem board_Checkl17_step (f : Nat) (x0 : List Int) (x1 : Int) (x2 : List Int) (x3 : List Int) (x4 : Int) (x5 : List Int) (x6 : List Int) : board_Checkl17r (f + 1) x0 x1 x2 x3 x4 x5 x6 = board_Checkl17s (board_Checkl17r f) x0 x1 x2 x3 x4 x5 x6 := by kernel_rfl

theorem board_Checkl17_eq : ∀ f, board_Checkl17r f = board_Checkl17 f
  | 0 => rfl
  | f + 1 => by funext x0 x1 x2 x3 x4 x5 x6; rw [board_Checkl17_step, board_Checkl17_eq f]; rfl

noncomputable def board_Checkl30r (f : Nat) (x0 : Int) (x1 : List Int) (x2 : List Int) (x3 : Int) (x4 : List Int) : Option ((Int × List Int × List Int × Int) ⊕ (List Int × List Int × Int)) := lrun board_Checkc 0 [1, 3, 12] [1, 2] (loopOf Tryd.f10 30) f ([V.s (S.ptr 0 0 none 0), V.s (S.ptr 1 0 none 0), V.s (S.i IntKind.i64 x0)]) ([Obj.cells 28 [Seg.arr IntKind.i8 81 x1, Seg.arr IntKind.i8 16 x2, Seg.one [S.i IntKind.i8 x3]], Obj.cells 63 [Seg.arr IntKind.i64 9 x4]]) board_Checkl30d

theorem board_Checkl30_step (f : Nat) (x0 : Int) (x1 : List Int) (x2 : List Int) (x3 : Int) (x4 : List Int) : board_Checkl30r (f + 1) x0 x1 x2 x3 x4 = board_Checkl30s (board_Checkl30r f) x0 x1 x2 x3 x4 := by kernel_rfl

theorem board_Checkl30_eq : ∀ f, board_Checkl30r f = board_Checkl30 f
  | 0 => rfl
  | f + 1 => by funext x0 x1 x2 x3 x4; rw [board_Checkl30_step, board_Checkl30_eq f]; rfl

theorem board_Checks6 : LoopSound Tryd.prog board_Checkc 0 (loopOf Tryd.f10 6) :=
  loopSound_by mixed board_Checkc_ok (AllP.of (l' := []) (by kernel_rfl) trivial) (q := 6) (kin := [1, 3, 4, 22, 23]) (kout := [1, 2, 3, 4]) (by kernel_rfl) (by kernel_rfl) fun vs objs K r h => by
    replace h : board_Checkp6 vs objs K = some r := h
    unfold board_Checkp6 at h
    split at h
    · skip
      obtain ⟨t, h1, h2⟩ := ob_ok h
      rw [← board_Checkl6_eq] at h1
      refine ⟨_, board_Checkl6d, t, many, h1, fun e vs' objs' hd => ?_⟩
      unfold board_Checkl6d at hd
      split at hd
      · skip
        cases hd
        exact h2
      · skip
        cases hd
        exact h2
      · cases hd
    · cases h

theorem board_Checks20 : LoopSound Tryd.prog board_Checkc 0 (loopOf Tryd.f10 20) :=
  loopSound_by mixed board_Checkc_ok (AllP.of (l' := []) (by kernel_rfl) trivial) (q := 20) (kin := [1, 3, 4, 51, 52, 55, 56]) (kout := [1, 2, 3, 4, 51, 52]) (by kernel_rfl) (by kernel_rfl) fun vs objs K r h => by
    replace h : board_Checkp20 vs objs K = some r := h
    unfold board_Checkp20 at h
    split at h
    · skip
      obtain ⟨t, h1, h2⟩ := ob_ok h
      rw [← board_Checkl20_eq] at h1
      refine ⟨_, board_Checkl20d, t, many, h1, fun e vs' objs' hd => ?_⟩
      unfold board_Checkl20d at hd
      split at hd
      · skip
        cases hd
        exact h2
      · skip
        cases hd
        exact h2
      · cases hd
    · cases h

theorem board_Checks30 : LoopSound Tryd.prog board_Checkc 0 (loopOf Tryd.f10 30) :=
  loopSound_by mixed board_Checkc_ok (AllP.of (l' := []) (by kernel_rfl) trivial) (q := 30) (kin := [1, 3, 12]) (kout := [1, 2]) (by kernel_rfl) (by kernel_rfl) fun vs objs K r h => by
    replace h : board_Checkp30 vs objs K = some r := h
    unfold board_Checkp30 at h
    split at h
    · skip
      obtain ⟨t, h1, h2⟩ := ob_ok h
      rw [← board_Checkl30_eq] at h1
      refine ⟨_, board_Checkl30d, t, many, h1, fun e vs' objs' hd => ?_⟩
      unfold board_Checkl30d at hd
      split at hd
      · skip
        cases hd
        exact h2
      · skip
        cases hd
        exact h2
      · cases hd
    · cases h

theorem board_Checks17 : LoopSound Tryd.prog board_Checkc 0 (loopOf Tryd.f10 17) :=
  loopSound_by mixed board_Checkc_ok (AllP.of (l' := [loopOf Tryd.f10 20]) (by kernel_rfl) ⟨board_Checks20, trivial⟩) (q := 17) (kin := [1, 3, 4, 51, 52]) (kout := [1, 2, 3, 4]) (by kernel_rfl) (by kernel_rfl) fun vs objs K r h => by
    replace h : board_Checkp17 vs objs K = some r := h
    unfold board_Checkp17 at h
    split at h
    · skip
      obtain ⟨t, h1, h2⟩ := ob_ok h
      rw [← board_Checkl17_eq] at h1
      refine ⟨_, board_Checkl17d, t, many, h1, fun e vs' objs' hd => ?_⟩
      unfold board_Checkl17d at hd
      split at hd
      · skip
        cases hd
        exact h2
      · skip
        cases hd
        exact h2
      · cases hd
    · cases h

noncomputable def board_Checkd : V → List Obj → Option (Int) := fun v objs => match v, objs with
  | V.s (S.i IntKind.i64 y0), [] => some (y0)
  | _, _ => none

theorem board_Check_eq (x0 : List Int) (x1 : List Int) (x2 : Int) : fnE board_Checkc Tryd.f10 ([V.agg [Seg.arr IntKind.i8 81 x0, Seg.arr IntKind.i8 16 x1, Seg.one [S.i IntKind.i8 x2]]]) ([]) board_Checkd = board_Check x0 x1 x2 := by kernel_rfl

noncomputable def board_Checka {R : Type} (o : Orc) (vs : List V) (objs : List Obj) (K : Bool → V → List Obj → Option R) : Option R := match vs, objs with
  | [V.agg [Seg.arr IntKind.i8 81 x0, Seg.arr IntKind.i8 16 x1, Seg.one [S.i IntKind.i8 x2]]], [] => ob (board_Check x0 x1 x2) fun y0 => K false (V.s (S.i IntKind.i64 y0)) ([])
  | _, _ => o 10 vs objs K

noncomputable def board_Checko (o : Orc) : Orc := hook 10 (board_Checka o) o

theorem board_Checko_ok (o : Orc) (ho : OSound Tryd.prog o) : OSound Tryd.prog (board_Checko o) := hook_ok ho fun vs objs K r h => by
  unfold board_Checka at h
  split at h
  · skip
    obtain ⟨t, h1, h2⟩ := ob_ok h
    refine anyOK_of mixed board_Checkc_ok (fn := Tryd.f10) (b := (Tryd.f10).body.getD .skip) (by kernel_rfl) (by kernel_rfl) (by kernel_rfl) ((board_Check_eq _ _ _).trans h1) (m := 0) rfl (AllP.of (l' := [loopOf Tryd.f10 6, loopOf Tryd.f10 17, loopOf Tryd.f10 30]) (by kernel_rfl) ⟨board_Checks6, board_Checks17, board_Checks30, trivial⟩) fun v objs' hd => ?_
    unfold board_Checkd at hd
    split at hd
    · skip
      cases hd
      exact h2
    · cases hd
  · exact ho _ _ _ _ _ h

noncomputable def law05_beginsc : Ctx := mkC 32 ((board_Checko (board_Kingo (board_Ato (set_Counto (board_Takeno (board_Newo (board_Starto oNil)))))))) [] lpNil

theorem law05_beginsc_ok : CtxOK Tryd.prog law05_beginsc := mkC_ok ((board_Checko_ok _ (board_Kingo_ok _ (board_Ato_ok _ (set_Counto_ok _ (board_Takeno_ok _ (board_Newo_ok _ (board_Starto_ok _ oNil_ok))))))))

noncomputable def law05_beginsd : V → List Obj → Option (Bool) := fun v objs => match v, objs with
  | V.s (S.b y0), [] => some (y0)
  | _, _ => none

theorem law05_begins_eq : fnE law05_beginsc Tryd.f9 ([]) ([]) law05_beginsd = law05_begins  := by kernel_rfl

noncomputable def law05_beginsa {R : Type} (o : Orc) (vs : List V) (objs : List Obj) (K : Bool → V → List Obj → Option R) : Option R := match vs, objs with
  | [], [] => ob (law05_begins ) fun y0 => K false (V.s (S.b y0)) ([])
  | _, _ => o 9 vs objs K

noncomputable def law05_beginso (o : Orc) : Orc := hook 9 (law05_beginsa o) o

theorem law05_beginso_ok (o : Orc) (ho : OSound Tryd.prog o) : OSound Tryd.prog (law05_beginso o) := hook_ok ho fun vs objs K r h => by
  unfold law05_beginsa at h
  split at h
  · skip
    obtain ⟨t, h1, h2⟩ := ob_ok h
    refine anyOK_of mixed law05_beginsc_ok (fn := Tryd.f9) (b := (Tryd.f9).body.getD .skip) (by kernel_rfl) (by kernel_rfl) (by kernel_rfl) ((law05_begins_eq).trans h1) (m := 0) rfl (AllP.of (l' := []) (by kernel_rfl) trivial) fun v objs' hd => ?_
    unfold law05_beginsd at hd
    split at hd
    · skip
      cases hd
      exact h2
    · cases hd
  · exact ho _ _ _ _ _ h

noncomputable def law05_BoardBackc : Ctx := mkC 61 ((board_Takeno (board_Newo (law05_beginso oNil)))) [] lpNil

theorem law05_BoardBackc_ok : CtxOK Tryd.prog law05_BoardBackc := mkC_ok ((board_Takeno_ok _ (board_Newo_ok _ (law05_beginso_ok _ oNil_ok))))

noncomputable def law05_BoardBackd : V → List Obj → Option (Bool) := fun v objs => match v, objs with
  | V.s (S.b y0), [] => some (y0)
  | _, _ => none

theorem law05_BoardBack_eq (x0 : List Int) (x1 : List Int) (x2 : Int) (x3 : Int) (x4 : Int) : fnE law05_BoardBackc Tryd.f5 ([V.agg [Seg.arr IntKind.i8 81 x0, Seg.arr IntKind.i8 16 x1, Seg.one [S.i IntKind.i8 x2]], V.s (S.i IntKind.i64 x3), V.s (S.i IntKind.i8 x4)]) ([]) law05_BoardBackd = law05_BoardBack x0 x1 x2 x3 x4 := by kernel_rfl

noncomputable def law05_BoardBacka {R : Type} (o : Orc) (vs : List V) (objs : List Obj) (K : Bool → V → List Obj → Option R) : Option R := match vs, objs with
  | [V.agg [Seg.arr IntKind.i8 81 x0, Seg.arr IntKind.i8 16 x1, Seg.one [S.i IntKind.i8 x2]], V.s (S.i IntKind.i64 x3), V.s (S.i IntKind.i8 x4)], [] => ob (law05_BoardBack x0 x1 x2 x3 x4) fun y0 => K false (V.s (S.b y0)) ([])
  | _, _ => o 5 vs objs K

noncomputable def law05_BoardBacko (o : Orc) : Orc := hook 5 (law05_BoardBacka o) o

theorem law05_BoardBack_ok {vs : List V} {objs : List Obj} (x0 : List Int) (x1 : List Int) (x2 : Int) (x3 : Int) (x4 : Int) {R : Type} {K : Bool → V → List Obj → Option R} {r : R} (hv : vs = [V.agg [Seg.arr IntKind.i8 81 x0, Seg.arr IntKind.i8 16 x1, Seg.one [S.i IntKind.i8 x2]], V.s (S.i IntKind.i64 x3), V.s (S.i IntKind.i8 x4)]) (ho : objs = []) (h : ob (law05_BoardBack x0 x1 x2 x3 x4) (fun y0 => K false (V.s (S.b y0)) ([])) = some r) :
    ∃ p v objs', K p v objs' = some r ∧ AnyOK Tryd.prog 5 vs objs p v objs' := by
  subst hv
  subst ho
  obtain ⟨t, h1, h2⟩ := ob_ok h
  refine anyOK_of mixed law05_BoardBackc_ok (fn := Tryd.f5) (b := (Tryd.f5).body.getD .skip) (by kernel_rfl) (by kernel_rfl) (by kernel_rfl) ((law05_BoardBack_eq _ _ _ _ _).trans h1) (m := 0) rfl (AllP.of (l' := []) (by kernel_rfl) trivial) fun v objs' hd => ?_
  unfold law05_BoardBackd at hd
  split at hd
  · skip
    cases hd
    exact h2
  · cases hd

theorem law05_BoardBacko_ok (o : Orc) (ho : OSound Tryd.prog o) : OSound Tryd.prog (law05_BoardBacko o) := hook_ok ho fun vs objs K r h => by
  unfold law05_BoardBacka at h
  split at h
  · skip
    obtain ⟨t, h1, h2⟩ := ob_ok h
    refine anyOK_of mixed law05_BoardBackc_ok (fn := Tryd.f5) (b := (Tryd.f5).body.getD .skip) (by kernel_rfl) (by kernel_rfl) (by kernel_rfl) ((law05_BoardBack_eq _ _ _ _ _).trans h1) (m := 0) rfl (AllP.of (l' := []) (by kernel_rfl) trivial) fun v objs' hd => ?_
    unfold law05_BoardBackd at hd
    split at hd
    · skip
      cases hd
      exact h2
    · cases hd
  · exact ho _ _ _ _ _ h

noncomputable def ref02_Kindc : Ctx := mkC 23 (oNil) [] lpNil

theorem ref02_Kindc_ok : CtxOK Tryd.prog ref02_Kindc := mkC_ok (oNil_ok)

noncomputable def ref02_Kindd : V → List Obj → Option (Int) := fun v objs => match v, objs with
  | V.s (S.i IntKind.i64 y0), [] => some (y0)
  | _, _ => none

theorem ref02_Kind_eq (x0 : Int) : fnE ref02_Kindc Tryd.f22 ([V.s (S.i IntKind.i64 x0)]) ([]) ref02_Kindd = ref02_Kind x0 := by kernel_rfl

noncomputable def ref02_Kinda {R : Type} (o : Orc) (vs : List V) (objs : List Obj) (K : Bool → V → List Obj → Option R) : Option R := match vs, objs with
  | [V.s (S.i IntKind.i64 x0)], [] => ob (ref02_Kind x0) fun y0 => K false (V.s (S.i IntKind.i64 y0)) ([])
  | _, _ => o 22 vs objs K

noncomputable def ref02_Kindo (o : Orc) : Orc := hook 22 (ref02_Kinda o) o

theorem ref02_Kindo_ok (o : Orc) (ho : OSound Tryd.prog o) : OSound Tryd.prog (ref02_Kindo o) := hook_ok ho fun vs objs K r h => by
  unfold ref02_Kinda at h
  split at h
  · skip
    obtain ⟨t, h1, h2⟩ := ob_ok h
    refine anyOK_of mixed ref02_Kindc_ok (fn := Tryd.f22) (b := (Tryd.f22).body.getD .skip) (by kernel_rfl) (by kernel_rfl) (by kernel_rfl) ((ref02_Kind_eq _).trans h1) (m := 0) rfl (AllP.of (l' := []) (by kernel_rfl) trivial) fun v objs' hd => ?_
    unfold ref02_Kindd at hd
    split at hd
    · skip
      cases hd
      exact h2
    · cases hd
  · exact ho _ _ _ _ _ h

noncomputable def ref05_Onl3d : Ex → List V → List Obj → Option (Int) := fun e vs objs => match e, vs, objs with
  | Ex.exit 0, [V.s (S.i IntKind.i64 y0)], [] => some (y0)
  | _, _, _ => none

noncomputable def ref05_Onp3 {R : Type} (vs : List V) (objs : List Obj) (K : Ex → List V → List Obj → Option R) : Option R := match vs, objs with
  | [V.s (S.i IntKind.i64 x0), V.s (S.i IntKind.i64 x1), V.s (S.ptr 0 0 none 0), V.s (S.i IntKind.i64 x2), V.s (S.i IntKind.i64 x3)], [Obj.cells 28 [Seg.arr IntKind.i8 81 x4, Seg.arr IntKind.i8 16 x5, Seg.one [S.i IntKind.i8 x6]]] => ob (ref05_Onl3 many x0 x1 x2 x3 x4 x5 x6) fun y0 => K (Ex.exit 0) ([V.s (S.i IntKind.i64 y0)]) ([])
  | _, _ => none

noncomputable def ref05_Onlp : {R : Type} → Nat → List V → List Obj → (Ex → List V → List Obj → Option R) → Option R := fun q vs objs K => bif Nat.beq q 3 then ref05_Onp3 vs objs K else none

noncomputable def ref05_Onc : Ctx := mkC 26 (oNil) [(3, [1, 2, 3, 7, 8], [7])] ref05_Onlp

theorem ref05_Onc_ok : CtxOK Tryd.prog ref05_Onc := mkC_ok (oNil_ok)

noncomputable def ref05_Onl3r (f : Nat) (x0 : Int) (x1 : Int) (x2 : Int) (x3 : Int) (x4 : List Int) (x5 : List Int) (x6 : Int) : Option (Int) := lrun ref05_Onc 0 [1, 2, 3, 7, 8] [7] (loopOf Tryd.f41 3) f ([V.s (S.i IntKind.i64 x0), V.s (S.i IntKind.i64 x1), V.s (S.ptr 0 0 none 0), V.s (S.i IntKind.i64 x2), V.s (S.i IntKind.i64 x3)]) ([Obj.cells 28 [Seg.arr IntKind.i8 81 x4, Seg.arr IntKind.i8 16 x5, Seg.one [S.i IntKind.i8 x6]]]) ref05_Onl3d

theorem ref05_Onl3_step (f : Nat) (x0 : Int) (x1 : Int) (x2 : Int) (x3 : Int) (x4 : List Int) (x5 : List Int) (x6 : Int) : ref05_Onl3r (f + 1) x0 x1 x2 x3 x4 x5 x6 = ref05_Onl3s (ref05_Onl3r f) x0 x1 x2 x3 x4 x5 x6 := by kernel_rfl

theorem ref05_Onl3_eq : ∀ f, ref05_Onl3r f = ref05_Onl3 f
  | 0 => rfl
  | f + 1 => by funext x0 x1 x2 x3 x4 x5 x6; rw [ref05_Onl3_step, ref05_Onl3_eq f]; rfl

theorem ref05_Ons3 : LoopSound Tryd.prog ref05_Onc 0 (loopOf Tryd.f41 3) :=
  loopSound_by mixed ref05_Onc_ok (AllP.of (l' := []) (by kernel_rfl) trivial) (q := 3) (kin := [1, 2, 3, 7, 8]) (kout := [7]) (by kernel_rfl) (by kernel_rfl) fun vs objs K r h => by
    replace h : ref05_Onp3 vs objs K = some r := h
    unfold ref05_Onp3 at h
    split at h
    · skip
      obtain ⟨t, h1, h2⟩ := ob_ok h
      rw [← ref05_Onl3_eq] at h1
      refine ⟨_, ref05_Onl3d, t, many, h1, fun e vs' objs' hd => ?_⟩
      unfold ref05_Onl3d at hd
      split at hd
      · skip
        cases hd
        exact h2
      · cases hd
    · cases h

noncomputable def ref05_Ond : V → List Obj → Option (Int) := fun v objs => match v, objs with
  | V.s (S.i IntKind.i64 y0), [] => some (y0)
  | _, _ => none

theorem ref05_On_eq (x0 : List Int) (x1 : List Int) (x2 : Int) (x3 : Int) (x4 : Int) : fnE ref05_Onc Tryd.f41 ([V.agg [Seg.arr IntKind.i8 81 x0, Seg.arr IntKind.i8 16 x1, Seg.one [S.i IntKind.i8 x2]], V.s (S.i IntKind.i64 x3), V.s (S.i IntKind.i64 x4)]) ([]) ref05_Ond = ref05_On x0 x1 x2 x3 x4 := by kernel_rfl

noncomputable def ref05_Ona {R : Type} (o : Orc) (vs : List V) (objs : List Obj) (K : Bool → V → List Obj → Option R) : Option R := match vs, objs with
  | [V.agg [Seg.arr IntKind.i8 81 x0, Seg.arr IntKind.i8 16 x1, Seg.one [S.i IntKind.i8 x2]], V.s (S.i IntKind.i64 x3), V.s (S.i IntKind.i64 x4)], [] => ob (ref05_On x0 x1 x2 x3 x4) fun y0 => K false (V.s (S.i IntKind.i64 y0)) ([])
  | _, _ => o 41 vs objs K

noncomputable def ref05_Ono (o : Orc) : Orc := hook 41 (ref05_Ona o) o

theorem ref05_Ono_ok (o : Orc) (ho : OSound Tryd.prog o) : OSound Tryd.prog (ref05_Ono o) := hook_ok ho fun vs objs K r h => by
  unfold ref05_Ona at h
  split at h
  · skip
    obtain ⟨t, h1, h2⟩ := ob_ok h
    refine anyOK_of mixed ref05_Onc_ok (fn := Tryd.f41) (b := (Tryd.f41).body.getD .skip) (by kernel_rfl) (by kernel_rfl) (by kernel_rfl) ((ref05_On_eq _ _ _ _ _).trans h1) (m := 0) rfl (AllP.of (l' := [loopOf Tryd.f41 3]) (by kernel_rfl) ⟨ref05_Ons3, trivial⟩) fun v objs' hd => ?_
    unfold ref05_Ond at hd
    split at hd
    · skip
      cases hd
      exact h2
    · cases hd
  · exact ho _ _ _ _ _ h

noncomputable def ref05_alll3d : Ex → List V → List Obj → Option (Int) := fun e vs objs => match e, vs, objs with
  | Ex.exit 0, [V.s (S.i IntKind.i64 y0)], [] => some (y0)
  | _, _, _ => none

noncomputable def ref05_allp3 {R : Type} (vs : List V) (objs : List Obj) (K : Ex → List V → List Obj → Option R) : Option R := match vs, objs with
  | [V.s (S.i IntKind.i64 x0), V.s (S.ptr 0 0 none 0), V.s (S.i IntKind.i64 x1), V.s (S.i IntKind.i64 x2)], [Obj.cells 28 [Seg.arr IntKind.i8 81 x3, Seg.arr IntKind.i8 16 x4, Seg.one [S.i IntKind.i8 x5]]] => ob (ref05_alll3 many x0 x1 x2 x3 x4 x5) fun y0 => K (Ex.exit 0) ([V.s (S.i IntKind.i64 y0)]) ([])
  | _, _ => none

noncomputable def ref05_alllp : {R : Type} → Nat → List V → List Obj → (Ex → List V → List Obj → Option R) → Option R := fun q vs objs K => bif Nat.beq q 3 then ref05_allp3 vs objs K else none

noncomputable def ref05_allc : Ctx := mkC 18 ((ref05_Ono oNil)) [(3, [1, 2, 5, 6], [5])] ref05_alllp

theorem ref05_allc_ok : CtxOK Tryd.prog ref05_allc := mkC_ok ((ref05_Ono_ok _ oNil_ok))

noncomputable def ref05_alll3r (f : Nat) (x0 : Int) (x1 : Int) (x2 : Int) (x3 : List Int) (x4 : List Int) (x5 : Int) : Option (Int) := lrun ref05_allc 0 [1, 2, 5, 6] [5] (loopOf Tryd.f37 3) f ([V.s (S.i IntKind.i64 x0), V.s (S.ptr 0 0 none 0), V.s (S.i IntKind.i64 x1), V.s (S.i IntKind.i64 x2)]) ([Obj.cells 28 [Seg.arr IntKind.i8 81 x3, Seg.arr IntKind.i8 16 x4, Seg.one [S.i IntKind.i8 x5]]]) ref05_alll3d

theorem ref05_alll3_step (f : Nat) (x0 : Int) (x1 : Int) (x2 : Int) (x3 : List Int) (x4 : List Int) (x5 : Int) : ref05_alll3r (f + 1) x0 x1 x2 x3 x4 x5 = ref05_alll3s (ref05_alll3r f) x0 x1 x2 x3 x4 x5 := by kernel_rfl

theorem ref05_alll3_eq : ∀ f, ref05_alll3r f = ref05_alll3 f
  | 0 => rfl
  | f + 1 => by funext x0 x1 x2 x3 x4 x5; rw [ref05_alll3_step, ref05_alll3_eq f]; rfl

theorem ref05_alls3 : LoopSound Tryd.prog ref05_allc 0 (loopOf Tryd.f37 3) :=
  loopSound_by mixed ref05_allc_ok (AllP.of (l' := []) (by kernel_rfl) trivial) (q := 3) (kin := [1, 2, 5, 6]) (kout := [5]) (by kernel_rfl) (by kernel_rfl) fun vs objs K r h => by
    replace h : ref05_allp3 vs objs K = some r := h
    unfold ref05_allp3 at h
    split at h
    · skip
      obtain ⟨t, h1, h2⟩ := ob_ok h
      rw [← ref05_alll3_eq] at h1
      refine ⟨_, ref05_alll3d, t, many, h1, fun e vs' objs' hd => ?_⟩
      unfold ref05_alll3d at hd
      split at hd
      · skip
        cases hd
        exact h2
      · cases hd
    · cases h

noncomputable def ref05_alld : V → List Obj → Option (Int) := fun v objs => match v, objs with
  | V.s (S.i IntKind.i64 y0), [] => some (y0)
  | _, _ => none

theorem ref05_all_eq (x0 : List Int) (x1 : List Int) (x2 : Int) (x3 : Int) : fnE ref05_allc Tryd.f37 ([V.agg [Seg.arr IntKind.i8 81 x0, Seg.arr IntKind.i8 16 x1, Seg.one [S.i IntKind.i8 x2]], V.s (S.i IntKind.i64 x3)]) ([]) ref05_alld = ref05_all x0 x1 x2 x3 := by kernel_rfl

noncomputable def ref05_alla {R : Type} (o : Orc) (vs : List V) (objs : List Obj) (K : Bool → V → List Obj → Option R) : Option R := match vs, objs with
  | [V.agg [Seg.arr IntKind.i8 81 x0, Seg.arr IntKind.i8 16 x1, Seg.one [S.i IntKind.i8 x2]], V.s (S.i IntKind.i64 x3)], [] => ob (ref05_all x0 x1 x2 x3) fun y0 => K false (V.s (S.i IntKind.i64 y0)) ([])
  | _, _ => o 37 vs objs K

noncomputable def ref05_allo (o : Orc) : Orc := hook 37 (ref05_alla o) o

theorem ref05_allo_ok (o : Orc) (ho : OSound Tryd.prog o) : OSound Tryd.prog (ref05_allo o) := hook_ok ho fun vs objs K r h => by
  unfold ref05_alla at h
  split at h
  · skip
    obtain ⟨t, h1, h2⟩ := ob_ok h
    refine anyOK_of mixed ref05_allc_ok (fn := Tryd.f37) (b := (Tryd.f37).body.getD .skip) (by kernel_rfl) (by kernel_rfl) (by kernel_rfl) ((ref05_all_eq _ _ _ _).trans h1) (m := 0) rfl (AllP.of (l' := [loopOf Tryd.f37 3]) (by kernel_rfl) ⟨ref05_alls3, trivial⟩) fun v objs' hd => ?_
    unfold ref05_alld at hd
    split at hd
    · skip
      cases hd
      exact h2
    · cases hd
  · exact ho _ _ _ _ _ h

noncomputable def ref02_Rawc : Ctx := mkC 18 (oNil) [] lpNil

theorem ref02_Rawc_ok : CtxOK Tryd.prog ref02_Rawc := mkC_ok (oNil_ok)

noncomputable def ref02_Rawd : V → List Obj → Option (Int) := fun v objs => match v, objs with
  | V.s (S.i IntKind.i64 y0), [] => some (y0)
  | _, _ => none

theorem ref02_Raw_eq (x0 : Int) : fnE ref02_Rawc Tryd.f30 ([V.s (S.i IntKind.i64 x0)]) ([]) ref02_Rawd = ref02_Raw x0 := by kernel_rfl

noncomputable def ref02_Rawa {R : Type} (o : Orc) (vs : List V) (objs : List Obj) (K : Bool → V → List Obj → Option R) : Option R := match vs, objs with
  | [V.s (S.i IntKind.i64 x0)], [] => ob (ref02_Raw x0) fun y0 => K false (V.s (S.i IntKind.i64 y0)) ([])
  | _, _ => o 30 vs objs K

noncomputable def ref02_Rawo (o : Orc) : Orc := hook 30 (ref02_Rawa o) o

theorem ref02_Rawo_ok (o : Orc) (ho : OSound Tryd.prog o) : OSound Tryd.prog (ref02_Rawo o) := hook_ok ho fun vs objs K r h => by
  unfold ref02_Rawa at h
  split at h
  · skip
    obtain ⟨t, h1, h2⟩ := ob_ok h
    refine anyOK_of mixed ref02_Rawc_ok (fn := Tryd.f30) (b := (Tryd.f30).body.getD .skip) (by kernel_rfl) (by kernel_rfl) (by kernel_rfl) ((ref02_Raw_eq _).trans h1) (m := 0) rfl (AllP.of (l' := []) (by kernel_rfl) trivial) fun v objs' hd => ?_
    unfold ref02_Rawd at hd
    split at hd
    · skip
      cases hd
      exact h2
    · cases hd
  · exact ho _ _ _ _ _ h

noncomputable def ref05_Countl3d : Ex → List V → List Obj → Option (Int × Int × List Int × List Int × Int) := fun e vs objs => match e, vs, objs with
  | Ex.exit 0, [V.s (S.i IntKind.i64 y0), V.s (S.ptr 0 0 none 0), V.s (S.i IntKind.i64 y1)], [Obj.cells 28 [Seg.arr IntKind.i8 81 y2, Seg.arr IntKind.i8 16 y3, Seg.one [S.i IntKind.i8 y4]]] => some (y0, y1, y2, y3, y4)
  | _, _, _ => none

noncomputable def ref05_Countp3 {R : Type} (vs : List V) (objs : List Obj) (K : Ex → List V → List Obj → Option R) : Option R := match vs, objs with
  | [V.s (S.i IntKind.i64 x0), V.s (S.ptr 0 0 none 0), V.s (S.i IntKind.i64 x1), V.s (S.i IntKind.i64 x2)], [Obj.cells 28 [Seg.arr IntKind.i8 81 x3, Seg.arr IntKind.i8 16 x4, Seg.one [S.i IntKind.i8 x5]]] => ob (ref05_Countl3 many x0 x1 x2 x3 x4 x5) fun z => K (Ex.exit 0) ([V.s (S.i IntKind.i64 (z.1)), V.s (S.ptr 0 0 none 0), V.s (S.i IntKind.i64 (z.2.1))]) ([Obj.cells 28 [Seg.arr IntKind.i8 81 (z.2.2.1), Seg.arr IntKind.i8 16 (z.2.2.2.1), Seg.one [S.i IntKind.i8 (z.2.2.2.2)]]])
  | _, _ => none

noncomputable def ref05_Countlp : {R : Type} → Nat → List V → List Obj → (Ex → List V → List Obj → Option R) → Option R := fun q vs objs K => bif Nat.beq q 3 then ref05_Countp3 vs objs K else none

noncomputable def ref05_Countc : Ctx := mkC 37 ((ref02_Rawo (ref02_Kindo oNil))) [(3, [1, 2, 5, 6], [1, 2, 5])] ref05_Countlp

theorem ref05_Countc_ok : CtxOK Tryd.prog ref05_Countc := mkC_ok ((ref02_Rawo_ok _ (ref02_Kindo_ok _ oNil_ok)))

noncomputable def ref05_Countl3r (f : Nat) (x0 : Int) (x1 : Int) (x2 : Int) (x3 : List Int) (x4 : List Int) (x5 : Int) : Option (Int × Int × List Int × List Int × Int) := lrun ref05_Countc 0 [1, 2, 5, 6] [1, 2, 5] (loopOf Tryd.f38 3) f ([V.s (S.i IntKind.i64 x0), V.s (S.ptr 0 0 none 0), V.s (S.i IntKind.i64 x1), V.s (S.i IntKind.i64 x2)]) ([Obj.cells 28 [Seg.arr IntKind.i8 81 x3, Seg.arr IntKind.i8 16 x4, Seg.one [S.i IntKind.i8 x5]]]) ref05_Countl3d

theorem ref05_Countl3_step (f : Nat) (x0 : Int) (x1 : Int) (x2 : Int) (x3 : List Int) (x4 : List Int) (x5 : Int) : ref05_Countl3r (f + 1) x0 x1 x2 x3 x4 x5 = ref05_Countl3s (ref05_Countl3r f) x0 x1 x2 x3 x4 x5 := by kernel_rfl

theorem ref05_Countl3_eq : ∀ f, ref05_Countl3r f = ref05_Countl3 f
  | 0 => rfl
  | f + 1 => by funext x0 x1 x2 x3 x4 x5; rw [ref05_Countl3_step, ref05_Countl3_eq f]; rfl

theorem ref05_Counts3 : LoopSound Tryd.prog ref05_Countc 0 (loopOf Tryd.f38 3) :=
  loopSound_by mixed ref05_Countc_ok (AllP.of (l' := []) (by kernel_rfl) trivial) (q := 3) (kin := [1, 2, 5, 6]) (kout := [1, 2, 5]) (by kernel_rfl) (by kernel_rfl) fun vs objs K r h => by
    replace h : ref05_Countp3 vs objs K = some r := h
    unfold ref05_Countp3 at h
    split at h
    · skip
      obtain ⟨t, h1, h2⟩ := ob_ok h
      rw [← ref05_Countl3_eq] at h1
      refine ⟨_, ref05_Countl3d, t, many, h1, fun e vs' objs' hd => ?_⟩
      unfold ref05_Countl3d at hd
      split at hd
      · skip
        cases hd
        exact h2
      · cases hd
    · cases h

noncomputable def ref05_Countd : V → List Obj → Option (Int) := fun v objs => match v, objs with
  | V.s (S.i IntKind.i64 y0), [] => some (y0)
  | _, _ => none

theorem ref05_Count_eq (x0 : List Int) (x1 : List Int) (x2 : Int) (x3 : Int) : fnE ref05_Countc Tryd.f38 ([V.agg [Seg.arr IntKind.i8 81 x0, Seg.arr IntKind.i8 16 x1, Seg.one [S.i IntKind.i8 x2]], V.s (S.i IntKind.i64 x3)]) ([]) ref05_Countd = ref05_Count x0 x1 x2 x3 := by kernel_rfl

noncomputable def ref05_Counta {R : Type} (o : Orc) (vs : List V) (objs : List Obj) (K : Bool → V → List Obj → Option R) : Option R := match vs, objs with
  | [V.agg [Seg.arr IntKind.i8 81 x0, Seg.arr IntKind.i8 16 x1, Seg.one [S.i IntKind.i8 x2]], V.s (S.i IntKind.i64 x3)], [] => ob (ref05_Count x0 x1 x2 x3) fun y0 => K false (V.s (S.i IntKind.i64 y0)) ([])
  | _, _ => o 38 vs objs K

noncomputable def ref05_Counto (o : Orc) : Orc := hook 38 (ref05_Counta o) o

theorem ref05_Counto_ok (o : Orc) (ho : OSound Tryd.prog o) : OSound Tryd.prog (ref05_Counto o) := hook_ok ho fun vs objs K r h => by
  unfold ref05_Counta at h
  split at h
  · skip
    obtain ⟨t, h1, h2⟩ := ob_ok h
    refine anyOK_of mixed ref05_Countc_ok (fn := Tryd.f38) (b := (Tryd.f38).body.getD .skip) (by kernel_rfl) (by kernel_rfl) (by kernel_rfl) ((ref05_Count_eq _ _ _ _).trans h1) (m := 0) rfl (AllP.of (l' := [loopOf Tryd.f38 3]) (by kernel_rfl) ⟨ref05_Counts3, trivial⟩) fun v objs' hd => ?_
    unfold ref05_Countd at hd
    split at hd
    · skip
      cases hd
      exact h2
    · cases hd
  · exact ho _ _ _ _ _ h

noncomputable def ref02_Totalc : Ctx := mkC 15 (oNil) [] lpNil

theorem ref02_Totalc_ok : CtxOK Tryd.prog ref02_Totalc := mkC_ok (oNil_ok)

noncomputable def ref02_Totald : V → List Obj → Option (Int) := fun v objs => match v, objs with
  | V.s (S.i IntKind.i64 y0), [] => some (y0)
  | _, _ => none

theorem ref02_Total_eq (x0 : Int) : fnE ref02_Totalc Tryd.f39 ([V.s (S.i IntKind.i64 x0)]) ([]) ref02_Totald = ref02_Total x0 := by kernel_rfl

noncomputable def ref02_Totala {R : Type} (o : Orc) (vs : List V) (objs : List Obj) (K : Bool → V → List Obj → Option R) : Option R := match vs, objs with
  | [V.s (S.i IntKind.i64 x0)], [] => ob (ref02_Total x0) fun y0 => K false (V.s (S.i IntKind.i64 y0)) ([])
  | _, _ => o 39 vs objs K

noncomputable def ref02_Totalo (o : Orc) : Orc := hook 39 (ref02_Totala o) o

theorem ref02_Totalo_ok (o : Orc) (ho : OSound Tryd.prog o) : OSound Tryd.prog (ref02_Totalo o) := hook_ok ho fun vs objs K r h => by
  unfold ref02_Totala at h
  split at h
  · skip
    obtain ⟨t, h1, h2⟩ := ob_ok h
    refine anyOK_of mixed ref02_Totalc_ok (fn := Tryd.f39) (b := (Tryd.f39).body.getD .skip) (by kernel_rfl) (by kernel_rfl) (by kernel_rfl) ((ref02_Total_eq _).trans h1) (m := 0) rfl (AllP.of (l' := []) (by kernel_rfl) trivial) fun v objs' hd => ?_
    unfold ref02_Totald at hd
    split at hd
    · skip
      cases hd
      exact h2
    · cases hd
  · exact ho _ _ _ _ _ h

noncomputable def ref02_Sidec : Ctx := mkC 8 ((ref02_Kindo oNil)) [] lpNil

theorem ref02_Sidec_ok : CtxOK Tryd.prog ref02_Sidec := mkC_ok ((ref02_Kindo_ok _ oNil_ok))

noncomputable def ref02_Sided : V → List Obj → Option (Int) := fun v objs => match v, objs with
  | V.s (S.i IntKind.i64 y0), [] => some (y0)
  | _, _ => none

theorem ref02_Side_eq (x0 : Int) : fnE ref02_Sidec Tryd.f53 ([V.s (S.i IntKind.i64 x0)]) ([]) ref02_Sided = ref02_Side x0 := by kernel_rfl

noncomputable def ref02_Sidea {R : Type} (o : Orc) (vs : List V) (objs : List Obj) (K : Bool → V → List Obj → Option R) : Option R := match vs, objs with
  | [V.s (S.i IntKind.i64 x0)], [] => ob (ref02_Side x0) fun y0 => K false (V.s (S.i IntKind.i64 y0)) ([])
  | _, _ => o 53 vs objs K

noncomputable def ref02_Sideo (o : Orc) : Orc := hook 53 (ref02_Sidea o) o

theorem ref02_Sideo_ok (o : Orc) (ho : OSound Tryd.prog o) : OSound Tryd.prog (ref02_Sideo o) := hook_ok ho fun vs objs K r h => by
  unfold ref02_Sidea at h
  split at h
  · skip
    obtain ⟨t, h1, h2⟩ := ob_ok h
    refine anyOK_of mixed ref02_Sidec_ok (fn := Tryd.f53) (b := (Tryd.f53).body.getD .skip) (by kernel_rfl) (by kernel_rfl) (by kernel_rfl) ((ref02_Side_eq _).trans h1) (m := 0) rfl (AllP.of (l' := []) (by kernel_rfl) trivial) fun v objs' hd => ?_
    unfold ref02_Sided at hd
    split at hd
    · skip
      cases hd
      exact h2
    · cases hd
  · exact ho _ _ _ _ _ h

noncomputable def ref03_Farc : Ctx := mkC 26 (oNil) [] lpNil

theorem ref03_Farc_ok : CtxOK Tryd.prog ref03_Farc := mkC_ok (oNil_ok)

noncomputable def ref03_Fard : V → List Obj → Option (Int) := fun v objs => match v, objs with
  | V.s (S.i IntKind.i64 y0), [] => some (y0)
  | _, _ => none

theorem ref03_Far_eq (x0 : Int) (x1 : Int) : fnE ref03_Farc Tryd.f52 ([V.s (S.i IntKind.i64 x0), V.s (S.i IntKind.i64 x1)]) ([]) ref03_Fard = ref03_Far x0 x1 := by kernel_rfl

noncomputable def ref03_Fara {R : Type} (o : Orc) (vs : List V) (objs : List Obj) (K : Bool → V → List Obj → Option R) : Option R := match vs, objs with
  | [V.s (S.i IntKind.i64 x0), V.s (S.i IntKind.i64 x1)], [] => ob (ref03_Far x0 x1) fun y0 => K false (V.s (S.i IntKind.i64 y0)) ([])
  | _, _ => o 52 vs objs K

noncomputable def ref03_Faro (o : Orc) : Orc := hook 52 (ref03_Fara o) o

theorem ref03_Faro_ok (o : Orc) (ho : OSound Tryd.prog o) : OSound Tryd.prog (ref03_Faro o) := hook_ok ho fun vs objs K r h => by
  unfold ref03_Fara at h
  split at h
  · skip
    obtain ⟨t, h1, h2⟩ := ob_ok h
    refine anyOK_of mixed ref03_Farc_ok (fn := Tryd.f52) (b := (Tryd.f52).body.getD .skip) (by kernel_rfl) (by kernel_rfl) (by kernel_rfl) ((ref03_Far_eq _ _).trans h1) (m := 0) rfl (AllP.of (l' := []) (by kernel_rfl) trivial) fun v objs' hd => ?_
    unfold ref03_Fard at hd
    split at hd
    · skip
      cases hd
      exact h2
    · cases hd
  · exact ho _ _ _ _ _ h

noncomputable def ref03_Deadc : Ctx := mkC 35 ((ref02_Kindo (ref03_Faro (ref02_Sideo oNil)))) [] lpNil

theorem ref03_Deadc_ok : CtxOK Tryd.prog ref03_Deadc := mkC_ok ((ref02_Kindo_ok _ (ref03_Faro_ok _ (ref02_Sideo_ok _ oNil_ok))))

noncomputable def ref03_Deadd : V → List Obj → Option (Bool) := fun v objs => match v, objs with
  | V.s (S.b y0), [] => some (y0)
  | _, _ => none

theorem ref03_Dead_eq (x0 : Int) (x1 : Int) : fnE ref03_Deadc Tryd.f40 ([V.s (S.i IntKind.i64 x0), V.s (S.i IntKind.i64 x1)]) ([]) ref03_Deadd = ref03_Dead x0 x1 := by kernel_rfl

noncomputable def ref03_Deada {R : Type} (o : Orc) (vs : List V) (objs : List Obj) (K : Bool → V → List Obj → Option R) : Option R := match vs, objs with
  | [V.s (S.i IntKind.i64 x0), V.s (S.i IntKind.i64 x1)], [] => ob (ref03_Dead x0 x1) fun y0 => K false (V.s (S.b y0)) ([])
  | _, _ => o 40 vs objs K

noncomputable def ref03_Deado (o : Orc) : Orc := hook 40 (ref03_Deada o) o

theorem ref03_Deado_ok (o : Orc) (ho : OSound Tryd.prog o) : OSound Tryd.prog (ref03_Deado o) := hook_ok ho fun vs objs K r h => by
  unfold ref03_Deada at h
  split at h
  · skip
    obtain ⟨t, h1, h2⟩ := ob_ok h
    refine anyOK_of mixed ref03_Deadc_ok (fn := Tryd.f40) (b := (Tryd.f40).body.getD .skip) (by kernel_rfl) (by kernel_rfl) (by kernel_rfl) ((ref03_Dead_eq _ _).trans h1) (m := 0) rfl (AllP.of (l' := []) (by kernel_rfl) trivial) fun v objs' hd => ?_
    unfold ref03_Deadd at hd
    split at hd
    · skip
      cases hd
      exact h2
    · cases hd
  · exact ho _ _ _ _ _ h

noncomputable def ref05_Checkl4d : Ex → List V → List Obj → Option ((Int × List Int × List Int × Int) ⊕ (List Int × List Int × Int)) := fun e vs objs => match e, vs, objs with
  | Ex.ret, [V.s (S.ptr 0 0 none 0), V.s (S.i IntKind.i64 y0)], [Obj.cells 28 [Seg.arr IntKind.i8 81 y1, Seg.arr IntKind.i8 16 y2, Seg.one [S.i IntKind.i8 y3]]] => some (Sum.inl (y0, y1, y2, y3))
  | Ex.exit 0, [V.s (S.ptr 0 0 none 0), V.s S.bad], [Obj.cells 28 [Seg.arr IntKind.i8 81 y0, Seg.arr IntKind.i8 16 y1, Seg.one [S.i IntKind.i8 y2]]] => some (Sum.inr (y0, y1, y2))
  | _, _, _ => none

noncomputable def ref05_Checkl12d : Ex → List V → List Obj → Option ((Int × Int × List Int × List Int × Int) ⊕ (Int × List Int × List Int × Int)) := fun e vs objs => match e, vs, objs with
  | Ex.ret, [V.s (S.ptr 0 0 none 0), V.s (S.i IntKind.i64 y0), V.s (S.i IntKind.i64 y1)], [Obj.cells 28 [Seg.arr IntKind.i8 81 y2, Seg.arr IntKind.i8 16 y3, Seg.one [S.i IntKind.i8 y4]]] => some (Sum.inl (y0, y1, y2, y3, y4))
  | Ex.exit 4, [V.s (S.ptr 0 0 none 0), V.s S.bad, V.s (S.i IntKind.i64 y0)], [Obj.cells 28 [Seg.arr IntKind.i8 81 y1, Seg.arr IntKind.i8 16 y2, Seg.one [S.i IntKind.i8 y3]]] => some (Sum.inr (y0, y1, y2, y3))
  | _, _, _ => none

noncomputable def ref05_Checkl9d : Ex → List V → List Obj → Option ((Int × List Int × List Int × Int) ⊕ (List Int × List Int × Int)) := fun e vs objs => match e, vs, objs with
  | Ex.ret, [V.s (S.ptr 0 0 none 0), V.s (S.i IntKind.i64 y0)], [Obj.cells 28 [Seg.arr IntKind.i8 81 y1, Seg.arr IntKind.i8 16 y2, Seg.one [S.i IntKind.i8 y3]]] => some (Sum.inl (y0, y1, y2, y3))
  | Ex.exit 2, [V.s (S.ptr 0 0 none 0), V.s S.bad], [Obj.cells 28 [Seg.arr IntKind.i8 81 y0, Seg.arr IntKind.i8 16 y1, Seg.one [S.i IntKind.i8 y2]]] => some (Sum.inr (y0, y1, y2))
  | _, _, _ => none

noncomputable def ref05_Checkl20d : Ex → List V → List Obj → Option ((Int × List Int × List Int × Int) ⊕ (List Int × List Int × Int)) := fun e vs objs => match e, vs, objs with
  | Ex.ret, [V.s (S.ptr 0 0 none 0), V.s (S.i IntKind.i64 y0)], [Obj.cells 28 [Seg.arr IntKind.i8 81 y1, Seg.arr IntKind.i8 16 y2, Seg.one [S.i IntKind.i8 y3]]] => some (Sum.inl (y0, y1, y2, y3))
  | Ex.exit 6, [V.s (S.ptr 0 0 none 0), V.s S.bad], [Obj.cells 28 [Seg.arr IntKind.i8 81 y0, Seg.arr IntKind.i8 16 y1, Seg.one [S.i IntKind.i8 y2]]] => some (Sum.inr (y0, y1, y2))
  | _, _, _ => none

noncomputable def ref05_Checkl25d : Ex → List V → List Obj → Option ((Int × List Int × List Int × Int) ⊕ (List Int × List Int × Int)) := fun e vs objs => match e, vs, objs with
  | Ex.ret, [V.s (S.ptr 0 0 none 0), V.s (S.i IntKind.i64 y0)], [Obj.cells 28 [Seg.arr IntKind.i8 81 y1, Seg.arr IntKind.i8 16 y2, Seg.one [S.i IntKind.i8 y3]]] => some (Sum.inl (y0, y1, y2, y3))
  | Ex.exit 8, [V.s (S.ptr 0 0 none 0), V.s S.bad], [Obj.cells 28 [Seg.arr IntKind.i8 81 y0, Seg.arr IntKind.i8 16 y1, Seg.one [S.i IntKind.i8 y2]]] => some (Sum.inr (y0, y1, y2))
  | _, _, _ => none

noncomputable def ref05_Checkl30d : Ex → List V → List Obj → Option ((Int) ⊕ (Unit)) := fun e vs objs => match e, vs, objs with
  | Ex.ret, [V.s (S.i IntKind.i64 y0)], [] => some (Sum.inl (y0))
  | Ex.exit 10, [V.s S.bad], [] => some (Sum.inr ())
  | _, _, _ => none

noncomputable def ref05_Checkp4 {R : Type} (vs : List V) (objs : List Obj) (K : Ex → List V → List Obj → Option R) : Option R := match vs, objs with
  | [V.s (S.ptr 0 0 none 0), V.s (S.i IntKind.i64 x0)], [Obj.cells 28 [Seg.arr IntKind.i8 81 x1, Seg.arr IntKind.i8 16 x2, Seg.one [S.i IntKind.i8 x3]]] => ob (ref05_Checkl4 many x0 x1 x2 x3) fun t0 => sw t0 (fun z => K (Ex.ret) ([V.s (S.ptr 0 0 none 0), V.s (S.i IntKind.i64 (z.1))]) ([Obj.cells 28 [Seg.arr IntKind.i8 81 (z.2.1), Seg.arr IntKind.i8 16 (z.2.2.1), Seg.one [S.i IntKind.i8 (z.2.2.2)]]])) (fun z => K (Ex.exit 0) ([V.s (S.ptr 0 0 none 0), V.s S.bad]) ([Obj.cells 28 [Seg.arr IntKind.i8 81 (z.1), Seg.arr IntKind.i8 16 (z.2.1), Seg.one [S.i IntKind.i8 (z.2.2)]]]))
  | _, _ => none

noncomputable def ref05_Checkp12 {R : Type} (vs : List V) (objs : List Obj) (K : Ex → List V → List Obj → Option R) : Option R := match vs, objs with
  | [V.s (S.ptr 0 0 none 0), V.s (S.i IntKind.i64 x0), V.s (S.i IntKind.i64 x1)], [Obj.cells 28 [Seg.arr IntKind.i8 81 x2, Seg.arr IntKind.i8 16 x3, Seg.one [S.i IntKind.i8 x4]]] => ob (ref05_Checkl12 many x0 x1 x2 x3 x4) fun t0 => sw t0 (fun z => K (Ex.ret) ([V.s (S.ptr 0 0 none 0), V.s (S.i IntKind.i64 (z.1)), V.s (S.i IntKind.i64 (z.2.1))]) ([Obj.cells 28 [Seg.arr IntKind.i8 81 (z.2.2.1), Seg.arr IntKind.i8 16 (z.2.2.2.1), Seg.one [S.i IntKind.i8 (z.2.2.2.2)]]])) (fun z => K (Ex.exit 4) ([V.s (S.ptr 0 0 none 0), V.s S.bad, V.s (S.i IntKind.i64 (z.1))]) ([Obj.cells 28 [Seg.arr IntKind.i8 81 (z.2.1), Seg.arr IntKind.i8 16 (z.2.2.1), Seg.one [S.i IntKind.i8 (z.2.2.2)]]]))
  | _, _ => none

noncomputable def ref05_Checkp9 {R : Type} (vs : List V) (objs : List Obj) (K : Ex → List V → List Obj → Option R) : Option R := match vs, objs with
  | [V.s (S.ptr 0 0 none 0), V.s (S.i IntKind.i64 x0)], [Obj.cells 28 [Seg.arr IntKind.i8 81 x1, Seg.arr IntKind.i8 16 x2, Seg.one [S.i IntKind.i8 x3]]] => ob (ref05_Checkl9 many x0 x1 x2 x3) fun t0 => sw t0 (fun z => K (Ex.ret) ([V.s (S.ptr 0 0 none 0), V.s (S.i IntKind.i64 (z.1))]) ([Obj.cells 28 [Seg.arr IntKind.i8 81 (z.2.1), Seg.arr IntKind.i8 16 (z.2.2.1), Seg.one [S.i IntKind.i8 (z.2.2.2)]]])) (fun z => K (Ex.exit 2) ([V.s (S.ptr 0 0 none 0), V.s S.bad]) ([Obj.cells 28 [Seg.arr IntKind.i8 81 (z.1), Seg.arr IntKind.i8 16 (z.2.1), Seg.one [S.i IntKind.i8 (z.2.2)]]]))
  | _, _ => none

noncomputable def ref05_Checkp20 {R : Type} (vs : List V) (objs : List Obj) (K : Ex → List V → List Obj → Option R) : Option R := match vs, objs with
  | [V.s (S.ptr 0 0 none 0), V.s (S.i IntKind.i64 x0)], [Obj.cells 28 [Seg.arr IntKind.i8 81 x1, Seg.arr IntKind.i8 16 x2, Seg.one [S.i IntKind.i8 x3]]] => ob (ref05_Checkl20 many x0 x1 x2 x3) fun t0 => sw t0 (fun z => K (Ex.ret) ([V.s (S.ptr 0 0 none 0), V.s (S.i IntKind.i64 (z.1))]) ([Obj.cells 28 [Seg.arr IntKind.i8 81 (z.2.1), Seg.arr IntKind.i8 16 (z.2.2.1), Seg.one [S.i IntKind.i8 (z.2.2.2)]]])) (fun z => K (Ex.exit 6) ([V.s (S.ptr 0 0 none 0), V.s S.bad]) ([Obj.cells 28 [Seg.arr IntKind.i8 81 (z.1), Seg.arr IntKind.i8 16 (z.2.1), Seg.one [S.i IntKind.i8 (z.2.2)]]]))
  | _, _ => none

noncomputable def ref05_Checkp25 {R : Type} (vs : List V) (objs : List Obj) (K : Ex → List V → List Obj → Option R) : Option R := match vs, objs with
  | [V.s (S.ptr 0 0 none 0), V.s (S.i IntKind.i64 x0)], [Obj.cells 28 [Seg.arr IntKind.i8 81 x1, Seg.arr IntKind.i8 16 x2, Seg.one [S.i IntKind.i8 x3]]] => ob (ref05_Checkl25 many x0 x1 x2 x3) fun t0 => sw t0 (fun z => K (Ex.ret) ([V.s (S.ptr 0 0 none 0), V.s (S.i IntKind.i64 (z.1))]) ([Obj.cells 28 [Seg.arr IntKind.i8 81 (z.2.1), Seg.arr IntKind.i8 16 (z.2.2.1), Seg.one [S.i IntKind.i8 (z.2.2.2)]]])) (fun z => K (Ex.exit 8) ([V.s (S.ptr 0 0 none 0), V.s S.bad]) ([Obj.cells 28 [Seg.arr IntKind.i8 81 (z.1), Seg.arr IntKind.i8 16 (z.2.1), Seg.one [S.i IntKind.i8 (z.2.2)]]]))
  | _, _ => none

noncomputable def ref05_Checkp30 {R : Type} (vs : List V) (objs : List Obj) (K : Ex → List V → List Obj → Option R) : Option R := match vs, objs with
  | [V.s (S.ptr 0 0 none 0), V.s (S.i IntKind.i64 x0)], [Obj.cells 28 [Seg.arr IntKind.i8 81 x1, Seg.arr IntKind.i8 16 x2, Seg.one [S.i IntKind.i8 x3]]] => ob (ref05_Checkl30 many x0 x1 x2 x3) fun t0 => sw t0 (fun y0 => K (Ex.ret) ([V.s (S.i IntKind.i64 y0)]) ([])) (fun _ => K (Ex.exit 10) ([V.s S.bad]) ([]))
  | _, _ => none

noncomputable def ref05_Checklp : {R : Type} → Nat → List V → List Obj → (Ex → List V → List Obj → Option R) → Option R := fun q vs objs K => bif Nat.beq q 4 then ref05_Checkp4 vs objs K else bif Nat.beq q 12 then ref05_Checkp12 vs objs K else bif Nat.beq q 9 then ref05_Checkp9 vs objs K else bif Nat.beq q 20 then ref05_Checkp20 vs objs K else bif Nat.beq q 25 then ref05_Checkp25 vs objs K else bif Nat.beq q 30 then ref05_Checkp30 vs objs K else none

noncomputable def ref05_Checkc : Ctx := mkC 103 ((ref05_Ono (ref03_Deado (ref02_Totalo (ref05_Counto (ref05_allo (ref02_Kindo oNil))))))) [(4, [1, 3], [1, 2]), (9, [1, 4], [1, 2]), (12, [1, 4, 5], [1, 2, 4]), (20, [1, 7], [1, 2]), (25, [1, 8], [1, 2]), (30, [1, 9], [2])] ref05_Checklp

theorem ref05_Checkc_ok : CtxOK Tryd.prog ref05_Checkc := mkC_ok ((ref05_Ono_ok _ (ref03_Deado_ok _ (ref02_Totalo_ok _ (ref05_Counto_ok _ (ref05_allo_ok _ (ref02_Kindo_ok _ oNil_ok)))))))

noncomputable def ref05_Checkl4r (f : Nat) (x0 : Int) (x1 : List Int) (x2 : List Int) (x3 : Int) : Option ((Int × List Int × List Int × Int) ⊕ (List Int × List Int × Int)) := lrun ref05_Checkc 0 [1, 3] [1, 2] (loopOf Tryd.f11 4) f ([V.s (S.ptr 0 0 none 0), V.s (S.i IntKind.i64 x0)]) ([Obj.cells 28 [Seg.arr IntKind.i8 81 x1, Seg.arr IntKind.i8 16 x2, Seg.one [S.i IntKind.i8 x3]]]) ref05_Checkl4d

theorem ref05_Checkl4_step (f : Nat) (x0 : Int) (x1 : List Int) (x2 : List Int) (x3 : Int) : ref05_Checkl4r (f + 1) x0 x1 x2 x3 = ref05_Checkl4s (ref05_Checkl4r f) x0 x1 x2 x3 := by kernel_rfl

theorem ref05_Checkl4_eq : ∀ f, ref05_Checkl4r f = ref05_Checkl4 f
  | 0 => rfl
  | f + 1 => by funext x0 x1 x2 x3; rw [ref05_Checkl4_step, ref05_Checkl4_eq f]; rfl

noncomputable def ref05_Checkl12r (f : Nat) (x0 : Int) (x1 : Int) (x2 : List Int) (x3 : List Int) (x4 : Int) : Option ((Int × Int × List Int × List Int × Int) ⊕ (Int × List Int × List Int × Int)) := lrun ref05_Checkc 0 [1, 4, 5] [1, 2, 4] (loopOf Tryd.f11 12) f ([V.s (S.ptr 0 0 none 0), V.s (S.i IntKind.i64 x0), V.s (S.i IntKind.i64 x1)]) ([Obj.cells 28 [Seg.arr IntKind.i8 81 x2, Seg.arr IntKind.i8 16 x3, Seg.one [S.i IntKind.i8 x4]]]) ref05_Checkl12d

theorem ref05_Checkl12_step (f : Nat) (x0 : Int) (x1 : Int) (x2 : List Int) (x3 : List Int) (x4 : Int) : ref05_Checkl12r (f + 1) x0 x1 x2 x3 x4 = ref05_Checkl12s (ref05_Checkl12r f) x0 x1 x2 x3 x4 := by kernel_rfl

theorem ref05_Checkl12_eq : ∀ f, ref05_Checkl12r f = ref05_Checkl12 f
  | 0 => rfl
  | f + 1 => by funext x0 x1 x2 x3 x4; rw [ref05_Checkl12_step, ref05_Checkl12_eq f]; rfl

noncomputable def ref05_Checkl9r (f : Nat) (x0 : Int) (x1 : List Int) (x2 : List Int) (x3 : Int) : Option ((Int × List Int × List Int × Int) ⊕ (List Int × List Int × Int)) := lrun ref05_Checkc 0 [1, 4] [1, 2] (loopOf Tryd.f11 9) f ([V.s (S.ptr 0 0 none 0), V.s (S.i IntKind.i64 x0)]) ([Obj.cells 28 [Seg.arr IntKind.i8 81 x1, Seg.arr IntKind.i8 16 x2, Seg.one [S.i IntKind.i8 x3]]]) ref05_Checkl9d

theorem ref05_Checkl9_step (f : Nat) (x0 : Int) (x1 : List Int) (x2 : List Int) (x3 : Int) : ref05_Checkl9r (f + 1) x0 x1 x2 x3 = ref05_Checkl9s (ref05_Checkl9r f) x0 x1 x2 x3 := by kernel_rfl

theorem ref05_Checkl9_eq : ∀ f, ref05_Checkl9r f = ref05_Checkl9 f
  | 0 => rfl
  | f + 1 => by funext x0 x1 x2 x3; rw [ref05_Checkl9_step, ref05_Checkl9_eq f]; rfl

noncomputable def ref05_Checkl20r (f : Nat) (x0 : Int) (x1 : List Int) (x2 : List Int) (x3 : Int) : Option ((Int × List Int × List Int × Int) ⊕ (List Int × List Int × Int)) := lrun ref05_Checkc 0 [1, 7] [1, 2] (loopOf Tryd.f11 20) f ([V.s (S.ptr 0 0 none 0), V.s (S.i IntKind.i64 x0)]) ([Obj.cells 28 [Seg.arr IntKind.i8 81 x1, Seg.arr IntKind.i8 16 x2, Seg.one [S.i IntKind.i8 x3]]]) ref05_Checkl20d

theorem ref05_Checkl20_step (f : Nat) (x0 : Int) (x1 : List Int) (x2 : List Int) (x3 : Int) : ref05_Checkl20r (f + 1) x0 x1 x2 x3 = ref05_Checkl20s (ref05_Checkl20r f) x0 x1 x2 x3 := by kernel_rfl

theorem ref05_Checkl20_eq : ∀ f, ref05_Checkl20r f = ref05_Checkl20 f
  | 0 => rfl
  | f + 1 => by funext x0 x1 x2 x3; rw [ref05_Checkl20_step, ref05_Checkl20_eq f]; rfl

noncomputable def ref05_Checkl25r (f : Nat) (x0 : Int) (x1 : List Int) (x2 : List Int) (x3 : Int) : Option ((Int × List Int × List Int × Int) ⊕ (List Int × List Int × Int)) := lrun ref05_Checkc 0 [1, 8] [1, 2] (loopOf Tryd.f11 25) f ([V.s (S.ptr 0 0 none 0), V.s (S.i IntKind.i64 x0)]) ([Obj.cells 28 [Seg.arr IntKind.i8 81 x1, Seg.arr IntKind.i8 16 x2, Seg.one [S.i IntKind.i8 x3]]]) ref05_Checkl25d

theorem ref05_Checkl25_step (f : Nat) (x0 : Int) (x1 : List Int) (x2 : List Int) (x3 : Int) : ref05_Checkl25r (f + 1) x0 x1 x2 x3 = ref05_Checkl25s (ref05_Checkl25r f) x0 x1 x2 x3 := by kernel_rfl

theorem ref05_Checkl25_eq : ∀ f, ref05_Checkl25r f = ref05_Checkl25 f
  | 0 => rfl
  | f + 1 => by funext x0 x1 x2 x3; rw [ref05_Checkl25_step, ref05_Checkl25_eq f]; rfl

noncomputable def ref05_Checkl30r (f : Nat) (x0 : Int) (x1 : List Int) (x2 : List Int) (x3 : Int) : Option ((Int) ⊕ (Unit)) := lrun ref05_Checkc 0 [1, 9] [2] (loopOf Tryd.f11 30) f ([V.s (S.ptr 0 0 none 0), V.s (S.i IntKind.i64 x0)]) ([Obj.cells 28 [Seg.arr IntKind.i8 81 x1, Seg.arr IntKind.i8 16 x2, Seg.one [S.i IntKind.i8 x3]]]) ref05_Checkl30d

theorem ref05_Checkl30_step (f : Nat) (x0 : Int) (x1 : List Int) (x2 : List Int) (x3 : Int) : ref05_Checkl30r (f + 1) x0 x1 x2 x3 = ref05_Checkl30s (ref05_Checkl30r f) x0 x1 x2 x3 := by kernel_rfl

theorem ref05_Checkl30_eq : ∀ f, ref05_Checkl30r f = ref05_Checkl30 f
  | 0 => rfl
  | f + 1 => by funext x0 x1 x2 x3; rw [ref05_Checkl30_step, ref05_Checkl30_eq f]; rfl

theorem ref05_Checks4 : LoopSound Tryd.prog ref05_Checkc 0 (loopOf Tryd.f11 4) :=
  loopSound_by mixed ref05_Checkc_ok (AllP.of (l' := []) (by kernel_rfl) trivial) (q := 4) (kin := [1, 3]) (kout := [1, 2]) (by kernel_rfl) (by kernel_rfl) fun vs objs K r h => by
    replace h : ref05_Checkp4 vs objs K = some r := h
    unfold ref05_Checkp4 at h
    split at h
    · skip
      obtain ⟨t, h1, h2⟩ := ob_ok h
      rw [← ref05_Checkl4_eq] at h1
      refine ⟨_, ref05_Checkl4d, t, many, h1, fun e vs' objs' hd => ?_⟩
      unfold ref05_Checkl4d at hd
      split at hd
      · skip
        cases hd
        exact h2
      · skip
        cases hd
        exact h2
      · cases hd
    · cases h

theorem ref05_Checks12 : LoopSound Tryd.prog ref05_Checkc 0 (loopOf Tryd.f11 12) :=
  loopSound_by mixed ref05_Checkc_ok (AllP.of (l' := []) (by kernel_rfl) trivial) (q := 12) (kin := [1, 4, 5]) (kout := [1, 2, 4]) (by kernel_rfl) (by kernel_rfl) fun vs objs K r h => by
    replace h : ref05_Checkp12 vs objs K = some r := h
    unfold ref05_Checkp12 at h
    split at h
    · skip
      obtain ⟨t, h1, h2⟩ := ob_ok h
      rw [← ref05_Checkl12_eq] at h1
      refine ⟨_, ref05_Checkl12d, t, many, h1, fun e vs' objs' hd => ?_⟩
      unfold ref05_Checkl12d at hd
      split at hd
      · skip
        cases hd
        exact h2
      · skip
        cases hd
        exact h2
      · cases hd
    · cases h

theorem ref05_Checks20 : LoopSound Tryd.prog ref05_Checkc 0 (loopOf Tryd.f11 20) :=
  loopSound_by mixed ref05_Checkc_ok (AllP.of (l' := []) (by kernel_rfl) trivial) (q := 20) (kin := [1, 7]) (kout := [1, 2]) (by kernel_rfl) (by kernel_rfl) fun vs objs K r h => by
    replace h : ref05_Checkp20 vs objs K = some r := h
    unfold ref05_Checkp20 at h
    split at h
    · skip
      obtain ⟨t, h1, h2⟩ := ob_ok h
      rw [← ref05_Checkl20_eq] at h1
      refine ⟨_, ref05_Checkl20d, t, many, h1, fun e vs' objs' hd => ?_⟩
      unfold ref05_Checkl20d at hd
      split at hd
      · skip
        cases hd
        exact h2
      · skip
        cases hd
        exact h2
      · cases hd
    · cases h

theorem ref05_Checks25 : LoopSound Tryd.prog ref05_Checkc 0 (loopOf Tryd.f11 25) :=
  loopSound_by mixed ref05_Checkc_ok (AllP.of (l' := []) (by kernel_rfl) trivial) (q := 25) (kin := [1, 8]) (kout := [1, 2]) (by kernel_rfl) (by kernel_rfl) fun vs objs K r h => by
    replace h : ref05_Checkp25 vs objs K = some r := h
    unfold ref05_Checkp25 at h
    split at h
    · skip
      obtain ⟨t, h1, h2⟩ := ob_ok h
      rw [← ref05_Checkl25_eq] at h1
      refine ⟨_, ref05_Checkl25d, t, many, h1, fun e vs' objs' hd => ?_⟩
      unfold ref05_Checkl25d at hd
      split at hd
      · skip
        cases hd
        exact h2
      · skip
        cases hd
        exact h2
      · cases hd
    · cases h

theorem ref05_Checks30 : LoopSound Tryd.prog ref05_Checkc 0 (loopOf Tryd.f11 30) :=
  loopSound_by mixed ref05_Checkc_ok (AllP.of (l' := []) (by kernel_rfl) trivial) (q := 30) (kin := [1, 9]) (kout := [2]) (by kernel_rfl) (by kernel_rfl) fun vs objs K r h => by
    replace h : ref05_Checkp30 vs objs K = some r := h
    unfold ref05_Checkp30 at h
    split at h
    · skip
      obtain ⟨t, h1, h2⟩ := ob_ok h
      rw [← ref05_Checkl30_eq] at h1
      refine ⟨_, ref05_Checkl30d, t, many, h1, fun e vs' objs' hd => ?_⟩
      unfold ref05_Checkl30d at hd
      split at hd
      · skip
        cases hd
        exact h2
      · skip
        cases hd
        exact h2
      · cases hd
    · cases h

theorem ref05_Checks9 : LoopSound Tryd.prog ref05_Checkc 0 (loopOf Tryd.f11 9) :=
  loopSound_by mixed ref05_Checkc_ok (AllP.of (l' := [loopOf Tryd.f11 12]) (by kernel_rfl) ⟨ref05_Checks12, trivial⟩) (q := 9) (kin := [1, 4]) (kout := [1, 2]) (by kernel_rfl) (by kernel_rfl) fun vs objs K r h => by
    replace h : ref05_Checkp9 vs objs K = some r := h
    unfold ref05_Checkp9 at h
    split at h
    · skip
      obtain ⟨t, h1, h2⟩ := ob_ok h
      rw [← ref05_Checkl9_eq] at h1
      refine ⟨_, ref05_Checkl9d, t, many, h1, fun e vs' objs' hd => ?_⟩
      unfold ref05_Checkl9d at hd
      split at hd
      · skip
        cases hd
        exact h2
      · skip
        cases hd
        exact h2
      · cases hd
    · cases h

noncomputable def ref05_Checkd : V → List Obj → Option (Int) := fun v objs => match v, objs with
  | V.s (S.i IntKind.i64 y0), [] => some (y0)
  | _, _ => none

theorem ref05_Check_eq (x0 : List Int) (x1 : List Int) (x2 : Int) : fnE ref05_Checkc Tryd.f11 ([V.agg [Seg.arr IntKind.i8 81 x0, Seg.arr IntKind.i8 16 x1, Seg.one [S.i IntKind.i8 x2]]]) ([]) ref05_Checkd = ref05_Check x0 x1 x2 := by kernel_rfl

noncomputable def ref05_Checka {R : Type} (o : Orc) (vs : List V) (objs : List Obj) (K : Bool → V → List Obj → Option R) : Option R := match vs, objs with
  | [V.agg [Seg.arr IntKind.i8 81 x0, Seg.arr IntKind.i8 16 x1, Seg.one [S.i IntKind.i8 x2]]], [] => ob (ref05_Check x0 x1 x2) fun y0 => K false (V.s (S.i IntKind.i64 y0)) ([])
  | _, _ => o 11 vs objs K

noncomputable def ref05_Checko (o : Orc) : Orc := hook 11 (ref05_Checka o) o

theorem ref05_Checko_ok (o : Orc) (ho : OSound Tryd.prog o) : OSound Tryd.prog (ref05_Checko o) := hook_ok ho fun vs objs K r h => by
  unfold ref05_Checka at h
  split at h
  · skip
    obtain ⟨t, h1, h2⟩ := ob_ok h
    refine anyOK_of mixed ref05_Checkc_ok (fn := Tryd.f11) (b := (Tryd.f11).body.getD .skip) (by kernel_rfl) (by kernel_rfl) (by kernel_rfl) ((ref05_Check_eq _ _ _).trans h1) (m := 0) rfl (AllP.of (l' := [loopOf Tryd.f11 4, loopOf Tryd.f11 9, loopOf Tryd.f11 20, loopOf Tryd.f11 25, loopOf Tryd.f11 30]) (by kernel_rfl) ⟨ref05_Checks4, ref05_Checks9, ref05_Checks20, ref05_Checks25, ref05_Checks30, trivial⟩) fun v objs' hd => ?_
    unfold ref05_Checkd at hd
    split at hd
    · skip
      cases hd
      exact h2
    · cases hd
  · exact ho _ _ _ _ _ h

noncomputable def law05_BoardChecksc : Ctx := mkC 10 ((ref05_Checko (board_Checko (law05_beginso oNil)))) [] lpNil

theorem law05_BoardChecksc_ok : CtxOK Tryd.prog law05_BoardChecksc := mkC_ok ((ref05_Checko_ok _ (board_Checko_ok _ (law05_beginso_ok _ oNil_ok))))

noncomputable def law05_BoardChecksd : V → List Obj → Option (Bool) := fun v objs => match v, objs with
  | V.s (S.b y0), [] => some (y0)
  | _, _ => none

theorem law05_BoardChecks_eq (x0 : List Int) (x1 : List Int) (x2 : Int) : fnE law05_BoardChecksc Tryd.f3 ([V.agg [Seg.arr IntKind.i8 81 x0, Seg.arr IntKind.i8 16 x1, Seg.one [S.i IntKind.i8 x2]]]) ([]) law05_BoardChecksd = law05_BoardChecks x0 x1 x2 := by kernel_rfl

noncomputable def law05_BoardChecksa {R : Type} (o : Orc) (vs : List V) (objs : List Obj) (K : Bool → V → List Obj → Option R) : Option R := match vs, objs with
  | [V.agg [Seg.arr IntKind.i8 81 x0, Seg.arr IntKind.i8 16 x1, Seg.one [S.i IntKind.i8 x2]]], [] => ob (law05_BoardChecks x0 x1 x2) fun y0 => K false (V.s (S.b y0)) ([])
  | _, _ => o 3 vs objs K

noncomputable def law05_BoardCheckso (o : Orc) : Orc := hook 3 (law05_BoardChecksa o) o

theorem law05_BoardChecks_ok {vs : List V} {objs : List Obj} (x0 : List Int) (x1 : List Int) (x2 : Int) {R : Type} {K : Bool → V → List Obj → Option R} {r : R} (hv : vs = [V.agg [Seg.arr IntKind.i8 81 x0, Seg.arr IntKind.i8 16 x1, Seg.one [S.i IntKind.i8 x2]]]) (ho : objs = []) (h : ob (law05_BoardChecks x0 x1 x2) (fun y0 => K false (V.s (S.b y0)) ([])) = some r) :
    ∃ p v objs', K p v objs' = some r ∧ AnyOK Tryd.prog 3 vs objs p v objs' := by
  subst hv
  subst ho
  obtain ⟨t, h1, h2⟩ := ob_ok h
  refine anyOK_of mixed law05_BoardChecksc_ok (fn := Tryd.f3) (b := (Tryd.f3).body.getD .skip) (by kernel_rfl) (by kernel_rfl) (by kernel_rfl) ((law05_BoardChecks_eq _ _ _).trans h1) (m := 0) rfl (AllP.of (l' := []) (by kernel_rfl) trivial) fun v objs' hd => ?_
  unfold law05_BoardChecksd at hd
  split at hd
  · skip
    cases hd
    exact h2
  · cases hd

theorem law05_BoardCheckso_ok (o : Orc) (ho : OSound Tryd.prog o) : OSound Tryd.prog (law05_BoardCheckso o) := hook_ok ho fun vs objs K r h => by
  unfold law05_BoardChecksa at h
  split at h
  · skip
    obtain ⟨t, h1, h2⟩ := ob_ok h
    refine anyOK_of mixed law05_BoardChecksc_ok (fn := Tryd.f3) (b := (Tryd.f3).body.getD .skip) (by kernel_rfl) (by kernel_rfl) (by kernel_rfl) ((law05_BoardChecks_eq _ _ _).trans h1) (m := 0) rfl (AllP.of (l' := []) (by kernel_rfl) trivial) fun v objs' hd => ?_
    unfold law05_BoardChecksd at hd
    split at hd
    · skip
      cases hd
      exact h2
    · cases hd
  · exact ho _ _ _ _ _ h

noncomputable def board_Clonec : Ctx := mkC 7 (oNil) [] lpNil

theorem board_Clonec_ok : CtxOK Tryd.prog board_Clonec := mkC_ok (oNil_ok)

noncomputable def board_Cloned : V → List Obj → Option (List Int × List Int × Int × List (List Int) × List (List Int)) := fun v objs => match v, objs with
  | V.s (S.ptr 1 0 none 0), [Obj.cells 44 [Seg.arr IntKind.i8 81 y0, Seg.arr IntKind.i8 16 y1, Seg.one [S.i IntKind.i8 y2], Seg.rows [.i .u64, .i .u64] 32 y3, Seg.rows [.i .u64, .i .u64] 2 y4]] => some (y0, y1, y2, y3, y4)
  | _, _ => none

theorem board_Clone_eq (x0 : List Int) (x1 : List Int) (x2 : Int) (x3 : List (List Int)) (x4 : List (List Int)) : fnE board_Clonec Tryd.f28 ([V.s (S.ptr 0 0 none 0)]) ([Obj.rcells 44 [Seg.arr IntKind.i8 81 x0, Seg.arr IntKind.i8 16 x1, Seg.one [S.i IntKind.i8 x2], Seg.rows [.i .u64, .i .u64] 32 x3, Seg.rows [.i .u64, .i .u64] 2 x4]]) (pureD 1 board_Cloned) = board_Clone x0 x1 x2 x3 x4 := by kernel_rfl

noncomputable def board_Clonea {R : Type} (o : Orc) (vs : List V) (objs : List Obj) (K : Bool → V → List Obj → Option R) : Option R := match vs, List.map Obj.toRO objs with
  | [V.s (S.ptr 0 0 none 0)], [Obj.rcells 44 [Seg.arr IntKind.i8 81 x0, Seg.arr IntKind.i8 16 x1, Seg.one [S.i IntKind.i8 x2], Seg.rows [.i .u64, .i .u64] 32 x3, Seg.rows [.i .u64, .i .u64] 2 x4]] => ob (board_Clone x0 x1 x2 x3 x4) fun z => K true (V.s (S.ptr 1 0 none 0)) ([Obj.cells 44 [Seg.arr IntKind.i8 81 (z.1), Seg.arr IntKind.i8 16 (z.2.1), Seg.one [S.i IntKind.i8 (z.2.2.1)], Seg.rows [.i .u64, .i .u64] 32 (z.2.2.2.1), Seg.rows [.i .u64, .i .u64] 2 (z.2.2.2.2)]])
  | _, _ => o 28 vs objs K

noncomputable def board_Cloneo (o : Orc) : Orc := hook 28 (board_Clonea o) o

theorem board_Cloneo_ok (o : Orc) (ho : OSound Tryd.prog o) : OSound Tryd.prog (board_Cloneo o) := hook_ok ho fun vs objs K r h => by
  unfold board_Clonea at h
  split at h
  · skip
    have hq : List.map Obj.toRO objs = _ := (by rename_i hq; first | exact hq | assumption)
    obtain ⟨t, h1, h2⟩ := ob_ok h
    refine purOK_by mixed board_Clonec_ok (m := 1) (fn := Tryd.f28) (b := (Tryd.f28).body.getD .skip) (by kernel_rfl) (by kernel_rfl) (by kernel_rfl) hq (by kernel_rfl) (by kernel_rfl) (AllP.of (l' := []) (by kernel_rfl) trivial) ((board_Clone_eq _ _ _ _ _).trans h1) fun v objs' hd => ?_
    unfold board_Cloned at hd
    split at hd
    · skip
      cases hd
      exact h2
    · cases hd
  · exact ho _ _ _ _ _ h

noncomputable def board_Piecesc : Ctx := mkC 18 (oNil) [] lpNil

theorem board_Piecesc_ok : CtxOK Tryd.prog board_Piecesc := mkC_ok (oNil_ok)

noncomputable def board_Piecesd : V → List Obj → Option (Int × Int) := fun v objs => match v, objs with
  | V.agg [Seg.one [S.i IntKind.u64 y0, S.i IntKind.u64 y1]], [] => some (y0, y1)
  | _, _ => none

theorem board_Pieces_eq (x0 : Int) (x1 : List Int) (x2 : List Int) (x3 : Int) (x4 : List (List Int)) (x5 : List (List Int)) : fnE board_Piecesc Tryd.f18 ([V.s (S.ptr 0 0 none 0), V.s (S.i IntKind.i64 x0)]) ([Obj.rcells 44 [Seg.arr IntKind.i8 81 x1, Seg.arr IntKind.i8 16 x2, Seg.one [S.i IntKind.i8 x3], Seg.rows [.i .u64, .i .u64] 32 x4, Seg.rows [.i .u64, .i .u64] 2 x5]]) (pureD 1 board_Piecesd) = board_Pieces x0 x1 x2 x3 x4 x5 := by kernel_rfl

noncomputable def board_Piecesa {R : Type} (o : Orc) (vs : List V) (objs : List Obj) (K : Bool → V → List Obj → Option R) : Option R := match vs, List.map Obj.toRO objs with
  | [V.s (S.ptr 0 0 none 0), V.s (S.i IntKind.i64 x0)], [Obj.rcells 44 [Seg.arr IntKind.i8 81 x1, Seg.arr IntKind.i8 16 x2, Seg.one [S.i IntKind.i8 x3], Seg.rows [.i .u64, .i .u64] 32 x4, Seg.rows [.i .u64, .i .u64] 2 x5]] => ob (board_Pieces x0 x1 x2 x3 x4 x5) fun z => K true (V.agg [Seg.one [S.i IntKind.u64 (z.1), S.i IntKind.u64 (z.2)]]) ([])
  | _, _ => o 18 vs objs K

noncomputable def board_Pieceso (o : Orc) : Orc := hook 18 (board_Piecesa o) o

theorem board_Pieceso_ok (o : Orc) (ho : OSound Tryd.prog o) : OSound Tryd.prog (board_Pieceso o) := hook_ok ho fun vs objs K r h => by
  unfold board_Piecesa at h
  split at h
  · skip
    have hq : List.map Obj.toRO objs = _ := (by rename_i hq; first | exact hq | assumption)
    obtain ⟨t, h1, h2⟩ := ob_ok h
    refine purOK_by mixed board_Piecesc_ok (m := 1) (fn := Tryd.f18) (b := (Tryd.f18).body.getD .skip) (by kernel_rfl) (by kernel_rfl) (by kernel_rfl) hq (by kernel_rfl) (by kernel_rfl) (AllP.of (l' := []) (by kernel_rfl) trivial) ((board_Pieces_eq _ _ _ _ _ _).trans h1) fun v objs' hd => ?_
    unfold board_Piecesd at hd
    split at hd
    · skip
      cases hd
      exact h2
    · cases hd
  · exact ho _ _ _ _ _ h

noncomputable def law05_BoardClonesc : Ctx := mkC 87 ((board_Pieceso (board_Takeno (board_Puto (board_Cloneo (board_Newo (law05_beginso oNil))))))) [] lpNil

theorem law05_BoardClonesc_ok : CtxOK Tryd.prog law05_BoardClonesc := mkC_ok ((board_Pieceso_ok _ (board_Takeno_ok _ (board_Puto_ok _ (board_Cloneo_ok _ (board_Newo_ok _ (law05_beginso_ok _ oNil_ok)))))))

noncomputable def law05_BoardClonesd : V → List Obj → Option (Bool) := fun v objs => match v, objs with
  | V.s (S.b y0), [] => some (y0)
  | _, _ => none

theorem law05_BoardClones_eq (x0 : List Int) (x1 : List Int) (x2 : Int) (x3 : Int) (x4 : Int) : fnE law05_BoardClonesc Tryd.f7 ([V.agg [Seg.arr IntKind.i8 81 x0, Seg.arr IntKind.i8 16 x1, Seg.one [S.i IntKind.i8 x2]], V.s (S.i IntKind.i64 x3), V.s (S.i IntKind.i8 x4)]) ([]) law05_BoardClonesd = law05_BoardClones x0 x1 x2 x3 x4 := by kernel_rfl

noncomputable def law05_BoardClonesa {R : Type} (o : Orc) (vs : List V) (objs : List Obj) (K : Bool → V → List Obj → Option R) : Option R := match vs, objs with
  | [V.agg [Seg.arr IntKind.i8 81 x0, Seg.arr IntKind.i8 16 x1, Seg.one [S.i IntKind.i8 x2]], V.s (S.i IntKind.i64 x3), V.s (S.i IntKind.i8 x4)], [] => ob (law05_BoardClones x0 x1 x2 x3 x4) fun y0 => K false (V.s (S.b y0)) ([])
  | _, _ => o 7 vs objs K

noncomputable def law05_BoardCloneso (o : Orc) : Orc := hook 7 (law05_BoardClonesa o) o

theorem law05_BoardClones_ok {vs : List V} {objs : List Obj} (x0 : List Int) (x1 : List Int) (x2 : Int) (x3 : Int) (x4 : Int) {R : Type} {K : Bool → V → List Obj → Option R} {r : R} (hv : vs = [V.agg [Seg.arr IntKind.i8 81 x0, Seg.arr IntKind.i8 16 x1, Seg.one [S.i IntKind.i8 x2]], V.s (S.i IntKind.i64 x3), V.s (S.i IntKind.i8 x4)]) (ho : objs = []) (h : ob (law05_BoardClones x0 x1 x2 x3 x4) (fun y0 => K false (V.s (S.b y0)) ([])) = some r) :
    ∃ p v objs', K p v objs' = some r ∧ AnyOK Tryd.prog 7 vs objs p v objs' := by
  subst hv
  subst ho
  obtain ⟨t, h1, h2⟩ := ob_ok h
  refine anyOK_of mixed law05_BoardClonesc_ok (fn := Tryd.f7) (b := (Tryd.f7).body.getD .skip) (by kernel_rfl) (by kernel_rfl) (by kernel_rfl) ((law05_BoardClones_eq _ _ _ _ _).trans h1) (m := 0) rfl (AllP.of (l' := []) (by kernel_rfl) trivial) fun v objs' hd => ?_
  unfold law05_BoardClonesd at hd
  split at hd
  · skip
    cases hd
    exact h2
  · cases hd

theorem law05_BoardCloneso_ok (o : Orc) (ho : OSound Tryd.prog o) : OSound Tryd.prog (law05_BoardCloneso o) := hook_ok ho fun vs objs K r h => by
  unfold law05_BoardClonesa at h
  split at h
  · skip
    obtain ⟨t, h1, h2⟩ := ob_ok h
    refine anyOK_of mixed law05_BoardClonesc_ok (fn := Tryd.f7) (b := (Tryd.f7).body.getD .skip) (by kernel_rfl) (by kernel_rfl) (by kernel_rfl) ((law05_BoardClones_eq _ _ _ _ _).trans h1) (m := 0) rfl (AllP.of (l' := []) (by kernel_rfl) trivial) fun v objs' hd => ?_
    unfold law05_BoardClonesd at hd
    split at hd
    · skip
      cases hd
      exact h2
    · cases hd
  · exact ho _ _ _ _ _ h

noncomputable def board_Handc : Ctx := mkC 31 (oNil) [] lpNil

theorem board_Handc_ok : CtxOK Tryd.prog board_Handc := mkC_ok (oNil_ok)

noncomputable def board_Handd : V → List Obj → Option (Int) := fun v objs => match v, objs with
  | V.s (S.i IntKind.i64 y0), [] => some (y0)
  | _, _ => none

theorem board_Hand_eq (x0 : Int) (x1 : Int) (x2 : List Int) (x3 : List Int) (x4 : Int) (x5 : List (List Int)) (x6 : List (List Int)) : fnE board_Handc Tryd.f29 ([V.s (S.ptr 0 0 none 0), V.s (S.i IntKind.i64 x0), V.s (S.i IntKind.i64 x1)]) ([Obj.rcells 44 [Seg.arr IntKind.i8 81 x2, Seg.arr IntKind.i8 16 x3, Seg.one [S.i IntKind.i8 x4], Seg.rows [.i .u64, .i .u64] 32 x5, Seg.rows [.i .u64, .i .u64] 2 x6]]) (pureD 1 board_Handd) = board_Hand x0 x1 x2 x3 x4 x5 x6 := by kernel_rfl

noncomputable def board_Handa {R : Type} (o : Orc) (vs : List V) (objs : List Obj) (K : Bool → V → List Obj → Option R) : Option R := match vs, List.map Obj.toRO objs with
  | [V.s (S.ptr 0 0 none 0), V.s (S.i IntKind.i64 x0), V.s (S.i IntKind.i64 x1)], [Obj.rcells 44 [Seg.arr IntKind.i8 81 x2, Seg.arr IntKind.i8 16 x3, Seg.one [S.i IntKind.i8 x4], Seg.rows [.i .u64, .i .u64] 32 x5, Seg.rows [.i .u64, .i .u64] 2 x6]] => ob (board_Hand x0 x1 x2 x3 x4 x5 x6) fun y0 => K true (V.s (S.i IntKind.i64 y0)) ([])
  | _, _ => o 29 vs objs K

noncomputable def board_Hando (o : Orc) : Orc := hook 29 (board_Handa o) o

theorem board_Hando_ok (o : Orc) (ho : OSound Tryd.prog o) : OSound Tryd.prog (board_Hando o) := hook_ok ho fun vs objs K r h => by
  unfold board_Handa at h
  split at h
  · skip
    have hq : List.map Obj.toRO objs = _ := (by rename_i hq; first | exact hq | assumption)
    obtain ⟨t, h1, h2⟩ := ob_ok h
    refine purOK_by mixed board_Handc_ok (m := 1) (fn := Tryd.f29) (b := (Tryd.f29).body.getD .skip) (by kernel_rfl) (by kernel_rfl) (by kernel_rfl) hq (by kernel_rfl) (by kernel_rfl) (AllP.of (l' := []) (by kernel_rfl) trivial) ((board_Hand_eq _ _ _ _ _ _ _).trans h1) fun v objs' hd => ?_
    unfold board_Handd at hd
    split at hd
    · skip
      cases hd
      exact h2
    · cases hd
  · exact ho _ _ _ _ _ h

noncomputable def set_Emptyc : Ctx := mkC 6 (oNil) [] lpNil

theorem set_Emptyc_ok : CtxOK Tryd.prog set_Emptyc := mkC_ok (oNil_ok)

noncomputable def set_Emptyd : V → List Obj → Option (Bool) := fun v objs => match v, objs with
  | V.s (S.b y0), [] => some (y0)
  | _, _ => none

theorem set_Empty_eq (x0 : Int) (x1 : Int) : fnE set_Emptyc Tryd.f21 ([V.agg [Seg.one [S.i IntKind.u64 x0, S.i IntKind.u64 x1]]]) ([]) set_Emptyd = set_Empty x0 x1 := by kernel_rfl

noncomputable def set_Emptya {R : Type} (o : Orc) (vs : List V) (objs : List Obj) (K : Bool → V → List Obj → Option R) : Option R := match vs, objs with
  | [V.agg [Seg.one [S.i IntKind.u64 x0, S.i IntKind.u64 x1]]], [] => ob (set_Empty x0 x1) fun y0 => K false (V.s (S.b y0)) ([])
  | _, _ => o 21 vs objs K

noncomputable def set_Emptyo (o : Orc) : Orc := hook 21 (set_Emptya o) o

theorem set_Emptyo_ok (o : Orc) (ho : OSound Tryd.prog o) : OSound Tryd.prog (set_Emptyo o) := hook_ok ho fun vs objs K r h => by
  unfold set_Emptya at h
  split at h
  · skip
    obtain ⟨t, h1, h2⟩ := ob_ok h
    refine anyOK_of mixed set_Emptyc_ok (fn := Tryd.f21) (b := (Tryd.f21).body.getD .skip) (by kernel_rfl) (by kernel_rfl) (by kernel_rfl) ((set_Empty_eq _ _).trans h1) (m := 0) rfl (AllP.of (l' := []) (by kernel_rfl) trivial) fun v objs' hd => ?_
    unfold set_Emptyd at hd
    split at hd
    · skip
      cases hd
      exact h2
    · cases hd
  · exact ho _ _ _ _ _ h

noncomputable def law05_BoardAsksl7d : Ex → List V → List Obj → Option ((Int × Bool × List Int × List Int × Int × List (List Int) × List (List Int)) ⊕ (Int × List Int × List Int × Int × List (List Int) × List (List Int))) := fun e vs objs => match e, vs, objs with
  | Ex.ret, [V.s (S.i IntKind.i64 y0), V.s (S.b y1), V.s (S.ptr 0 0 none 0)], [Obj.cells 44 [Seg.arr IntKind.i8 81 y2, Seg.arr IntKind.i8 16 y3, Seg.one [S.i IntKind.i8 y4], Seg.rows [.i .u64, .i .u64] 32 y5, Seg.rows [.i .u64, .i .u64] 2 y6]] => some (Sum.inl (y0, y1, y2, y3, y4, y5, y6))
  | Ex.exit 0, [V.s (S.i IntKind.i64 y0), V.s S.bad, V.s (S.ptr 0 0 none 0)], [Obj.cells 44 [Seg.arr IntKind.i8 81 y1, Seg.arr IntKind.i8 16 y2, Seg.one [S.i IntKind.i8 y3], Seg.rows [.i .u64, .i .u64] 32 y4, Seg.rows [.i .u64, .i .u64] 2 y5]] => some (Sum.inr (y0, y1, y2, y3, y4, y5))
  | _, _, _ => none

noncomputable def law05_BoardAsksp7 {R : Type} (vs : List V) (objs : List Obj) (K : Ex → List V → List Obj → Option R) : Option R := match vs, objs with
  | [V.s (S.i IntKind.i64 x0), V.s (S.ptr 0 0 none 0), V.s (S.ptr 1 0 none 0), V.s (S.i IntKind.i64 x1)], [Obj.cells 28 [Seg.arr IntKind.i8 81 x2, Seg.arr IntKind.i8 16 x3, Seg.one [S.i IntKind.i8 x4]], Obj.cells 44 [Seg.arr IntKind.i8 81 x5, Seg.arr IntKind.i8 16 x6, Seg.one [S.i IntKind.i8 x7], Seg.rows [.i .u64, .i .u64] 32 x8, Seg.rows [.i .u64, .i .u64] 2 x9]] => ob (law05_BoardAsksl7 many x0 x1 x2 x3 x4 x5 x6 x7 x8 x9) fun t0 => sw t0 (fun z => K (Ex.ret) ([V.s (S.i IntKind.i64 (z.1)), V.s (S.b (z.2.1)), V.s (S.ptr 0 0 none 0)]) ([Obj.cells 44 [Seg.arr IntKind.i8 81 (z.2.2.1), Seg.arr IntKind.i8 16 (z.2.2.2.1), Seg.one [S.i IntKind.i8 (z.2.2.2.2.1)], Seg.rows [.i .u64, .i .u64] 32 (z.2.2.2.2.2.1), Seg.rows [.i .u64, .i .u64] 2 (z.2.2.2.2.2.2)]])) (fun z => K (Ex.exit 0) ([V.s (S.i IntKind.i64 (z.1)), V.s S.bad, V.s (S.ptr 0 0 none 0)]) ([Obj.cells 44 [Seg.arr IntKind.i8 81 (z.2.1), Seg.arr IntKind.i8 16 (z.2.2.1), Seg.one [S.i IntKind.i8 (z.2.2.2.1)], Seg.rows [.i .u64, .i .u64] 32 (z.2.2.2.2.1), Seg.rows [.i .u64, .i .u64] 2 (z.2.2.2.2.2)]]))
  | _, _ => none

noncomputable def law05_BoardAskslp : {R : Type} → Nat → List V → List Obj → (Ex → List V → List Obj → Option R) → Option R := fun q vs objs K => bif Nat.beq q 7 then law05_BoardAsksp7 vs objs K else none

noncomputable def law05_BoardAsksc : Ctx := mkC 94 ((board_Kingo (board_Pieceso (ref02_Rawo (set_Emptyo (board_Ofo (board_Hando (board_Ato (board_Newo (law05_beginso oNil)))))))))) [(7, [2, 3, 7, 8], [2, 6, 7])] law05_BoardAskslp

theorem law05_BoardAsksc_ok : CtxOK Tryd.prog law05_BoardAsksc := mkC_ok ((board_Kingo_ok _ (board_Pieceso_ok _ (ref02_Rawo_ok _ (set_Emptyo_ok _ (board_Ofo_ok _ (board_Hando_ok _ (board_Ato_ok _ (board_Newo_ok _ (law05_beginso_ok _ oNil_ok))))))))))

noncomputable def law05_BoardAsksl7r (f : Nat) (x0 : Int) (x1 : Int) (x2 : List Int) (x3 : List Int) (x4 : Int) (x5 : List Int) (x6 : List Int) (x7 : Int) (x8 : List (List Int)) (x9 : List (List Int)) : Option ((Int × Bool × List Int × List Int × Int × List (List Int) × List (List Int)) ⊕ (Int × List Int × List Int × Int × List (List Int) × List (List Int))) := lrun law05_BoardAsksc 0 [2, 3, 7, 8] [2, 6, 7] (loopOf Tryd.f8 7) f ([V.s (S.i IntKind.i64 x0), V.s (S.ptr 0 0 none 0), V.s (S.ptr 1 0 none 0), V.s (S.i IntKind.i64 x1)]) ([Obj.cells 28 [Seg.arr IntKind.i8 81 x2, Seg.arr IntKind.i8 16 x3, Seg.one [S.i IntKind.i8 x4]], Obj.cells 44 [Seg.arr IntKind.i8 81 x5, Seg.arr IntKind.i8 16 x6, Seg.one [S.i IntKind.i8 x7], Seg.rows [.i .u64, .i .u64] 32 x8, Seg.rows [.i .u64, .i .u64] 2 x9]]) law05_BoardAsksl7d

theorem law05_BoardAsksl7_step (f : Nat) (x0 : Int) (x1 : Int) (x2 : List Int) (x3 : List Int) (x4 : Int) (x5 : List Int) (x6 : List Int) (x7 : Int) (x8 : List (List Int)) (x9 : List (List Int)) : law05_BoardAsksl7r (f + 1) x0 x1 x2 x3 x4 x5 x6 x7 x8 x9 = law05_BoardAsksl7s (law05_BoardAsksl7r f) x0 x1 x2 x3 x4 x5 x6 x7 x8 x9 := by kernel_rfl

theorem law05_BoardAsksl7_eq : ∀ f, law05_BoardAsksl7r f = law05_BoardAsksl7 f
  | 0 => rfl
  | f + 1 => by funext x0 x1 x2 x3 x4 x5 x6 x7 x8 x9; rw [law05_BoardAsksl7_step, law05_BoardAsksl7_eq f]; rfl

theorem law05_BoardAskss7 : LoopSound Tryd.prog law05_BoardAsksc 0 (loopOf Tryd.f8 7) :=
  loopSound_by mixed law05_BoardAsksc_ok (AllP.of (l' := []) (by kernel_rfl) trivial) (q := 7) (kin := [2, 3, 7, 8]) (kout := [2, 6, 7]) (by kernel_rfl) (by kernel_rfl) fun vs objs K r h => by
    replace h : law05_BoardAsksp7 vs objs K = some r := h
    unfold law05_BoardAsksp7 at h
    split at h
    · skip
      obtain ⟨t, h1, h2⟩ := ob_ok h
      rw [← law05_BoardAsksl7_eq] at h1
      refine ⟨_, law05_BoardAsksl7d, t, many, h1, fun e vs' objs' hd => ?_⟩
      unfold law05_BoardAsksl7d at hd
      split at hd
      · skip
        cases hd
        exact h2
      · skip
        cases hd
        exact h2
      · cases hd
    · cases h

noncomputable def law05_BoardAsksd : V → List Obj → Option (Bool) := fun v objs => match v, objs with
  | V.s (S.b y0), [] => some (y0)
  | _, _ => none

theorem law05_BoardAsks_eq (x0 : List Int) (x1 : List Int) (x2 : Int) (x3 : Int) (x4 : Int) : fnE law05_BoardAsksc Tryd.f8 ([V.agg [Seg.arr IntKind.i8 81 x0, Seg.arr IntKind.i8 16 x1, Seg.one [S.i IntKind.i8 x2]], V.s (S.i IntKind.i64 x3), V.s (S.i IntKind.i64 x4)]) ([]) law05_BoardAsksd = law05_BoardAsks x0 x1 x2 x3 x4 := by kernel_rfl

noncomputable def law05_BoardAsksa {R : Type} (o : Orc) (vs : List V) (objs : List Obj) (K : Bool → V → List Obj → Option R) : Option R := match vs, objs with
  | [V.agg [Seg.arr IntKind.i8 81 x0, Seg.arr IntKind.i8 16 x1, Seg.one [S.i IntKind.i8 x2]], V.s (S.i IntKind.i64 x3), V.s (S.i IntKind.i64 x4)], [] => ob (law05_BoardAsks x0 x1 x2 x3 x4) fun y0 => K false (V.s (S.b y0)) ([])
  | _, _ => o 8 vs objs K

noncomputable def law05_BoardAskso (o : Orc) : Orc := hook 8 (law05_BoardAsksa o) o

theorem law05_BoardAsks_ok {vs : List V} {objs : List Obj} (x0 : List Int) (x1 : List Int) (x2 : Int) (x3 : Int) (x4 : Int) {R : Type} {K : Bool → V → List Obj → Option R} {r : R} (hv : vs = [V.agg [Seg.arr IntKind.i8 81 x0, Seg.arr IntKind.i8 16 x1, Seg.one [S.i IntKind.i8 x2]], V.s (S.i IntKind.i64 x3), V.s (S.i IntKind.i64 x4)]) (ho : objs = []) (h : ob (law05_BoardAsks x0 x1 x2 x3 x4) (fun y0 => K false (V.s (S.b y0)) ([])) = some r) :
    ∃ p v objs', K p v objs' = some r ∧ AnyOK Tryd.prog 8 vs objs p v objs' := by
  subst hv
  subst ho
  obtain ⟨t, h1, h2⟩ := ob_ok h
  refine anyOK_of mixed law05_BoardAsksc_ok (fn := Tryd.f8) (b := (Tryd.f8).body.getD .skip) (by kernel_rfl) (by kernel_rfl) (by kernel_rfl) ((law05_BoardAsks_eq _ _ _ _ _).trans h1) (m := 0) rfl (AllP.of (l' := [loopOf Tryd.f8 7]) (by kernel_rfl) ⟨law05_BoardAskss7, trivial⟩) fun v objs' hd => ?_
  unfold law05_BoardAsksd at hd
  split at hd
  · skip
    cases hd
    exact h2
  · cases hd

theorem law05_BoardAskso_ok (o : Orc) (ho : OSound Tryd.prog o) : OSound Tryd.prog (law05_BoardAskso o) := hook_ok ho fun vs objs K r h => by
  unfold law05_BoardAsksa at h
  split at h
  · skip
    obtain ⟨t, h1, h2⟩ := ob_ok h
    refine anyOK_of mixed law05_BoardAsksc_ok (fn := Tryd.f8) (b := (Tryd.f8).body.getD .skip) (by kernel_rfl) (by kernel_rfl) (by kernel_rfl) ((law05_BoardAsks_eq _ _ _ _ _).trans h1) (m := 0) rfl (AllP.of (l' := [loopOf Tryd.f8 7]) (by kernel_rfl) ⟨law05_BoardAskss7, trivial⟩) fun v objs' hd => ?_
    unfold law05_BoardAsksd at hd
    split at hd
    · skip
      cases hd
      exact h2
    · cases hd
  · exact ho _ _ _ _ _ h

noncomputable def set_Hasc : Ctx := mkC 11 ((set_Emptyo (set_Ando (set_bito oNil)))) [] lpNil

theorem set_Hasc_ok : CtxOK Tryd.prog set_Hasc := mkC_ok ((set_Emptyo_ok _ (set_Ando_ok _ (set_bito_ok _ oNil_ok))))

noncomputable def set_Hasd : V → List Obj → Option (Bool) := fun v objs => match v, objs with
  | V.s (S.b y0), [] => some (y0)
  | _, _ => none

theorem set_Has_eq (x0 : Int) (x1 : Int) (x2 : Int) : fnE set_Hasc Tryd.f25 ([V.agg [Seg.one [S.i IntKind.u64 x0, S.i IntKind.u64 x1]], V.s (S.i IntKind.i64 x2)]) ([]) set_Hasd = set_Has x0 x1 x2 := by kernel_rfl

noncomputable def set_Hasa {R : Type} (o : Orc) (vs : List V) (objs : List Obj) (K : Bool → V → List Obj → Option R) : Option R := match vs, objs with
  | [V.agg [Seg.one [S.i IntKind.u64 x0, S.i IntKind.u64 x1]], V.s (S.i IntKind.i64 x2)], [] => ob (set_Has x0 x1 x2) fun y0 => K false (V.s (S.b y0)) ([])
  | _, _ => o 25 vs objs K

noncomputable def set_Haso (o : Orc) : Orc := hook 25 (set_Hasa o) o

theorem set_Haso_ok (o : Orc) (ho : OSound Tryd.prog o) : OSound Tryd.prog (set_Haso o) := hook_ok ho fun vs objs K r h => by
  unfold set_Hasa at h
  split at h
  · skip
    obtain ⟨t, h1, h2⟩ := ob_ok h
    refine anyOK_of mixed set_Hasc_ok (fn := Tryd.f25) (b := (Tryd.f25).body.getD .skip) (by kernel_rfl) (by kernel_rfl) (by kernel_rfl) ((set_Has_eq _ _ _).trans h1) (m := 0) rfl (AllP.of (l' := []) (by kernel_rfl) trivial) fun v objs' hd => ?_
    unfold set_Hasd at hd
    split at hd
    · skip
      cases hd
      exact h2
    · cases hd
  · exact ho _ _ _ _ _ h

noncomputable def law05_BoardHoldsl8d : Ex → List V → List Obj → Option (Nat × Nat × Nat × List (List Int) × List Int × List Int × Int × List Int × List Int × Int × List (List Int) × List (List Int) × List Int) := fun e vs objs => match e, vs, objs with
  | Ex.exit 0, [V.s (S.sl 0 y0 y1 false), V.s (S.ptr 1 0 none 0), V.s (S.ptr 2 0 none 0), V.s (S.ptr 3 0 none 0)], [Obj.sli 55 true (Seg.rows [.i .i64, .i .i8] y2 y3), Obj.cells 28 [Seg.arr IntKind.i8 81 y4, Seg.arr IntKind.i8 16 y5, Seg.one [S.i IntKind.i8 y6]], Obj.cells 44 [Seg.arr IntKind.i8 81 y7, Seg.arr IntKind.i8 16 y8, Seg.one [S.i IntKind.i8 y9], Seg.rows [.i .u64, .i .u64] 32 y10, Seg.rows [.i .u64, .i .u64] 2 y11], Obj.cells 52 [Seg.arr IntKind.i64 81 y12]] => some (y0, y1, y2, y3, y4, y5, y6, y7, y8, y9, y10, y11, y12)
  | _, _, _ => none

noncomputable def law05_BoardHoldsl14d : Ex → List V → List Obj → Option (Nat × List (List Int) × List Int × List Int × Int × List Int × List Int × Int × List (List Int) × List (List Int) × List Int) := fun e vs objs => match e, vs, objs with
  | Ex.exit 2, [V.s (S.ptr 1 0 none 0), V.s (S.ptr 2 0 none 0), V.s (S.ptr 3 0 none 0)], [Obj.sli 55 true (Seg.rows [.i .i64, .i .i8] y0 y1), Obj.cells 28 [Seg.arr IntKind.i8 81 y2, Seg.arr IntKind.i8 16 y3, Seg.one [S.i IntKind.i8 y4]], Obj.cells 44 [Seg.arr IntKind.i8 81 y5, Seg.arr IntKind.i8 16 y6, Seg.one [S.i IntKind.i8 y7], Seg.rows [.i .u64, .i .u64] 32 y8, Seg.rows [.i .u64, .i .u64] 2 y9], Obj.cells 52 [Seg.arr IntKind.i64 81 y10]] => some (y0, y1, y2, y3, y4, y5, y6, y7, y8, y9, y10)
  | _, _, _ => none

noncomputable def law05_BoardHoldsl24d : Ex → List V → List Obj → Option ((Bool × Nat × List (List Int) × List Int × List Int × Int × List Int × List Int × Int × List (List Int) × List (List Int) × List Int × Int × Int) ⊕ (Nat × List (List Int) × List Int × List Int × Int × List Int × List Int × Int × List (List Int) × List (List Int) × List Int × Int × Int)) := fun e vs objs => match e, vs, objs with
  | Ex.ret, [V.s (S.ptr 1 0 none 0), V.s (S.b y0), V.s (S.ptr 2 0 none 0), V.s (S.ptr 3 0 none 0), V.s (S.ptr 4 0 none 0)], [Obj.sli 55 true (Seg.rows [.i .i64, .i .i8] y1 y2), Obj.cells 28 [Seg.arr IntKind.i8 81 y3, Seg.arr IntKind.i8 16 y4, Seg.one [S.i IntKind.i8 y5]], Obj.cells 44 [Seg.arr IntKind.i8 81 y6, Seg.arr IntKind.i8 16 y7, Seg.one [S.i IntKind.i8 y8], Seg.rows [.i .u64, .i .u64] 32 y9, Seg.rows [.i .u64, .i .u64] 2 y10], Obj.cells 52 [Seg.arr IntKind.i64 81 y11], Obj.cells 40 [Seg.one [S.i IntKind.u64 y12, S.i IntKind.u64 y13]]] => some (Sum.inl (y0, y1, y2, y3, y4, y5, y6, y7, y8, y9, y10, y11, y12, y13))
  | Ex.exit 4, [V.s (S.ptr 1 0 none 0), V.s S.bad, V.s (S.ptr 2 0 none 0), V.s (S.ptr 3 0 none 0), V.s (S.ptr 4 0 none 0)], [Obj.sli 55 true (Seg.rows [.i .i64, .i .i8] y0 y1), Obj.cells 28 [Seg.arr IntKind.i8 81 y2, Seg.arr IntKind.i8 16 y3, Seg.one [S.i IntKind.i8 y4]], Obj.cells 44 [Seg.arr IntKind.i8 81 y5, Seg.arr IntKind.i8 16 y6, Seg.one [S.i IntKind.i8 y7], Seg.rows [.i .u64, .i .u64] 32 y8, Seg.rows [.i .u64, .i .u64] 2 y9], Obj.cells 52 [Seg.arr IntKind.i64 81 y10], Obj.cells 40 [Seg.one [S.i IntKind.u64 y11, S.i IntKind.u64 y12]]] => some (Sum.inr (y0, y1, y2, y3, y4, y5, y6, y7, y8, y9, y10, y11, y12))
  | _, _, _ => none

noncomputable def law05_BoardHoldsl39d : Ex → List V → List Obj → Option ((Bool × Int × Int × Nat × List (List Int) × List Int × List Int × Int × List Int × List Int × Int × List (List Int) × List (List Int) × List Int × Int × Int × Int × Int × Int × Int) ⊕ (Int × Int × Nat × List (List Int) × List Int × List Int × Int × List Int × List Int × Int × List (List Int) × List (List Int) × List Int × Int × Int × Int × Int × Int × Int)) := fun e vs objs => match e, vs, objs with
  | Ex.ret, [V.s (S.ptr 1 0 none 0), V.s (S.b y0), V.s (S.ptr 2 0 none 0), V.s (S.ptr 3 0 none 0), V.s (S.ptr 4 0 none 0), V.s (S.i IntKind.i64 y1), V.s (S.ptr 5 0 none 0), V.s (S.i IntKind.i64 y2), V.s (S.ptr 6 0 none 0)], [Obj.sli 55 true (Seg.rows [.i .i64, .i .i8] y3 y4), Obj.cells 28 [Seg.arr IntKind.i8 81 y5, Seg.arr IntKind.i8 16 y6, Seg.one [S.i IntKind.i8 y7]], Obj.cells 44 [Seg.arr IntKind.i8 81 y8, Seg.arr IntKind.i8 16 y9, Seg.one [S.i IntKind.i8 y10], Seg.rows [.i .u64, .i .u64] 32 y11, Seg.rows [.i .u64, .i .u64] 2 y12], Obj.cells 52 [Seg.arr IntKind.i64 81 y13], Obj.cells 40 [Seg.one [S.i IntKind.u64 y14, S.i IntKind.u64 y15]], Obj.cells 40 [Seg.one [S.i IntKind.u64 y16, S.i IntKind.u64 y17]], Obj.cells 40 [Seg.one [S.i IntKind.u64 y18, S.i IntKind.u64 y19]]] => some (Sum.inl (y0, y1, y2, y3, y4, y5, y6, y7, y8, y9, y10, y11, y12, y13, y14, y15, y16, y17, y18, y19))
  | Ex.exit 10, [V.s (S.ptr 1 0 none 0), V.s S.bad, V.s (S.ptr 2 0 none 0), V.s (S.ptr 3 0 none 0), V.s (S.ptr 4 0 none 0), V.s (S.i IntKind.i64 y0), V.s (S.ptr 5 0 none 0), V.s (S.i IntKind.i64 y1), V.s (S.ptr 6 0 none 0)], [Obj.sli 55 true (Seg.rows [.i .i64, .i .i8] y2 y3), Obj.cells 28 [Seg.arr IntKind.i8 81 y4, Seg.arr IntKind.i8 16 y5, Seg.one [S.i IntKind.i8 y6]], Obj.cells 44 [Seg.arr IntKind.i8 81 y7, Seg.arr IntKind.i8 16 y8, Seg.one [S.i IntKind.i8 y9], Seg.rows [.i .u64, .i .u64] 32 y10, Seg.rows [.i .u64, .i .u64] 2 y11], Obj.cells 52 [Seg.arr IntKind.i64 81 y12], Obj.cells 40 [Seg.one [S.i IntKind.u64 y13, S.i IntKind.u64 y14]], Obj.cells 40 [Seg.one [S.i IntKind.u64 y15, S.i IntKind.u64 y16]], Obj.cells 40 [Seg.one [S.i IntKind.u64 y17, S.i IntKind.u64 y18]]] => some (Sum.inr (y0, y1, y2, y3, y4, y5, y6, y7, y8, y9, y10, y11, y12, y13, y14, y15, y16, y17, y18))
  | _, _, _ => none

noncomputable def law05_BoardHoldsl35d : Ex → List V → List Obj → Option ((Bool × Int × Nat × List (List Int) × List Int × List Int × Int × List Int × List Int × Int × List (List Int) × List (List Int) × List Int × Int × Int × Int × Int) ⊕ (Int × Nat × List (List Int) × List Int × List Int × Int × List Int × List Int × Int × List (List Int) × List (List Int) × List Int × Int × Int × Int × Int)) := fun e vs objs => match e, vs, objs with
  | Ex.ret, [V.s (S.ptr 1 0 none 0), V.s (S.b y0), V.s (S.ptr 2 0 none 0), V.s (S.ptr 3 0 none 0), V.s (S.ptr 4 0 none 0), V.s (S.i IntKind.i64 y1), V.s (S.ptr 5 0 none 0)], [Obj.sli 55 true (Seg.rows [.i .i64, .i .i8] y2 y3), Obj.cells 28 [Seg.arr IntKind.i8 81 y4, Seg.arr IntKind.i8 16 y5, Seg.one [S.i IntKind.i8 y6]], Obj.cells 44 [Seg.arr IntKind.i8 81 y7, Seg.arr IntKind.i8 16 y8, Seg.one [S.i IntKind.i8 y9], Seg.rows [.i .u64, .i .u64] 32 y10, Seg.rows [.i .u64, .i .u64] 2 y11], Obj.cells 52 [Seg.arr IntKind.i64 81 y12], Obj.cells 40 [Seg.one [S.i IntKind.u64 y13, S.i IntKind.u64 y14]], Obj.cells 40 [Seg.one [S.i IntKind.u64 y15, S.i IntKind.u64 y16]]] => some (Sum.inl (y0, y1, y2, y3, y4, y5, y6, y7, y8, y9, y10, y11, y12, y13, y14, y15, y16))
  | Ex.exit 8, [V.s (S.ptr 1 0 none 0), V.s S.bad, V.s (S.ptr 2 0 none 0), V.s (S.ptr 3 0 none 0), V.s (S.ptr 4 0 none 0), V.s (S.i IntKind.i64 y0), V.s (S.ptr 5 0 none 0)], [Obj.sli 55 true (Seg.rows [.i .i64, .i .i8] y1 y2), Obj.cells 28 [Seg.arr IntKind.i8 81 y3, Seg.arr IntKind.i8 16 y4, Seg.one [S.i IntKind.i8 y5]], Obj.cells 44 [Seg.arr IntKind.i8 81 y6, Seg.arr IntKind.i8 16 y7, Seg.one [S.i IntKind.i8 y8], Seg.rows [.i .u64, .i .u64] 32 y9, Seg.rows [.i .u64, .i .u64] 2 y10], Obj.cells 52 [Seg.arr IntKind.i64 81 y11], Obj.cells 40 [Seg.one [S.i IntKind.u64 y12, S.i IntKind.u64 y13]], Obj.cells 40 [Seg.one [S.i IntKind.u64 y14, S.i IntKind.u64 y15]]] => some (Sum.inr (y0, y1, y2, y3, y4, y5, y6, y7, y8, y9, y10, y11, y12, y13, y14, y15))
  | _, _, _ => none

noncomputable def law05_BoardHoldsl31d : Ex → List V → List Obj → Option ((Bool × Nat × List (List Int) × List Int × List Int × Int × List Int × List Int × Int × List (List Int) × List (List Int) × Int × Int) ⊕ (Nat × List (List Int) × List Int × List Int × Int × List Int × List Int × Int × List (List Int) × List (List Int) × Int × Int)) := fun e vs objs => match e, vs, objs with
  | Ex.ret, [V.s (S.ptr 1 0 none 0), V.s (S.b y0), V.s (S.ptr 2 0 none 0), V.s (S.ptr 3 0 none 0)], [Obj.sli 55 true (Seg.rows [.i .i64, .i .i8] y1 y2), Obj.cells 28 [Seg.arr IntKind.i8 81 y3, Seg.arr IntKind.i8 16 y4, Seg.one [S.i IntKind.i8 y5]], Obj.cells 44 [Seg.arr IntKind.i8 81 y6, Seg.arr IntKind.i8 16 y7, Seg.one [S.i IntKind.i8 y8], Seg.rows [.i .u64, .i .u64] 32 y9, Seg.rows [.i .u64, .i .u64] 2 y10], Obj.cells 40 [Seg.one [S.i IntKind.u64 y11, S.i IntKind.u64 y12]]] => some (Sum.inl (y0, y1, y2, y3, y4, y5, y6, y7, y8, y9, y10, y11, y12))
  | Ex.exit 6, [V.s (S.ptr 1 0 none 0), V.s S.bad, V.s (S.ptr 2 0 none 0), V.s (S.ptr 3 0 none 0)], [Obj.sli 55 true (Seg.rows [.i .i64, .i .i8] y0 y1), Obj.cells 28 [Seg.arr IntKind.i8 81 y2, Seg.arr IntKind.i8 16 y3, Seg.one [S.i IntKind.i8 y4]], Obj.cells 44 [Seg.arr IntKind.i8 81 y5, Seg.arr IntKind.i8 16 y6, Seg.one [S.i IntKind.i8 y7], Seg.rows [.i .u64, .i .u64] 32 y8, Seg.rows [.i .u64, .i .u64] 2 y9], Obj.cells 40 [Seg.one [S.i IntKind.u64 y10, S.i IntKind.u64 y11]]] => some (Sum.inr (y0, y1, y2, y3, y4, y5, y6, y7, y8, y9, y10, y11))
  | _, _, _ => none

noncomputable def law05_BoardHoldsp8 {R : Type} (vs : List V) (objs : List Obj) (K : Ex → List V → List Obj → Option R) : Option R := match vs, objs with
  | [V.s (S.sl 0 x0 x1 false), V.s (S.ptr 1 0 none 0), V.s (S.ptr 2 0 none 0), V.s (S.ptr 3 0 none 0), V.agg [Seg.arr IntKind.i8 81 x2], V.s (S.i IntKind.i64 x3)], [Obj.sli 55 true (Seg.rows [.i .i64, .i .i8] x4 x5), Obj.cells 28 [Seg.arr IntKind.i8 81 x6, Seg.arr IntKind.i8 16 x7, Seg.one [S.i IntKind.i8 x8]], Obj.cells 44 [Seg.arr IntKind.i8 81 x9, Seg.arr IntKind.i8 16 x10, Seg.one [S.i IntKind.i8 x11], Seg.rows [.i .u64, .i .u64] 32 x12, Seg.rows [.i .u64, .i .u64] 2 x13], Obj.cells 52 [Seg.arr IntKind.i64 81 x14]] => ob (law05_BoardHoldsl8 many x0 x1 x2 x3 x4 x5 x6 x7 x8 x9 x10 x11 x12 x13 x14) fun z => K (Ex.exit 0) ([V.s (S.sl 0 (z.1) (z.2.1) false), V.s (S.ptr 1 0 none 0), V.s (S.ptr 2 0 none 0), V.s (S.ptr 3 0 none 0)]) ([Obj.sli 55 true (Seg.rows [.i .i64, .i .i8] (z.2.2.1) (z.2.2.2.1)), Obj.cells 28 [Seg.arr IntKind.i8 81 (z.2.2.2.2.1), Seg.arr IntKind.i8 16 (z.2.2.2.2.2.1), Seg.one [S.i IntKind.i8 (z.2.2.2.2.2.2.1)]], Obj.cells 44 [Seg.arr IntKind.i8 81 (z.2.2.2.2.2.2.2.1), Seg.arr IntKind.i8 16 (z.2.2.2.2.2.2.2.2.1), Seg.one [S.i IntKind.i8 (z.2.2.2.2.2.2.2.2.2.1)], Seg.rows [.i .u64, .i .u64] 32 (z.2.2.2.2.2.2.2.2.2.2.1), Seg.rows [.i .u64, .i .u64] 2 (z.2.2.2.2.2.2.2.2.2.2.2.1)], Obj.cells 52 [Seg.arr IntKind.i64 81 (z.2.2.2.2.2.2.2.2.2.2.2.2)]])
  | _, _ => none

noncomputable def law05_BoardHoldsp14 {R : Type} (vs : List V) (objs : List Obj) (K : Ex → List V → List Obj → Option R) : Option R := match vs, objs with
  | [V.s (S.ptr 1 0 none 0), V.s (S.ptr 2 0 none 0), V.s (S.ptr 3 0 none 0), V.s (S.sl 0 x0 x1 false), V.s (S.i IntKind.i64 x2), V.s (S.i IntKind.i64 x3)], [Obj.sli 55 true (Seg.rows [.i .i64, .i .i8] x4 x5), Obj.cells 28 [Seg.arr IntKind.i8 81 x6, Seg.arr IntKind.i8 16 x7, Seg.one [S.i IntKind.i8 x8]], Obj.cells 44 [Seg.arr IntKind.i8 81 x9, Seg.arr IntKind.i8 16 x10, Seg.one [S.i IntKind.i8 x11], Seg.rows [.i .u64, .i .u64] 32 x12, Seg.rows [.i .u64, .i .u64] 2 x13], Obj.cells 52 [Seg.arr IntKind.i64 81 x14]] => ob (law05_BoardHoldsl14 many x0 x1 x2 x3 x4 x5 x6 x7 x8 x9 x10 x11 x12 x13 x14) fun z => K (Ex.exit 2) ([V.s (S.ptr 1 0 none 0), V.s (S.ptr 2 0 none 0), V.s (S.ptr 3 0 none 0)]) ([Obj.sli 55 true (Seg.rows [.i .i64, .i .i8] (z.1) (z.2.1)), Obj.cells 28 [Seg.arr IntKind.i8 81 (z.2.2.1), Seg.arr IntKind.i8 16 (z.2.2.2.1), Seg.one [S.i IntKind.i8 (z.2.2.2.2.1)]], Obj.cells 44 [Seg.arr IntKind.i8 81 (z.2.2.2.2.2.1), Seg.arr IntKind.i8 16 (z.2.2.2.2.2.2.1), Seg.one [S.i IntKind.i8 (z.2.2.2.2.2.2.2.1)], Seg.rows [.i .u64, .i .u64] 32 (z.2.2.2.2.2.2.2.2.1), Seg.rows [.i .u64, .i .u64] 2 (z.2.2.2.2.2.2.2.2.2.1)], Obj.cells 52 [Seg.arr IntKind.i64 81 (z.2.2.2.2.2.2.2.2.2.2)]])
  | _, _ => none

noncomputable def law05_BoardHoldsp24 {R : Type} (vs : List V) (objs : List Obj) (K : Ex → List V → List Obj → Option R) : Option R := match vs, objs with
  | [V.s (S.ptr 1 0 none 0), V.s (S.ptr 2 0 none 0), V.s (S.ptr 3 0 none 0), V.s (S.ptr 4 0 none 0), V.s (S.i IntKind.i64 x0)], [Obj.sli 55 true (Seg.rows [.i .i64, .i .i8] x1 x2), Obj.cells 28 [Seg.arr IntKind.i8 81 x3, Seg.arr IntKind.i8 16 x4, Seg.one [S.i IntKind.i8 x5]], Obj.cells 44 [Seg.arr IntKind.i8 81 x6, Seg.arr IntKind.i8 16 x7, Seg.one [S.i IntKind.i8 x8], Seg.rows [.i .u64, .i .u64] 32 x9, Seg.rows [.i .u64, .i .u64] 2 x10], Obj.cells 52 [Seg.arr IntKind.i64 81 x11], Obj.cells 40 [Seg.one [S.i IntKind.u64 x12, S.i IntKind.u64 x13]]] => ob (law05_BoardHoldsl24 many x0 x1 x2 x3 x4 x5 x6 x7 x8 x9 x10 x11 x12 x13) fun t0 => sw t0 (fun z => K (Ex.ret) ([V.s (S.ptr 1 0 none 0), V.s (S.b (z.1)), V.s (S.ptr 2 0 none 0), V.s (S.ptr 3 0 none 0), V.s (S.ptr 4 0 none 0)]) ([Obj.sli 55 true (Seg.rows [.i .i64, .i .i8] (z.2.1) (z.2.2.1)), Obj.cells 28 [Seg.arr IntKind.i8 81 (z.2.2.2.1), Seg.arr IntKind.i8 16 (z.2.2.2.2.1), Seg.one [S.i IntKind.i8 (z.2.2.2.2.2.1)]], Obj.cells 44 [Seg.arr IntKind.i8 81 (z.2.2.2.2.2.2.1), Seg.arr IntKind.i8 16 (z.2.2.2.2.2.2.2.1), Seg.one [S.i IntKind.i8 (z.2.2.2.2.2.2.2.2.1)], Seg.rows [.i .u64, .i .u64] 32 (z.2.2.2.2.2.2.2.2.2.1), Seg.rows [.i .u64, .i .u64] 2 (z.2.2.2.2.2.2.2.2.2.2.1)], Obj.cells 52 [Seg.arr IntKind.i64 81 (z.2.2.2.2.2.2.2.2.2.2.2.1)], Obj.cells 40 [Seg.one [S.i IntKind.u64 (z.2.2.2.2.2.2.2.2.2.2.2.2.1), S.i IntKind.u64 (z.2.2.2.2.2.2.2.2.2.2.2.2.2)]]])) (fun z => K (Ex.exit 4) ([V.s (S.ptr 1 0 none 0), V.s S.bad, V.s (S.ptr 2 0 none 0), V.s (S.ptr 3 0 none 0), V.s (S.ptr 4 0 none 0)]) ([Obj.sli 55 true (Seg.rows [.i .i64, .i .i8] (z.1) (z.2.1)), Obj.cells 28 [Seg.arr IntKind.i8 81 (z.2.2.1), Seg.arr IntKind.i8 16 (z.2.2.2.1), Seg.one [S.i IntKind.i8 (z.2.2.2.2.1)]], Obj.cells 44 [Seg.arr IntKind.i8 81 (z.2.2.2.2.2.1), Seg.arr IntKind.i8 16 (z.2.2.2.2.2.2.1), Seg.one [S.i IntKind.i8 (z.2.2.2.2.2.2.2.1)], Seg.rows [.i .u64, .i .u64] 32 (z.2.2.2.2.2.2.2.2.1), Seg.rows [.i .u64, .i .u64] 2 (z.2.2.2.2.2.2.2.2.2.1)], Obj.cells 52 [Seg.arr IntKind.i64 81 (z.2.2.2.2.2.2.2.2.2.2.1)], Obj.cells 40 [Seg.one [S.i IntKind.u64 (z.2.2.2.2.2.2.2.2.2.2.2.1), S.i IntKind.u64 (z.2.2.2.2.2.2.2.2.2.2.2.2)]]]))
  | _, _ => none

noncomputable def law05_BoardHoldsp39 {R : Type} (vs : List V) (objs : List Obj) (K : Ex → List V → List Obj → Option R) : Option R := match vs, objs with
  | [V.s (S.ptr 1 0 none 0), V.s (S.ptr 2 0 none 0), V.s (S.ptr 3 0 none 0), V.s (S.ptr 4 0 none 0), V.s (S.i IntKind.i64 x0), V.s (S.ptr 5 0 none 0), V.s (S.i IntKind.i64 x1), V.s (S.ptr 6 0 none 0), V.s (S.i IntKind.i64 x2)], [Obj.sli 55 true (Seg.rows [.i .i64, .i .i8] x3 x4), Obj.cells 28 [Seg.arr IntKind.i8 81 x5, Seg.arr IntKind.i8 16 x6, Seg.one [S.i IntKind.i8 x7]], Obj.cells 44 [Seg.arr IntKind.i8 81 x8, Seg.arr IntKind.i8 16 x9, Seg.one [S.i IntKind.i8 x10], Seg.rows [.i .u64, .i .u64] 32 x11, Seg.rows [.i .u64, .i .u64] 2 x12], Obj.cells 52 [Seg.arr IntKind.i64 81 x13], Obj.cells 40 [Seg.one [S.i IntKind.u64 x14, S.i IntKind.u64 x15]], Obj.cells 40 [Seg.one [S.i IntKind.u64 x16, S.i IntKind.u64 x17]], Obj.cells 40 [Seg.one [S.i IntKind.u64 x18, S.i IntKind.u64 x19]]] => ob (law05_BoardHoldsl39 many x0 x1 x2 x3 x4 x5 x6 x7 x8 x9 x10 x11 x12 x13 x14 x15 x16 x17 x18 x19) fun t0 => sw t0 (fun z => K (Ex.ret) ([V.s (S.ptr 1 0 none 0), V.s (S.b (z.1)), V.s (S.ptr 2 0 none 0), V.s (S.ptr 3 0 none 0), V.s (S.ptr 4 0 none 0), V.s (S.i IntKind.i64 (z.2.1)), V.s (S.ptr 5 0 none 0), V.s (S.i IntKind.i64 (z.2.2.1)), V.s (S.ptr 6 0 none 0)]) ([Obj.sli 55 true (Seg.rows [.i .i64, .i .i8] (z.2.2.2.1) (z.2.2.2.2.1)), Obj.cells 28 [Seg.arr IntKind.i8 81 (z.2.2.2.2.2.1), Seg.arr IntKind.i8 16 (z.2.2.2.2.2.2.1), Seg.one [S.i IntKind.i8 (z.2.2.2.2.2.2.2.1)]], Obj.cells 44 [Seg.arr IntKind.i8 81 (z.2.2.2.2.2.2.2.2.1), Seg.arr IntKind.i8 16 (z.2.2.2.2.2.2.2.2.2.1), Seg.one [S.i IntKind.i8 (z.2.2.2.2.2.2.2.2.2.2.1)], Seg.rows [.i .u64, .i .u64] 32 (z.2.2.2.2.2.2.2.2.2.2.2.1), Seg.rows [.i .u64, .i .u64] 2 (z.2.2.2.2.2.2.2.2.2.2.2.2.1)], Obj.cells 52 [Seg.arr IntKind.i64 81 (z.2.2.2.2.2.2.2.2.2.2.2.2.2.1)], Obj.cells 40 [Seg.one [S.i IntKind.u64 (z.2.2.2.2.2.2.2.2.2.2.2.2.2.2.1), S.i IntKind.u64 (z.2.2.2.2.2.2.2.2.2.2.2.2.2.2.2.1)]], Obj.cells 40 [Seg.one [S.i IntKind.u64 (z.2.2.2.2.2.2.2.2.2.2.2.2.2.2.2.2.1), S.i IntKind.u64 (z.2.2.2.2.2.2.2.2.2.2.2.2.2.2.2.2.2.1)]], Obj.cells 40 [Seg.one [S.i IntKind.u64 (z.2.2.2.2.2.2.2.2.2.2.2.2.2.2.2.2.2.2.1), S.i IntKind.u64 (z.2.2.2.2.2.2.2.2.2.2.2.2.2.2.2.2.2.2.2)]]])) (fun z => K (Ex.exit 10) ([V.s (S.ptr 1 0 none 0), V.s S.bad, V.s (S.ptr 2 0 none 0), V.s (S.ptr 3 0 none 0), V.s (S.ptr 4 0 none 0), V.s (S.i IntKind.i64 (z.1)), V.s (S.ptr 5 0 none 0), V.s (S.i IntKind.i64 (z.2.1)), V.s (S.ptr 6 0 none 0)]) ([Obj.sli 55 true (Seg.rows [.i .i64, .i .i8] (z.2.2.1) (z.2.2.2.1)), Obj.cells 28 [Seg.arr IntKind.i8 81 (z.2.2.2.2.1), Seg.arr IntKind.i8 16 (z.2.2.2.2.2.1), Seg.one [S.i IntKind.i8 (z.2.2.2.2.2.2.1)]], Obj.cells 44 [Seg.arr IntKind.i8 81 (z.2.2.2.2.2.2.2.1), Seg.arr IntKind.i8 16 (z.2.2.2.2.2.2.2.2.1), Seg.one [S.i IntKind.i8 (z.2.2.2.2.2.2.2.2.2.1)], Seg.rows [.i .u64, .i .u64] 32 (z.2.2.2.2.2.2.2.2.2.2.1), Seg.rows [.i .u64, .i .u64] 2 (z.2.2.2.2.2.2.2.2.2.2.2.1)], Obj.cells 52 [Seg.arr IntKind.i64 81 (z.2.2.2.2.2.2.2.2.2.2.2.2.1)], Obj.cells 40 [Seg.one [S.i IntKind.u64 (z.2.2.2.2.2.2.2.2.2.2.2.2.2.1), S.i IntKind.u64 (z.2.2.2.2.2.2.2.2.2.2.2.2.2.2.1)]], Obj.cells 40 [Seg.one [S.i IntKind.u64 (z.2.2.2.2.2.2.2.2.2.2.2.2.2.2.2.1), S.i IntKind.u64 (z.2.2.2.2.2.2.2.2.2.2.2.2.2.2.2.2.1)]], Obj.cells 40 [Seg.one [S.i IntKind.u64 (z.2.2.2.2.2.2.2.2.2.2.2.2.2.2.2.2.2.1), S.i IntKind.u64 (z.2.2.2.2.2.2.2.2.2.2.2.2.2.2.2.2.2.2)]]]))
  | _, _ => none

noncomputable def law05_BoardHoldsp35 {R : Type} (vs : List V) (objs : List Obj) (K : Ex → List V → List Obj → Option R) : Option R := match vs, objs with
  | [V.s (S.ptr 1 0 none 0), V.s (S.ptr 2 0 none 0), V.s (S.ptr 3 0 none 0), V.s (S.ptr 4 0 none 0), V.s (S.i IntKind.i64 x0), V.s (S.ptr 5 0 none 0), V.s (S.i IntKind.i64 x1)], [Obj.sli 55 true (Seg.rows [.i .i64, .i .i8] x2 x3), Obj.cells 28 [Seg.arr IntKind.i8 81 x4, Seg.arr IntKind.i8 16 x5, Seg.one [S.i IntKind.i8 x6]], Obj.cells 44 [Seg.arr IntKind.i8 81 x7, Seg.arr IntKind.i8 16 x8, Seg.one [S.i IntKind.i8 x9], Seg.rows [.i .u64, .i .u64] 32 x10, Seg.rows [.i .u64, .i .u64] 2 x11], Obj.cells 52 [Seg.arr IntKind.i64 81 x12], Obj.cells 40 [Seg.one [S.i IntKind.u64 x13, S.i IntKind.u64 x14]], Obj.cells 40 [Seg.one [S.i IntKind.u64 x15, S.i IntKind.u64 x16]]] => ob (law05_BoardHoldsl35 many x0 x1 x2 x3 x4 x5 x6 x7 x8 x9 x10 x11 x12 x13 x14 x15 x16) fun t0 => sw t0 (fun z => K (Ex.ret) ([V.s (S.ptr 1 0 none 0), V.s (S.b (z.1)), V.s (S.ptr 2 0 none 0), V.s (S.ptr 3 0 none 0), V.s (S.ptr 4 0 none 0), V.s (S.i IntKind.i64 (z.2.1)), V.s (S.ptr 5 0 none 0)]) ([Obj.sli 55 true (Seg.rows [.i .i64, .i .i8] (z.2.2.1) (z.2.2.2.1)), Obj.cells 28 [Seg.arr IntKind.i8 81 (z.2.2.2.2.1), Seg.arr IntKind.i8 16 (z.2.2.2.2.2.1), Seg.one [S.i IntKind.i8 (z.2.2.2.2.2.2.1)]], Obj.cells 44 [Seg.arr IntKind.i8 81 (z.2.2.2.2.2.2.2.1), Seg.arr IntKind.i8 16 (z.2.2.2.2.2.2.2.2.1), Seg.one [S.i IntKind.i8 (z.2.2.2.2.2.2.2.2.2.1)], Seg.rows [.i .u64, .i .u64] 32 (z.2.2.2.2.2.2.2.2.2.2.1), Seg.rows [.i .u64, .i .u64] 2 (z.2.2.2.2.2.2.2.2.2.2.2.1)], Obj.cells 52 [Seg.arr IntKind.i64 81 (z.2.2.2.2.2.2.2.2.2.2.2.2.1)], Obj.cells 40 [Seg.one [S.i IntKind.u64 (z.2.2.2.2.2.2.2.2.2.2.2.2.2.1), S.i IntKind.u64 (z.2.2.2.2.2.2.2.2.2.2.2.2.2.2.1)]], Obj.cells 40 [Seg.one [S.i IntKind.u64 (z.2.2.2.2.2.2.2.2.2.2.2.2.2.2.2.1), S.i IntKind.u64 (z.2.2.2.2.2.2.2.2.2.2.2.2.2.2.2.2)]]])) (fun z => K (Ex.exit 8) ([V.s (S.ptr 1 0 none 0), V.s S.bad, V.s (S.ptr 2 0 none 0), V.s (S.ptr 3 0 none 0), V.s (S.ptr 4 0 none 0), V.s (S.i IntKind.i64 (z.1)), V.s (S.ptr 5 0 none 0)]) ([Obj.sli 55 true (Seg.rows [.i .i64, .i .i8] (z.2.1) (z.2.2.1)), Obj.cells 28 [Seg.arr IntKind.i8 81 (z.2.2.2.1), Seg.arr IntKind.i8 16 (z.2.2.2.2.1), Seg.one [S.i IntKind.i8 (z.2.2.2.2.2.1)]], Obj.cells 44 [Seg.arr IntKind.i8 81 (z.2.2.2.2.2.2.1), Seg.arr IntKind.i8 16 (z.2.2.2.2.2.2.2.1), Seg.one [S.i IntKind.i8 (z.2.2.2.2.2.2.2.2.1)], Seg.rows [.i .u64, .i .u64] 32 (z.2.2.2.2.2.2.2.2.2.1), Seg.rows [.i .u64, .i .u64] 2 (z.2.2.2.2.2.2.2.2.2.2.1)], Obj.cells 52 [Seg.arr IntKind.i64 81 (z.2.2.2.2.2.2.2.2.2.2.2.1)], Obj.cells 40 [Seg.one [S.i IntKind.u64 (z.2.2.2.2.2.2.2.2.2.2.2.2.1), S.i IntKind.u64 (z.2.2.2.2.2.2.2.2.2.2.2.2.2.1)]], Obj.cells 40 [Seg.one [S.i IntKind.u64 (z.2.2.2.2.2.2.2.2.2.2.2.2.2.2.1), S.i IntKind.u64 (z.2.2.2.2.2.2.2.2.2.2.2.2.2.2.2)]]]))
  | _, _ => none

noncomputable def law05_BoardHoldsp31 {R : Type} (vs : List V) (objs : List Obj) (K : Ex → List V → List Obj → Option R) : Option R := match vs, objs with
  | [V.s (S.ptr 1 0 none 0), V.s (S.ptr 2 0 none 0), V.s (S.ptr 3 0 none 0), V.s (S.ptr 4 0 none 0), V.s (S.i IntKind.i64 x0)], [Obj.sli 55 true (Seg.rows [.i .i64, .i .i8] x1 x2), Obj.cells 28 [Seg.arr IntKind.i8 81 x3, Seg.arr IntKind.i8 16 x4, Seg.one [S.i IntKind.i8 x5]], Obj.cells 44 [Seg.arr IntKind.i8 81 x6, Seg.arr IntKind.i8 16 x7, Seg.one [S.i IntKind.i8 x8], Seg.rows [.i .u64, .i .u64] 32 x9, Seg.rows [.i .u64, .i .u64] 2 x10], Obj.cells 52 [Seg.arr IntKind.i64 81 x11], Obj.cells 40 [Seg.one [S.i IntKind.u64 x12, S.i IntKind.u64 x13]]] => ob (law05_BoardHoldsl31 many x0 x1 x2 x3 x4 x5 x6 x7 x8 x9 x10 x11 x12 x13) fun t0 => sw t0 (fun z => K (Ex.ret) ([V.s (S.ptr 1 0 none 0), V.s (S.b (z.1)), V.s (S.ptr 2 0 none 0), V.s (S.ptr 3 0 none 0)]) ([Obj.sli 55 true (Seg.rows [.i .i64, .i .i8] (z.2.1) (z.2.2.1)), Obj.cells 28 [Seg.arr IntKind.i8 81 (z.2.2.2.1), Seg.arr IntKind.i8 16 (z.2.2.2.2.1), Seg.one [S.i IntKind.i8 (z.2.2.2.2.2.1)]], Obj.cells 44 [Seg.arr IntKind.i8 81 (z.2.2.2.2.2.2.1), Seg.arr IntKind.i8 16 (z.2.2.2.2.2.2.2.1), Seg.one [S.i IntKind.i8 (z.2.2.2.2.2.2.2.2.1)], Seg.rows [.i .u64, .i .u64] 32 (z.2.2.2.2.2.2.2.2.2.1), Seg.rows [.i .u64, .i .u64] 2 (z.2.2.2.2.2.2.2.2.2.2.1)], Obj.cells 40 [Seg.one [S.i IntKind.u64 (z.2.2.2.2.2.2.2.2.2.2.2.1), S.i IntKind.u64 (z.2.2.2.2.2.2.2.2.2.2.2.2)]]])) (fun z => K (Ex.exit 6) ([V.s (S.ptr 1 0 none 0), V.s S.bad, V.s (S.ptr 2 0 none 0), V.s (S.ptr 3 0 none 0)]) ([Obj.sli 55 true (Seg.rows [.i .i64, .i .i8] (z.1) (z.2.1)), Obj.cells 28 [Seg.arr IntKind.i8 81 (z.2.2.1), Seg.arr IntKind.i8 16 (z.2.2.2.1), Seg.one [S.i IntKind.i8 (z.2.2.2.2.1)]], Obj.cells 44 [Seg.arr IntKind.i8 81 (z.2.2.2.2.2.1), Seg.arr IntKind.i8 16 (z.2.2.2.2.2.2.1), Seg.one [S.i IntKind.i8 (z.2.2.2.2.2.2.2.1)], Seg.rows [.i .u64, .i .u64] 32 (z.2.2.2.2.2.2.2.2.1), Seg.rows [.i .u64, .i .u64] 2 (z.2.2.2.2.2.2.2.2.2.1)], Obj.cells 40 [Seg.one [S.i IntKind.u64 (z.2.2.2.2.2.2.2.2.2.2.1), S.i IntKind.u64 (z.2.2.2.2.2.2.2.2.2.2.2)]]]))
  | _, _ => none

noncomputable def law05_BoardHoldslp : {R : Type} → Nat → List V → List Obj → (Ex → List V → List Obj → Option R) → Option R := fun q vs objs K => bif Nat.beq q 8 then law05_BoardHoldsp8 vs objs K else bif Nat.beq q 14 then law05_BoardHoldsp14 vs objs K else bif Nat.beq q 24 then law05_BoardHoldsp24 vs objs K else bif Nat.beq q 39 then law05_BoardHoldsp39 vs objs K else bif Nat.beq q 35 then law05_BoardHoldsp35 vs objs K else bif Nat.beq q 31 then law05_BoardHoldsp31 vs objs K else none

noncomputable def law05_BoardHoldsc : Ctx := mkC 186 ((board_Takeno (board_Pieceso (set_Oro (set_Firsto (board_Kingo (set_Haso (board_Ofo (set_Witho (board_Ato (board_Puto (ref02_Kindo (board_Newo (law05_beginso oNil)))))))))))))) [(8, [1, 2, 5, 6, 26, 27], [1, 2, 5, 6]), (14, [2, 5, 6, 40, 41, 42], [2, 5, 6]), (24, [2, 5, 6, 11, 12], [2, 4, 5, 6, 11]), (31, [2, 5, 6, 11, 13], [2, 4, 5, 11]), (35, [2, 5, 6, 11, 13, 14, 15], [2, 4, 5, 6, 11, 13, 14]), (39, [2, 5, 6, 11, 13, 14, 15, 16, 17], [2, 4, 5, 6, 11, 13, 14, 15, 16])] law05_BoardHoldslp

theorem law05_BoardHoldsc_ok : CtxOK Tryd.prog law05_BoardHoldsc := mkC_ok ((board_Takeno_ok _ (board_Pieceso_ok _ (set_Oro_ok _ (set_Firsto_ok _ (board_Kingo_ok _ (set_Haso_ok _ (board_Ofo_ok _ (set_Witho_ok _ (board_Ato_ok _ (board_Puto_ok _ (ref02_Kindo_ok _ (board_Newo_ok _ (law05_beginso_ok _ oNil_ok))))))))))))))

noncomputable def law05_BoardHoldsl8r (f : Nat) (x0 : Nat) (x1 : Nat) (x2 : List Int) (x3 : Int) (x4 : Nat) (x5 : List (List Int)) (x6 : List Int) (x7 : List Int) (x8 : Int) (x9 : List Int) (x10 : List Int) (x11 : Int) (x12 : List (List Int)) (x13 : List (List Int)) (x14 : List Int) : Option (Nat × Nat × Nat × List (List Int) × List Int × List Int × Int × List Int × List Int × Int × List (List Int) × List (List Int) × List Int) := lrun law05_BoardHoldsc 1 [1, 2, 5, 6, 26, 27] [1, 2, 5, 6] (loopOf Tryd.f6 8) f ([V.s (S.sl 0 x0 x1 false), V.s (S.ptr 1 0 none 0), V.s (S.ptr 2 0 none 0), V.s (S.ptr 3 0 none 0), V.agg [Seg.arr IntKind.i8 81 x2], V.s (S.i IntKind.i64 x3)]) ([Obj.sli 55 true (Seg.rows [.i .i64, .i .i8] x4 x5), Obj.cells 28 [Seg.arr IntKind.i8 81 x6, Seg.arr IntKind.i8 16 x7, Seg.one [S.i IntKind.i8 x8]], Obj.cells 44 [Seg.arr IntKind.i8 81 x9, Seg.arr IntKind.i8 16 x10, Seg.one [S.i IntKind.i8 x11], Seg.rows [.i .u64, .i .u64] 32 x12, Seg.rows [.i .u64, .i .u64] 2 x13], Obj.cells 52 [Seg.arr IntKind.i64 81 x14]]) law05_BoardHoldsl8d

theorem law05_BoardHoldsl8_step (f : Nat) (x0 : Nat) (x1 : Nat) (x2 : List Int) (x3 : Int) (x4 : Nat) (x5 : List (List Int)) (x6 : List Int) (x7 : List Int) (x8 : Int) (x9 : List Int) (x10 : List Int) (x11 : Int) (x12 : List (List Int)) (x13 : List (List Int)) (x14 : List Int) : law05_BoardHoldsl8r (f + 1) x0 x1 x2 x3 x4 x5 x6 x7 x8 x9 x10 x11 x12 x13 x14 = law05_BoardHoldsl8s (law05_BoardHoldsl8r f) x0 x1 x2 x3 x4 x5 x6 x7 x8 x9 x10 x11 x12 x13 x14 := by kernel_rfl

theorem law05_BoardHoldsl8_eq : ∀ f, law05_BoardHoldsl8r f = law05_BoardHoldsl8 f
  | 0 => rfl
  | f + 1 => by funext x0 x1 x2 x3 x4 x5 x6 x7 x8 x9 x10 x11 x12 x13 x14; rw [law05_BoardHoldsl8_step, law05_BoardHoldsl8_eq f]; rfl

noncomputable def law05_BoardHoldsl14r (f : Nat) (x0 : Nat) (x1 : Nat) (x2 : Int) (x3 : Int) (x4 : Nat) (x5 : List (List Int)) (x6 : List Int) (x7 : List Int) (x8 : Int) (x9 : List Int) (x10 : List Int) (x11 : Int) (x12 : List (List Int)) (x13 : List (List Int)) (x14 : List Int) : Option (Nat × List (List Int) × List Int × List Int × Int × List Int × List Int × Int × List (List Int) × List (List Int) × List Int) := lrun law05_BoardHoldsc 1 [2, 5, 6, 40, 41, 42] [2, 5, 6] (loopOf Tryd.f6 14) f ([V.s (S.ptr 1 0 none 0), V.s (S.ptr 2 0 none 0), V.s (S.ptr 3 0 none 0), V.s (S.sl 0 x0 x1 false), V.s (S.i IntKind.i64 x2), V.s (S.i IntKind.i64 x3)]) ([Obj.sli 55 true (Seg.rows [.i .i64, .i .i8] x4 x5), Obj.cells 28 [Seg.arr IntKind.i8 81 x6, Seg.arr IntKind.i8 16 x7, Seg.one [S.i IntKind.i8 x8]], Obj.cells 44 [Seg.arr IntKind.i8 81 x9, Seg.arr IntKind.i8 16 x10, Seg.one [S.i IntKind.i8 x11], Seg.rows [.i .u64, .i .u64] 32 x12, Seg.rows [.i .u64, .i .u64] 2 x13], Obj.cells 52 [Seg.arr IntKind.i64 81 x14]]) law05_BoardHoldsl14d

theorem law05_BoardHoldsl14_step (f : Nat) (x0 : Nat) (x1 : Nat) (x2 : Int) (x3 : Int) (x4 : Nat) (x5 : List (List Int)) (x6 : List Int) (x7 : List Int) (x8 : Int) (x9 : List Int) (x10 : List Int) (x11 : Int) (x12 : List (List Int)) (x13 : List (List Int)) (x14 : List Int) : law05_BoardHoldsl14r (f + 1) x0 x1 x2 x3 x4 x5 x6 x7 x8 x9 x10 x11 x12 x13 x14 = law05_BoardHoldsl14s (law05_BoardHoldsl14r f) x0 x1 x2 x3 x4 x5 x6 x7 x8 x9 x10 x11 x12 x13 x14 := by kernel_rfl

theorem law05_BoardHoldsl14_eq : ∀ f, law05_BoardHoldsl14r f = law05_BoardHoldsl14 f
  | 0 => rfl
  | f + 1 => by funext x0 x1 x2 x3 x4 x5 x6 x7 x8 x9 x10 x11 x12 x13 x14; rw [law05_BoardHoldsl14_step, law05_BoardHoldsl14_eq f]; rfl

noncomputable def law05_BoardHoldsl24r (f : Nat) (x0 : Int) (x1 : Nat) (x2 : List (List Int)) (x3 : List Int) (x4 : List Int) (x5 : Int) (x6 : List Int) (x7 : List Int) (x8 : Int) (x9 : List (List Int)) (x10 : List (List Int)) (x11 : List Int) (x12 : Int) (x13 : Int) : Option ((Bool × Nat × List (List Int) × List Int × List Int × Int × List Int × List Int × Int × List (List Int) × List (List Int) × List Int × Int × Int) ⊕ (Nat × List (List Int) × List Int × List Int × Int × List Int × List Int × Int × List (List Int) × List (List Int) × List Int × Int × Int)) := lrun law05_BoardHoldsc 1 [2, 5, 6, 11, 12] [2, 4, 5, 6, 11] (loopOf Tryd.f6 24) f ([V.s (S.ptr 1 0 none 0), V.s (S.ptr 2 0 none 0), V.s (S.ptr 3 0 none 0), V.s (S.ptr 4 0 none 0), V.s (S.i IntKind.i64 x0)]) ([Obj.sli 55 true (Seg.rows [.i .i64, .i .i8] x1 x2), Obj.cells 28 [Seg.arr IntKind.i8 81 x3, Seg.arr IntKind.i8 16 x4, Seg.one [S.i IntKind.i8 x5]], Obj.cells 44 [Seg.arr IntKind.i8 81 x6, Seg.arr IntKind.i8 16 x7, Seg.one [S.i IntKind.i8 x8], Seg.rows [.i .u64, .i .u64] 32 x9, Seg.rows [.i .u64, .i .u64] 2 x10], Obj.cells 52 [Seg.arr IntKind.i64 81 x11], Obj.cells 40 [Seg.one [S.i IntKind.u64 x12, S.i IntKind.u64 x13]]]) law05_BoardHoldsl24d

theorem law05_BoardHoldsl24_step (f : Nat) (x0 : Int) (x1 : Nat) (x2 : List (List Int)) (x3 : List Int) (x4 : List Int) (x5 : Int) (x6 : List Int) (x7 : List Int) (x8 : Int) (x9 : List (List Int)) (x10 : List (List Int)) (x11 : List Int) (x12 : Int) (x13 : Int) : law05_BoardHoldsl24r (f + 1) x0 x1 x2 x3 x4 x5 x6 x7 x8 x9 x10 x11 x12 x13 = law05_BoardHoldsl24s (law05_BoardHoldsl24r f) x0 x1 x2 x3 x4 x5 x6 x7 x8 x9 x10 x11 x12 x13 := by kernel_rfl

theorem law05_BoardHoldsl24_eq : ∀ f, law05_BoardHoldsl24r f = law05_BoardHoldsl24 f
  | 0 => rfl
  | f + 1 => by funext x0 x1 x2 x3 x4 x5 x6 x7 x8 x9 x10 x11 x12 x13; rw [law05_BoardHoldsl24_step, law05_BoardHoldsl24_eq f]; rfl

noncomputable def law05_BoardHoldsl39r (f : Nat) (x0 : Int) (x1 : Int) (x2 : Int) (x3 : Nat) (x4 : List (List Int)) (x5 : List Int) (x6 : List Int) (x7 : Int) (x8 : List Int) (x9 : List Int) (x10 : Int) (x11 : List (List Int)) (x12 : List (List Int)) (x13 : List Int) (x14 : Int) (x15 : Int) (x16 : Int) (x17 : Int) (x18 : Int) (x19 : Int) : Option ((Bool × Int × Int × Nat × List (List Int) × List Int × List Int × Int × List Int × List Int × Int × List (List Int) × List (List Int) × List Int × Int × Int × Int × Int × Int × Int) ⊕ (Int × Int × Nat × List (List Int) × List Int × List Int × Int × List Int × List Int × Int × List (List Int) × List (List Int) × List Int × Int × Int × Int × Int × Int × Int)) := lrun law05_BoardHoldsc 1 [2, 5, 6, 11, 13, 14, 15, 16, 17] [2, 4, 5, 6, 11, 13, 14, 15, 16] (loopOf Tryd.f6 39) f ([V.s (S.ptr 1 0 none 0), V.s (S.ptr 2 0 none 0), V.s (S.ptr 3 0 none 0), V.s (S.ptr 4 0 none 0), V.s (S.i IntKind.i64 x0), V.s (S.ptr 5 0 none 0), V.s (S.i IntKind.i64 x1), V.s (S.ptr 6 0 none 0), V.s (S.i IntKind.i64 x2)]) ([Obj.sli 55 true (Seg.rows [.i .i64, .i .i8] x3 x4), Obj.cells 28 [Seg.arr IntKind.i8 81 x5, Seg.arr IntKind.i8 16 x6, Seg.one [S.i IntKind.i8 x7]], Obj.cells 44 [Seg.arr IntKind.i8 81 x8, Seg.arr IntKind.i8 16 x9, Seg.one [S.i IntKind.i8 x10], Seg.rows [.i .u64, .i .u64] 32 x11, Seg.rows [.i .u64, .i .u64] 2 x12], Obj.cells 52 [Seg.arr IntKind.i64 81 x13], Obj.cells 40 [Seg.one [S.i IntKind.u64 x14, S.i IntKind.u64 x15]], Obj.cells 40 [Seg.one [S.i IntKind.u64 x16, S.i IntKind.u64 x17]], Obj.cells 40 [Seg.one [S.i IntKind.u64 x18, S.i IntKind.u64 x19]]]) law05_BoardHoldsl39d

theorem law05_BoardHoldsl39_step (f : Nat) (x0 : Int) (x1 : Int) (x2 : Int) (x3 : Nat) (x4 : List (List Int)) (x5 : List Int) (x6 : List Int) (x7 : Int) (x8 : List Int) (x9 : List Int) (x10 : Int) (x11 : List (List Int)) (x12 : List (List Int)) (x13 : List Int) (x14 : Int) (x15 : Int) (x16 : Int) (x17 : Int) (x18 : Int) (x19 : Int) : law05_BoardHoldsl39r (f + 1) x0 x1 x2 x3 x4 x5 x6 x7 x8 x9 x10 x11 x12 x13 x14 x15 x16 x17 x18 x19 = law05_BoardHoldsl39s (law05_BoardHoldsl39r f) x0 x1 x2 x3 x4 x5 x6 x7 x8 x9 x10 x11 x12 x13 x14 x15 x16 x17 x18 x19 := by kernel_rfl

theorem law05_BoardHoldsl39_eq : ∀ f, law05_BoardHoldsl39r f = law05_BoardHoldsl39 f
  | 0 => rfl
  | f + 1 => by funext x0 x1 x2 x3 x4 x5 x6 x7 x8 x9 x10 x11 x12 x13 x14 x15 x16 x17 x18 x19; rw [law05_BoardHoldsl39_step, law05_BoardHoldsl39_eq f]; rfl

noncomputable def law05_BoardHoldsl35r (f : Nat) (x0 : Int) (x1 : Int) (x2 : Nat) (x3 : List (List Int)) (x4 : List Int) (x5 : List Int) (x6 : Int) (x7 : List Int) (x8 : List Int) (x9 : Int) (x10 : List (List Int)) (x11 : List (List Int)) (x12 : List Int) (x13 : Int) (x14 : Int) (x15 : Int) (x16 : Int) : Option ((Bool × Int × Nat × List (List Int) × List Int × List Int × Int × List Int × List Int × Int × List (List Int) × List (List Int) × List Int × Int × Int × Int × Int) ⊕ (Int × Nat × List (List Int) × List Int × List Int × Int × List Int × List Int × Int × List (List Int) × List (List Int) × List Int × Int × Int × Int × Int)) := lrun law05_BoardHoldsc 1 [2, 5, 6, 11, 13, 14, 15] [2, 4, 5, 6, 11, 13, 14] (loopOf Tryd.f6 35) f ([V.s (S.ptr 1 0 none 0), V.s (S.ptr 2 0 none 0), V.s (S.ptr 3 0 none 0), V.s (S.ptr 4 0 none 0), V.s (S.i IntKind.i64 x0), V.s (S.ptr 5 0 none 0), V.s (S.i IntKind.i64 x1)]) ([Obj.sli 55 true (Seg.rows [.i .i64, .i .i8] x2 x3), Obj.cells 28 [Seg.arr IntKind.i8 81 x4, Seg.arr IntKind.i8 16 x5, Seg.one [S.i IntKind.i8 x6]], Obj.cells 44 [Seg.arr IntKind.i8 81 x7, Seg.arr IntKind.i8 16 x8, Seg.one [S.i IntKind.i8 x9], Seg.rows [.i .u64, .i .u64] 32 x10, Seg.rows [.i .u64, .i .u64] 2 x11], Obj.cells 52 [Seg.arr IntKind.i64 81 x12], Obj.cells 40 [Seg.one [S.i IntKind.u64 x13, S.i IntKind.u64 x14]], Obj.cells 40 [Seg.one [S.i IntKind.u64 x15, S.i IntKind.u64 x16]]]) law05_BoardHoldsl35d

theorem law05_BoardHoldsl35_step (f : Nat) (x0 : Int) (x1 : Int) (x2 : Nat) (x3 : List (List Int)) (x4 : List Int) (x5 : List Int) (x6 : Int) (x7 : List Int) (x8 : List Int) (x9 : Int) (x10 : List (List Int)) (x11 : List (List Int)) (x12 : List Int) (x13 : Int) (x14 : Int) (x15 : Int) (x16 : Int) : law05_BoardHoldsl35r (f + 1) x0 x1 x2 x3 x4 x5 x6 x7 x8 x9 x10 x11 x12 x13 x14 x15 x16 = law05_BoardHoldsl35s (law05_BoardHoldsl35r f) x0 x1 x2 x3 x4 x5 x6 x7 x8 x9 x10 x11 x12 x13 x14 x15 x16 := by kernel_rfl

theorem law05_BoardHoldsl35_eq : ∀ f, law05_BoardHoldsl35r f = law05_BoardHoldsl35 f
  | 0 => rfl
  | f + 1 => by funext x0 x1 x2 x3 x4 x5 x6 x7 x8 x9 x10 x11 x12 x13 x14 x15 x16; rw [law05_BoardHoldsl35_step, law05_BoardHoldsl35_eq f]; rfl

noncomputable def law05_BoardHoldsl31r (f : Nat) (x0 : Int) (x1 : Nat) (x2 : List (List Int)) (x3 : List Int) (x4 : List Int) (x5 : Int) (x6 : List Int) (x7 : List Int) (x8 : Int) (x9 : List (List Int)) (x10 : List (List Int)) (x11 : List Int) (x12 : Int) (x13 : Int) : Option ((Bool × Nat × List (List Int) × List Int × List Int × Int × List Int × List Int × Int × List (List Int) × List (List Int) × Int × Int) ⊕ (Nat × List (List Int) × List Int × List Int × Int × List Int × List Int × Int × List (List Int) × List (List Int) × Int × Int)) := lrun law05_BoardHoldsc 1 [2, 5, 6, 11, 13] [2, 4, 5, 11] (loopOf Tryd.f6 31) f ([V.s (S.ptr 1 0 none 0), V.s (S.ptr 2 0 none 0), V.s (S.ptr 3 0 none 0), V.s (S.ptr 4 0 none 0), V.s (S.i IntKind.i64 x0)]) ([Obj.sli 55 true (Seg.rows [.i .i64, .i .i8] x1 x2), Obj.cells 28 [Seg.arr IntKind.i8 81 x3, Seg.arr IntKind.i8 16 x4, Seg.one [S.i IntKind.i8 x5]], Obj.cells 44 [Seg.arr IntKind.i8 81 x6, Seg.arr IntKind.i8 16 x7, Seg.one [S.i IntKind.i8 x8], Seg.rows [.i .u64, .i .u64] 32 x9, Seg.rows [.i .u64, .i .u64] 2 x10], Obj.cells 52 [Seg.arr IntKind.i64 81 x11], Obj.cells 40 [Seg.one [S.i IntKind.u64 x12, S.i IntKind.u64 x13]]]) law05_BoardHoldsl31d

theorem law05_BoardHoldsl31_step (f : Nat) (x0 : Int) (x1 : Nat) (x2 : List (List Int)) (x3 : List Int) (x4 : List Int) (x5 : Int) (x6 : List Int) (x7 : List Int) (x8 : Int) (x9 : List (List Int)) (x10 : List (List Int)) (x11 : List Int) (x12 : Int) (x13 : Int) : law05_BoardHoldsl31r (f + 1) x0 x1 x2 x3 x4 x5 x6 x7 x8 x9 x10 x11 x12 x13 = law05_BoardHoldsl31s (law05_BoardHoldsl31r f) x0 x1 x2 x3 x4 x5 x6 x7 x8 x9 x10 x11 x12 x13 := by kernel_rfl

theorem law05_BoardHoldsl31_eq : ∀ f, law05_BoardHoldsl31r f = law05_BoardHoldsl31 f
  | 0 => rfl
  | f + 1 => by funext x0 x1 x2 x3 x4 x5 x6 x7 x8 x9 x10 x11 x12 x13; rw [law05_BoardHoldsl31_step, law05_BoardHoldsl31_eq f]; rfl

theorem law05_BoardHoldss8 : LoopSound Tryd.prog law05_BoardHoldsc 1 (loopOf Tryd.f6 8) :=
  loopSound_by mixed law05_BoardHoldsc_ok (AllP.of (l' := []) (by kernel_rfl) trivial) (q := 8) (kin := [1, 2, 5, 6, 26, 27]) (kout := [1, 2, 5, 6]) (by kernel_rfl) (by kernel_rfl) fun vs objs K r h => by
    replace h : law05_BoardHoldsp8 vs objs K = some r := h
    unfold law05_BoardHoldsp8 at h
    split at h
    · skip
      obtain ⟨t, h1, h2⟩ := ob_ok h
      rw [← law05_BoardHoldsl8_eq] at h1
      refine ⟨_, law05_BoardHoldsl8d, t, many, h1, fun e vs' objs' hd => ?_⟩
      unfold law05_BoardHoldsl8d at hd
      split at hd
      · skip
        cases hd
        exact h2
      · cases hd
    · cases h

theorem law05_BoardHoldss14 : LoopSound Tryd.prog law05_BoardHoldsc 1 (loopOf Tryd.f6 14) :=
  loopSound_by mixed law05_BoardHoldsc_ok (AllP.of (l' := []) (by kernel_rfl) trivial) (q := 14) (kin := [2, 5, 6, 40, 41, 42]) (kout := [2, 5, 6]) (by kernel_rfl) (by kernel_rfl) fun vs objs K r h => by
    replace h : law05_BoardHoldsp14 vs objs K = some r := h
    unfold law05_BoardHoldsp14 at h
    split at h
    · skip
      obtain ⟨t, h1, h2⟩ := ob_ok h
      rw [← law05_BoardHoldsl14_eq] at h1
      refine ⟨_, law05_BoardHoldsl14d, t, many, h1, fun e vs' objs' hd => ?_⟩
      unfold law05_BoardHoldsl14d at hd
      split at hd
      · skip
        cases hd
        exact h2
      · cases hd
    · cases h

theorem law05_BoardHoldss24 : LoopSound Tryd.prog law05_BoardHoldsc 1 (loopOf Tryd.f6 24) :=
  loopSound_by mixed law05_BoardHoldsc_ok (AllP.of (l' := []) (by kernel_rfl) trivial) (q := 24) (kin := [2, 5, 6, 11, 12]) (kout := [2, 4, 5, 6, 11]) (by kernel_rfl) (by kernel_rfl) fun vs objs K r h => by
    replace h : law05_BoardHoldsp24 vs objs K = some r := h
    unfold law05_BoardHoldsp24 at h
    split at h
    · skip
      obtain ⟨t, h1, h2⟩ := ob_ok h
      rw [← law05_BoardHoldsl24_eq] at h1
      refine ⟨_, law05_BoardHoldsl24d, t, many, h1, fun e vs' objs' hd => ?_⟩
      unfold law05_BoardHoldsl24d at hd
      split at hd
      · skip
        cases hd
        exact h2
      · skip
        cases hd
        exact h2
      · cases hd
    · cases h

theorem law05_BoardHoldss39 : LoopSound Tryd.prog law05_BoardHoldsc 1 (loopOf Tryd.f6 39) :=
  loopSound_by mixed law05_BoardHoldsc_ok (AllP.of (l' := []) (by kernel_rfl) trivial) (q := 39) (kin := [2, 5, 6, 11, 13, 14, 15, 16, 17]) (kout := [2, 4, 5, 6, 11, 13, 14, 15, 16]) (by kernel_rfl) (by kernel_rfl) fun vs objs K r h => by
    replace h : law05_BoardHoldsp39 vs objs K = some r := h
    unfold law05_BoardHoldsp39 at h
    split at h
    · skip
      obtain ⟨t, h1, h2⟩ := ob_ok h
      rw [← law05_BoardHoldsl39_eq] at h1
      refine ⟨_, law05_BoardHoldsl39d, t, many, h1, fun e vs' objs' hd => ?_⟩
      unfold law05_BoardHoldsl39d at hd
      split at hd
      · skip
        cases hd
        exact h2
      · skip
        cases hd
        exact h2
      · cases hd
    · cases h

theorem law05_BoardHoldss35 : LoopSound Tryd.prog law05_BoardHoldsc 1 (loopOf Tryd.f6 35) :=
  loopSound_by mixed law05_BoardHoldsc_ok (AllP.of (l' := [loopOf Tryd.f6 39]) (by kernel_rfl) ⟨law05_BoardHoldss39, trivial⟩) (q := 35) (kin := [2, 5, 6, 11, 13, 14, 15]) (kout := [2, 4, 5, 6, 11, 13, 14]) (by kernel_rfl) (by kernel_rfl) fun vs objs K r h => by
    replace h : law05_BoardHoldsp35 vs objs K = some r := h
    unfold law05_BoardHoldsp35 at h
    split at h
    · skip
      obtain ⟨t, h1, h2⟩ := ob_ok h
      rw [← law05_BoardHoldsl35_eq] at h1
      refine ⟨_, law05_BoardHoldsl35d, t, many, h1, fun e vs' objs' hd => ?_⟩
      unfold law05_BoardHoldsl35d at hd
      split at hd
      · skip
        cases hd
        exact h2
      · skip
        cases hd
        exact h2
      · cases hd
    · cases h

theorem law05_BoardHoldss31 : LoopSound Tryd.prog law05_BoardHoldsc 1 (loopOf Tryd.f6 31) :=
  loopSound_by mixed law05_BoardHoldsc_ok (AllP.of (l' := [loopOf Tryd.f6 35]) (by kernel_rfl) ⟨law05_BoardHoldss35, trivial⟩) (q := 31) (kin := [2, 5, 6, 11, 13]) (kout := [2, 4, 5, 11]) (by kernel_rfl) (by kernel_rfl) fun vs objs K r h => by
    replace h : law05_BoardHoldsp31 vs objs K = some r := h
    unfold law05_BoardHoldsp31 at h
    split at h
    · skip
      obtain ⟨t, h1, h2⟩ := ob_ok h
      rw [← law05_BoardHoldsl31_eq] at h1
      refine ⟨_, law05_BoardHoldsl31d, t, many, h1, fun e vs' objs' hd => ?_⟩
      unfold law05_BoardHoldsl31d at hd
      split at hd
      · skip
        cases hd
        exact h2
      · skip
        cases hd
        exact h2
      · cases hd
    · cases h

noncomputable def law05_BoardHoldsd : V → List Obj → Option (Bool) := fun v objs => match v, objs with
  | V.s (S.b y0), [] => some (y0)
  | _, _ => none

theorem law05_BoardHolds_eq (x0 : List Int) (x1 : List Int) (x2 : Int) (x3 : Nat) (x4 : Nat) (x5 : Nat) (x6 : List (List Int)) : fnE law05_BoardHoldsc Tryd.f6 ([V.agg [Seg.arr IntKind.i8 81 x0, Seg.arr IntKind.i8 16 x1, Seg.one [S.i IntKind.i8 x2]], V.s (S.sl 0 x3 x4 false)]) ([Obj.sli 55 true (Seg.rows [.i .i64, .i .i8] x5 x6)]) (pureD 1 law05_BoardHoldsd) = law05_BoardHolds x0 x1 x2 x3 x4 x5 x6 := by kernel_rfl

noncomputable def law05_BoardHoldsa {R : Type} (o : Orc) (vs : List V) (objs : List Obj) (K : Bool → V → List Obj → Option R) : Option R := match vs, List.map Obj.toRO objs with
  | [V.agg [Seg.arr IntKind.i8 81 x0, Seg.arr IntKind.i8 16 x1, Seg.one [S.i IntKind.i8 x2]], V.s (S.sl 0 x3 x4 false)], [Obj.sli 55 true (Seg.rows [.i .i64, .i .i8] x5 x6)] => ob (law05_BoardHolds x0 x1 x2 x3 x4 x5 x6) fun y0 => K true (V.s (S.b y0)) ([])
  | _, _ => o 6 vs objs K

noncomputable def law05_BoardHoldso (o : Orc) : Orc := hook 6 (law05_BoardHoldsa o) o

theorem law05_BoardHolds_ok {vs : List V} {objs : List Obj} (x0 : List Int) (x1 : List Int) (x2 : Int) (x3 : Nat) (x4 : Nat) (x5 : Nat) (x6 : List (List Int)) {R : Type} {K : Bool → V → List Obj → Option R} {r : R} (hv : vs = [V.agg [Seg.arr IntKind.i8 81 x0, Seg.arr IntKind.i8 16 x1, Seg.one [S.i IntKind.i8 x2]], V.s (S.sl 0 x3 x4 false)]) (ho : List.map Obj.toRO objs = [Obj.sli 55 true (Seg.rows [.i .i64, .i .i8] x5 x6)]) (h : ob (law05_BoardHolds x0 x1 x2 x3 x4 x5 x6) (fun y0 => K true (V.s (S.b y0)) ([])) = some r) :
    ∃ p v objs', K p v objs' = some r ∧ AnyOK Tryd.prog 6 vs objs p v objs' := by
  subst hv
  obtain ⟨t, h1, h2⟩ := ob_ok h
  refine purOK_by mixed law05_BoardHoldsc_ok (m := 1) (fn := Tryd.f6) (b := (Tryd.f6).body.getD .skip) (by kernel_rfl) (by kernel_rfl) (by kernel_rfl) ho (by kernel_rfl) (by kernel_rfl) (AllP.of (l' := [loopOf Tryd.f6 8, loopOf Tryd.f6 14, loopOf Tryd.f6 24, loopOf Tryd.f6 31]) (by kernel_rfl) ⟨law05_BoardHoldss8, law05_BoardHoldss14, law05_BoardHoldss24, law05_BoardHoldss31, trivial⟩) ((law05_BoardHolds_eq _ _ _ _ _ _ _).trans h1) fun v objs' hd => ?_
  unfold law05_BoardHoldsd at hd
  split at hd
  · skip
    cases hd
    exact h2
  · cases hd

theorem law05_BoardHoldso_ok (o : Orc) (ho : OSound Tryd.prog o) : OSound Tryd.prog (law05_BoardHoldso o) := hook_ok ho fun vs objs K r h => by
  unfold law05_BoardHoldsa at h
  split at h
  · skip
    have hq : List.map Obj.toRO objs = _ := (by rename_i hq; first | exact hq | assumption)
    obtain ⟨t, h1, h2⟩ := ob_ok h
    refine purOK_by mixed law05_BoardHoldsc_ok (m := 1) (fn := Tryd.f6) (b := (Tryd.f6).body.getD .skip) (by kernel_rfl) (by kernel_rfl) (by kernel_rfl) hq (by kernel_rfl) (by kernel_rfl) (AllP.of (l' := [loopOf Tryd.f6 8, loopOf Tryd.f6 14, loopOf Tryd.f6 24, loopOf Tryd.f6 31]) (by kernel_rfl) ⟨law05_BoardHoldss8, law05_BoardHoldss14, law05_BoardHoldss24, law05_BoardHoldss31, trivial⟩) ((law05_BoardHolds_eq _ _ _ _ _ _ _).trans h1) fun v objs' hd => ?_
    unfold law05_BoardHoldsd at hd
    split at hd
    · skip
      cases hd
      exact h2
    · cases hd
  · exact ho _ _ _ _ _ h
end Go.Kk.KkBA
