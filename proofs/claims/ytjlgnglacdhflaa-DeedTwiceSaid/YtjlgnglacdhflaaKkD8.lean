/- Printed by a tool of this project (KkGen): the program's functions come to the plain ones. -/
import Derived.Test.YtjlgnglacdhflaaProg
import Derived.Test.YtjlgnglacdhflaaKkB
import Derived.Test.YtjlgnglacdhflaaKkPl
namespace Go.Kk.KkD8
open Go.Proofs Go.Kk.Pl
set_option maxRecDepth 100000
set_option maxHeartbeats 4000000
def tab : Tab := [(1, .sc (.f)),
  (2, .sc (.i .i64)),
  (3, .sc (.i .i64)),
  (4, .sc (.b)),
  (5, .sc (.i .u8)),
  (6, .sc (.i .u8)),
  (7, .st [.one [.i .i64, .i .i64, .b, .i .u8]] [(0, 0, 2), (0, 1, 3), (0, 2, 4), (0, 3, 6)]),
  (8, .st [.one [.i .i64, .i .i64, .b, .i .u8]] [(0, 0, 2), (0, 1, 3), (0, 2, 4), (0, 3, 6)]),
  (9, .sc (.str)),
  (10, .sc (.str)),
  (11, .sc (.str)),
  (12, .sc (.i .u64)),
  (13, .st [.one [.str, .i .u64]] [(0, 0, 9), (0, 1, 12)]),
  (14, .st [.one [.str, .i .u64]] [(0, 0, 9), (0, 1, 12)]),
  (15, .sc (.p)),
  (16, .sc (.p)),
  (17, .sc (.p)),
  (18, .st [.one [.p]] [(0, 0, 17)]),
  (19, .st [.one [.p]] [(0, 0, 17)]),
  (21, .sc (.i .i32)),
  (22, .sc (.sl 34)),
  (23, .sc (.f)),
  (24, .sc (.p)),
  (25, .sc (.i .i64)),
  (27, .sc (.f)),
  (28, .sc (.i .i8)),
  (29, .sc (.i .i8)),
  (30, .ar 81 1 29 (.arr .i8 81)),
  (31, .ar 8 1 28 (.arr .i8 8)),
  (32, .ar 2 8 31 (.arr .i8 16)),
  (33, .st [.arr .i8 81, .arr .i8 16, .one [.i .i8]] [(0, 0, 30), (1, 0, 32), (2, 0, 28)]),
  (34, .st [.arr .i8 81, .arr .i8 16, .one [.i .i8]] [(0, 0, 30), (1, 0, 32), (2, 0, 28)]),
  (35, .sc (.f)),
  (36, .st [.one [.i .i64, .i .i64, .i .i64, .b]] [(0, 0, 3), (0, 1, 3), (0, 2, 3), (0, 3, 4)]),
  (37, .st [.one [.i .i64, .i .i64, .i .i64, .b]] [(0, 0, 3), (0, 1, 3), (0, 2, 3), (0, 3, 4)]),
  (38, .st [.one [.i .i64, .i .i64, .i .i64, .i .i64, .i .i64, .i .i64, .b]] [(0, 0, 3), (0, 1, 3), (0, 2, 3), (0, 3, 37)]),
  (39, .st [.one [.i .i64, .i .i64, .i .i64, .i .i64, .i .i64, .i .i64, .b]] [(0, 0, 3), (0, 1, 3), (0, 2, 3), (0, 3, 37)]),
  (41, .sc (.f)),
  (42, .sc (.f)),
  (43, .sc (.f)),
  (44, .sc (.f)),
  (45, .sc (.sl 48)),
  (46, .sc (.m)),
  (47, .st [.one [.i .i64], .arr .i8 81, .arr .i8 16, .one [.i .i8], .one [.i .i64, .i .i64, .i .i64, .i .i64, .i .i64, .i .i64, .b]] [(0, 0, 3), (1, 0, 34), (4, 0, 39)]),
  (48, .st [.one [.i .i64], .arr .i8 81, .arr .i8 16, .one [.i .i8], .one [.i .i64, .i .i64, .i .i64, .i .i64, .i .i64, .i .i64, .b]] [(0, 0, 3), (1, 0, 34), (4, 0, 39)]),
  (49, .sc (.f)),
  (50, .sc (.sl 37)),
  (51, .sc (.f)),
  (52, .sc (.f)),
  (53, .sc (.p)),
  (54, .sc (.f)),
  (55, .sc (.f)),
  (56, .sc (.i .u64)),
  (57, .sc (.i .u64)),
  (58, .sc (.f)),
  (59, .sc (.f)),
  (60, .sc (.p)),
  (61, .sc (.sl 89)),
  (62, .st [.one [.p, .i .u64, .sl 89]] [(0, 0, 60), (0, 1, 57), (0, 2, 61)]),
  (63, .st [.one [.p, .i .u64, .sl 89]] [(0, 0, 60), (0, 1, 57), (0, 2, 61)]),
  (64, .st [.one [.i .u64, .i .u64]] [(0, 0, 56), (0, 1, 56)]),
  (65, .st [.one [.i .u64, .i .u64]] [(0, 0, 56), (0, 1, 56)]),
  (66, .ar 32 1 65 (.rows [.i .u64, .i .u64] 32)),
  (67, .ar 2 1 65 (.rows [.i .u64, .i .u64] 2)),
  (68, .st [.arr .i8 81, .arr .i8 16, .one [.i .i8], .rows [.i .u64, .i .u64] 32, .rows [.i .u64, .i .u64] 2] [(0, 0, 34), (3, 0, 66), (4, 0, 67)]),
  (69, .st [.arr .i8 81, .arr .i8 16, .one [.i .i8], .rows [.i .u64, .i .u64] 32, .rows [.i .u64, .i .u64] 2] [(0, 0, 34), (3, 0, 66), (4, 0, 67)]),
  (70, .sc (.f)),
  (71, .sc (.f)),
  (73, .sc (.f)),
  (74, .sc (.f)),
  (75, .sc (.f)),
  (76, .sc (.f)),
  (77, .sc (.sl 83)),
  (78, .st [.one [.sl 83, .i .i64]] [(0, 0, 77), (0, 1, 3)]),
  (79, .st [.one [.sl 83, .i .i64]] [(0, 0, 77), (0, 1, 3)]),
  (80, .sc (.p)),
  (81, .sc (.f)),
  (82, .st [.one [.b], .arr .i8 81, .arr .i8 16, .one [.i .i8], .one [.i .i64, .i .i64, .i .i64, .i .i64, .i .i64, .i .i64, .b]] [(0, 0, 4), (1, 0, 34), (4, 0, 39)]),
  (83, .st [.one [.b], .arr .i8 81, .arr .i8 16, .one [.i .i8], .one [.i .i64, .i .i64, .i .i64, .i .i64, .i .i64, .i .i64, .b]] [(0, 0, 4), (1, 0, 34), (4, 0, 39)]),
  (84, .sc (.f)),
  (85, .sc (.f)),
  (86, .sc (.f)),
  (87, .sc (.f)),
  (88, .st [.one [.i .i64, .i .i64, .i .i64, .b, .i .i8, .i .i8]] [(0, 0, 37), (0, 4, 29), (0, 5, 29)]),
  (89, .st [.one [.i .i64, .i .i64, .i .i64, .b, .i .i8, .i .i8]] [(0, 0, 37), (0, 4, 29), (0, 5, 29)]),
  (90, .sc (.f)),
  (91, .sc (.f)),
  (92, .sc (.f)),
  (93, .sc (.f)),
  (94, .sc (.f)),
  (95, .sc (.f)),
  (96, .sc (.f)),
  (97, .sc (.f)),
  (98, .ar 9 1 3 (.arr .i64 9)),
  (99, .sc (.sl 3)),
  (100, .sc (.f)),
  (101, .sc (.f)),
  (102, .sc (.i .u64)),
  (103, .sc (.f)),
  (104, .sc (.f)),
  (105, .st [.one [.p, .p, .p, .str]] [(0, 0, 17), (0, 1, 17), (0, 2, 17), (0, 3, 9)]),
  (106, .st [.one [.p, .p, .p, .str]] [(0, 0, 17), (0, 1, 17), (0, 2, 17), (0, 3, 9)]),
  (110, .sc (.i .u32)),
  (111, .sc (.i .u8)),
  (112, .sc (.i .u8)),
  (113, .sc (.f)),
  (114, .sc (.p)),
  (115, .sc (.i .i32)),
  (116, .sc (.i .i32)),
  (117, .st [.one [.i .u64, .i .u64, .i .u32, .i .u8, .i .u8, .i .u8, .i .u8, .f, .p, .i .i32, .i .i32]] [(0, 0, 12), (0, 1, 12), (0, 2, 110), (0, 3, 111), (0, 4, 5), (0, 5, 5), (0, 6, 112), (0, 7, 113), (0, 8, 114), (0, 9, 115), (0, 10, 116)]),
  (118, .st [.one [.i .u64, .i .u64, .i .u32, .i .u8, .i .u8, .i .u8, .i .u8, .f, .p, .i .i32, .i .i32]] [(0, 0, 12), (0, 1, 12), (0, 2, 110), (0, 3, 111), (0, 4, 5), (0, 5, 5), (0, 6, 112), (0, 7, 113), (0, 8, 114), (0, 9, 115), (0, 10, 116)])]

def eqs : List TypeId := [34, 32, 39, 37]
def bytes : List (TypeId × Nat) := [(34, 98), (48, 168), (37, 32), (89, 40), (83, 160), (3, 8)]
theorem mixed : Try.prog.follows .mixedOrders = true := by kernel_rfl
theorem tab_ok : ∀ t L, Tab.get tab t = some L → LayOK Try.prog tab t L := tabB_ok (P := Try.prog) (tab := tab) (l := tab) (by kernel_rfl)
theorem eqs_ok : ∀ t L, memT t eqs = true → Tab.get tab t = some L → ∃ f ck, f ≤ 10000 ∧ tyCK Try.prog f t = some ck ∧ cksOf L.segTs = some ck ∧ Try.prog.eqGuardType Try.prog.depth t = false := eqsB_ok (P := Try.prog) (tab := tab) (l := eqs) (by kernel_rfl)
theorem bytes_ok : ∀ t n, byN t bytes = some n → ∃ i, Try.prog.info? t = some i ∧ i.bytes = n := bytesB_ok (P := Try.prog) (l := bytes) (by kernel_rfl)


def set_Squarelp : {R : Type} → Nat → List V → List Obj → (Ex → List V → List Obj → Option R) → Option R := fun _ _ _ _ => none

def set_Squareoo : Orc := oNil

theorem set_Squareoo_ok : OSound Try.prog set_Squareoo := oNil_ok

def set_Squarec : Ctx := { tab := tab, eqs := eqs, bytes := bytes, nt := 23, orc := set_Squareoo, keeps := [], lp := set_Squarelp }

theorem set_Squarec_ok : CtxOK Try.prog set_Squarec := ⟨tab_ok, set_Squareoo_ok, eqs_ok, bytes_ok⟩

def set_Squared : V → List Obj → Option (Int) := fun v objs => match v, objs with
  | V.s (S.i IntKind.i64 y0), [] => some (y0)
  | _, _ => none

theorem set_Square_eq (x0 : Int) (x1 : Int) : fnE set_Squarec Try.f54 ([V.s (S.i IntKind.i64 x0), V.s (S.i IntKind.i64 x1)]) ([]) set_Squared = set_Square x0 x1 := by kernel_rfl

def set_Squarea {R : Type} (o : Orc) (vs : List V) (objs : List Obj) (K : Bool → V → List Obj → Option R) : Option R := match vs, objs with
  | [V.s (S.i IntKind.i64 x0), V.s (S.i IntKind.i64 x1)], [] => ob (set_Square x0 x1) fun y0 => K false (V.s (S.i IntKind.i64 y0)) ([])
  | _, _ => o 54 vs objs K

def set_Squareo (o : Orc) : Orc := fun f vs objs K => bif Nat.beq f 54 then set_Squarea o vs objs K else o f vs objs K

theorem set_Square_ok {vs : List V} {objs : List Obj} (x0 : Int) (x1 : Int) {R : Type} {K : Bool → V → List Obj → Option R} {r : R} (hv : vs = [V.s (S.i IntKind.i64 x0), V.s (S.i IntKind.i64 x1)]) (ho : objs = []) (h : ob (set_Square x0 x1) (fun y0 => K false (V.s (S.i IntKind.i64 y0)) ([])) = some r) :
    ∃ p v objs', K p v objs' = some r ∧ AnyOK Try.prog 54 vs objs p v objs' := by
  subst hv
  subst ho
  obtain ⟨t, h1, h2⟩ := ob_ok h
  refine anyOK_by mixed set_Squarec_ok (objs := []) (fn := Try.f54) (b := (Try.f54).body.getD .skip) (by kernel_rfl) (by kernel_rfl) (by kernel_rfl) (AllP.of (l' := []) (by kernel_rfl) trivial) ((set_Square_eq x0 x1).trans h1) fun v objs' hd => ?_
  unfold set_Squared at hd
  split at hd
  · skip
    cases hd
    exact h2
  · cases hd

theorem set_Squareo_ok (o : Orc) (ho : OSound Try.prog o) : OSound Try.prog (set_Squareo o) := by
  intro R f vs objs K r h
  replace h : (bif Nat.beq f 54 then set_Squarea o vs objs K else o f vs objs K) = some r := h
  cases hf : Nat.beq f 54 with
  | false => rw [hf] at h; exact ho f vs objs K r h
  | true =>
    rw [hf] at h
    have e := Nat.eq_of_beq_eq_true hf
    subst e
    replace h : set_Squarea o vs objs K = some r := h
    unfold set_Squarea at h
    split at h
    · skip
      exact set_Square_ok _ _ rfl rfl h
    · exact ho _ _ _ _ _ h

def board_Start_1lp : {R : Type} → Nat → List V → List Obj → (Ex → List V → List Obj → Option R) → Option R := fun _ _ _ _ => none

def board_Start_1oo : Orc := (set_Squareo oNil)

theorem board_Start_1oo_ok : OSound Try.prog board_Start_1oo := (set_Squareo_ok _ oNil_ok)

def board_Start_1c : Ctx := { tab := tab, eqs := eqs, bytes := bytes, nt := 14, orc := board_Start_1oo, keeps := [], lp := board_Start_1lp }

theorem board_Start_1c_ok : CtxOK Try.prog board_Start_1c := ⟨tab_ok, board_Start_1oo_ok, eqs_ok, bytes_ok⟩

def board_Start_1d : V → List Obj → Option (Int) := fun v objs => match v, objs with
  | V.s (S.i IntKind.i64 y0), [] => some (y0)
  | _, _ => none

theorem board_Start_1_eq (x0 : Int) (x1 : Int) (x2 : Int) : fnE board_Start_1c Try.f53 ([V.s (S.i IntKind.i64 x0), V.s (S.ptr 0 0 none 0), V.s (S.ptr 1 0 none 0)]) ([Obj.rcells 3 [Seg.one [S.i IntKind.i64 x1]], Obj.rcells 3 [Seg.one [S.i IntKind.i64 x2]]]) (pureD 2 board_Start_1d) = board_Start_1 x0 x1 x2 := by kernel_rfl

def board_Start_1a {R : Type} (o : Orc) (vs : List V) (objs : List Obj) (K : Bool → V → List Obj → Option R) : Option R := match vs, List.map Obj.toRO objs with
  | [V.s (S.i IntKind.i64 x0), V.s (S.ptr 0 0 none 0), V.s (S.ptr 1 0 none 0)], [Obj.rcells 3 [Seg.one [S.i IntKind.i64 x1]], Obj.rcells 3 [Seg.one [S.i IntKind.i64 x2]]] => ob (board_Start_1 x0 x1 x2) fun y0 => K true (V.s (S.i IntKind.i64 y0)) ([])
  | _, _ => o 53 vs objs K

def board_Start_1o (o : Orc) : Orc := fun f vs objs K => bif Nat.beq f 53 then board_Start_1a o vs objs K else o f vs objs K

theorem board_Start_1_ok {vs : List V} {objs : List Obj} (x0 : Int) (x1 : Int) (x2 : Int) {R : Type} {K : Bool → V → List Obj → Option R} {r : R} (hv : vs = [V.s (S.i IntKind.i64 x0), V.s (S.ptr 0 0 none 0), V.s (S.ptr 1 0 none 0)]) (ho : List.map Obj.toRO objs = [Obj.rcells 3 [Seg.one [S.i IntKind.i64 x1]], Obj.rcells 3 [Seg.one [S.i IntKind.i64 x2]]]) (h : ob (board_Start_1 x0 x1 x2) (fun y0 => K true (V.s (S.i IntKind.i64 y0)) ([])) = some r) :
    ∃ p v objs', K p v objs' = some r ∧ AnyOK Try.prog 53 vs objs p v objs' := by
  subst hv
  obtain ⟨t, h1, h2⟩ := ob_ok h
  refine purOK_by mixed board_Start_1c_ok (m := 2) (fn := Try.f53) (b := (Try.f53).body.getD .skip) (by kernel_rfl) (by kernel_rfl) (by kernel_rfl) ho (by kernel_rfl) (by kernel_rfl) (AllP.of (l' := []) (by kernel_rfl) trivial) ((board_Start_1_eq x0 x1 x2).trans h1) fun v objs' hd => ?_
  unfold board_Start_1d at hd
  split at hd
  · skip
    cases hd
    exact h2
  · cases hd

theorem board_Start_1o_ok (o : Orc) (ho : OSound Try.prog o) : OSound Try.prog (board_Start_1o o) := by
  intro R f vs objs K r h
  replace h : (bif Nat.beq f 53 then board_Start_1a o vs objs K else o f vs objs K) = some r := h
  cases hf : Nat.beq f 53 with
  | false => rw [hf] at h; exact ho f vs objs K r h
  | true =>
    rw [hf] at h
    have e := Nat.eq_of_beq_eq_true hf
    subst e
    replace h : board_Start_1a o vs objs K = some r := h
    unfold board_Start_1a at h
    split at h
    · skip
      exact board_Start_1_ok _ _ _ rfl (by rename_i hq; first | exact hq | assumption) h
    · exact ho _ _ _ _ _ h

def piece_Oflp : {R : Type} → Nat → List V → List Obj → (Ex → List V → List Obj → Option R) → Option R := fun _ _ _ _ => none

def piece_Ofoo : Orc := oNil

theorem piece_Ofoo_ok : OSound Try.prog piece_Ofoo := oNil_ok

def piece_Ofc : Ctx := { tab := tab, eqs := eqs, bytes := bytes, nt := 28, orc := piece_Ofoo, keeps := [], lp := piece_Oflp }

theorem piece_Ofc_ok : CtxOK Try.prog piece_Ofc := ⟨tab_ok, piece_Ofoo_ok, eqs_ok, bytes_ok⟩

def piece_Ofd : V → List Obj → Option (Int) := fun v objs => match v, objs with
  | V.s (S.i IntKind.i8 y0), [] => some (y0)
  | _, _ => none

theorem piece_Of_eq (x0 : Int) (x1 : Int) : fnE piece_Ofc Try.f38 ([V.s (S.i IntKind.i64 x0), V.s (S.i IntKind.i64 x1)]) ([]) piece_Ofd = piece_Of x0 x1 := by kernel_rfl

def piece_Ofa {R : Type} (o : Orc) (vs : List V) (objs : List Obj) (K : Bool → V → List Obj → Option R) : Option R := match vs, objs with
  | [V.s (S.i IntKind.i64 x0), V.s (S.i IntKind.i64 x1)], [] => ob (piece_Of x0 x1) fun y0 => K false (V.s (S.i IntKind.i8 y0)) ([])
  | _, _ => o 38 vs objs K

def piece_Ofo (o : Orc) : Orc := fun f vs objs K => bif Nat.beq f 38 then piece_Ofa o vs objs K else o f vs objs K

theorem piece_Of_ok {vs : List V} {objs : List Obj} (x0 : Int) (x1 : Int) {R : Type} {K : Bool → V → List Obj → Option R} {r : R} (hv : vs = [V.s (S.i IntKind.i64 x0), V.s (S.i IntKind.i64 x1)]) (ho : objs = []) (h : ob (piece_Of x0 x1) (fun y0 => K false (V.s (S.i IntKind.i8 y0)) ([])) = some r) :
    ∃ p v objs', K p v objs' = some r ∧ AnyOK Try.prog 38 vs objs p v objs' := by
  subst hv
  subst ho
  obtain ⟨t, h1, h2⟩ := ob_ok h
  refine anyOK_by mixed piece_Ofc_ok (objs := []) (fn := Try.f38) (b := (Try.f38).body.getD .skip) (by kernel_rfl) (by kernel_rfl) (by kernel_rfl) (AllP.of (l' := []) (by kernel_rfl) trivial) ((piece_Of_eq x0 x1).trans h1) fun v objs' hd => ?_
  unfold piece_Ofd at hd
  split at hd
  · skip
    cases hd
    exact h2
  · cases hd

theorem piece_Ofo_ok (o : Orc) (ho : OSound Try.prog o) : OSound Try.prog (piece_Ofo o) := by
  intro R f vs objs K r h
  replace h : (bif Nat.beq f 38 then piece_Ofa o vs objs K else o f vs objs K) = some r := h
  cases hf : Nat.beq f 38 with
  | false => rw [hf] at h; exact ho f vs objs K r h
  | true =>
    rw [hf] at h
    have e := Nat.eq_of_beq_eq_true hf
    subst e
    replace h : piece_Ofa o vs objs K = some r := h
    unfold piece_Ofa at h
    split at h
    · skip
      exact piece_Of_ok _ _ rfl rfl h
    · exact ho _ _ _ _ _ h

def board_Startl7d : Ex → List V → List Obj → Option (Int × List Int × List Int × Int × List Int × List Int × Int × List Int) := fun e vs objs => match e, vs, objs with
  | Ex.exit 2, [V.s (S.ptr 0 0 none 0), V.s (S.ptr 1 0 none 0), V.s (S.ptr 2 0 none 0), V.s (S.i IntKind.i64 y0)], [Obj.cells 34 [Seg.arr IntKind.i8 81 y1, Seg.arr IntKind.i8 16 y2, Seg.one [S.i IntKind.i8 y3]], Obj.cells 34 [Seg.arr IntKind.i8 81 y4, Seg.arr IntKind.i8 16 y5, Seg.one [S.i IntKind.i8 y6]], Obj.cells 98 [Seg.arr IntKind.i64 9 y7]] => some (y0, y1, y2, y3, y4, y5, y6, y7)
  | _, _, _ => none

def board_Startl4d : Ex → List V → List Obj → Option (List Int × List Int × Int × List Int × List Int × Int) := fun e vs objs => match e, vs, objs with
  | Ex.exit 0, [V.s (S.ptr 0 0 none 0), V.s (S.ptr 1 0 none 0)], [Obj.cells 34 [Seg.arr IntKind.i8 81 y0, Seg.arr IntKind.i8 16 y1, Seg.one [S.i IntKind.i8 y2]], Obj.cells 34 [Seg.arr IntKind.i8 81 y3, Seg.arr IntKind.i8 16 y4, Seg.one [S.i IntKind.i8 y5]]] => some (y0, y1, y2, y3, y4, y5)
  | _, _, _ => none

def board_Startp7 {R : Type} (vs : List V) (objs : List Obj) (K : Ex → List V → List Obj → Option R) : Option R := match vs, objs with
  | [V.s (S.ptr 0 0 none 0), V.s (S.ptr 1 0 none 0), V.s (S.ptr 2 0 none 0), V.s (S.ptr 3 0 none 0), V.s (S.i IntKind.i64 x0), V.s (S.i IntKind.i64 x1)], [Obj.cells 34 [Seg.arr IntKind.i8 81 x2, Seg.arr IntKind.i8 16 x3, Seg.one [S.i IntKind.i8 x4]], Obj.cells 34 [Seg.arr IntKind.i8 81 x5, Seg.arr IntKind.i8 16 x6, Seg.one [S.i IntKind.i8 x7]], Obj.cells 98 [Seg.arr IntKind.i64 9 x8], Obj.cells 3 [Seg.one [S.i IntKind.i64 x9]]] => ob (board_Startl7 many x0 x1 x2 x3 x4 x5 x6 x7 x8 x9) fun z => K (Ex.exit 2) ([V.s (S.ptr 0 0 none 0), V.s (S.ptr 1 0 none 0), V.s (S.ptr 2 0 none 0), V.s (S.i IntKind.i64 (z.1))]) ([Obj.cells 34 [Seg.arr IntKind.i8 81 (z.2.1), Seg.arr IntKind.i8 16 (z.2.2.1), Seg.one [S.i IntKind.i8 (z.2.2.2.1)]], Obj.cells 34 [Seg.arr IntKind.i8 81 (z.2.2.2.2.1), Seg.arr IntKind.i8 16 (z.2.2.2.2.2.1), Seg.one [S.i IntKind.i8 (z.2.2.2.2.2.2.1)]], Obj.cells 98 [Seg.arr IntKind.i64 9 (z.2.2.2.2.2.2.2)]])
  | _, _ => none

def board_Startp4 {R : Type} (vs : List V) (objs : List Obj) (K : Ex → List V → List Obj → Option R) : Option R := match vs, objs with
  | [V.s (S.ptr 0 0 none 0), V.s (S.ptr 1 0 none 0), V.s (S.ptr 2 0 none 0), V.s (S.i IntKind.i64 x0)], [Obj.cells 34 [Seg.arr IntKind.i8 81 x1, Seg.arr IntKind.i8 16 x2, Seg.one [S.i IntKind.i8 x3]], Obj.cells 34 [Seg.arr IntKind.i8 81 x4, Seg.arr IntKind.i8 16 x5, Seg.one [S.i IntKind.i8 x6]], Obj.cells 98 [Seg.arr IntKind.i64 9 x7]] => ob (board_Startl4 many x0 x1 x2 x3 x4 x5 x6 x7) fun z => K (Ex.exit 0) ([V.s (S.ptr 0 0 none 0), V.s (S.ptr 1 0 none 0)]) ([Obj.cells 34 [Seg.arr IntKind.i8 81 (z.1), Seg.arr IntKind.i8 16 (z.2.1), Seg.one [S.i IntKind.i8 (z.2.2.1)]], Obj.cells 34 [Seg.arr IntKind.i8 81 (z.2.2.2.1), Seg.arr IntKind.i8 16 (z.2.2.2.2.1), Seg.one [S.i IntKind.i8 (z.2.2.2.2.2)]]])
  | _, _ => none

def board_Startlp : {R : Type} → Nat → List V → List Obj → (Ex → List V → List Obj → Option R) → Option R := fun q vs objs K => bif Nat.beq q 7 then board_Startp7 vs objs K else bif Nat.beq q 4 then board_Startp4 vs objs K else none

def board_Startoo : Orc := (set_Squareo (piece_Ofo (board_Start_1o oNil)))

theorem board_Startoo_ok : OSound Try.prog board_Startoo := (set_Squareo_ok _ (piece_Ofo_ok _ (board_Start_1o_ok _ oNil_ok)))

def board_Startc : Ctx := { tab := tab, eqs := eqs, bytes := bytes, nt := 44, orc := board_Startoo, keeps := [(4, [0, 1, 2, 7], [0, 1]), (7, [0, 1, 2, 3, 7, 10], [0, 1, 2, 7])], lp := board_Startlp }

theorem board_Startc_ok : CtxOK Try.prog board_Startc := ⟨tab_ok, board_Startoo_ok, eqs_ok, bytes_ok⟩

theorem board_Startl7_step (f : Nat) (x0 : Int) (x1 : Int) (x2 : List Int) (x3 : List Int) (x4 : Int) (x5 : List Int) (x6 : List Int) (x7 : Int) (x8 : List Int) (x9 : Int) : lrun board_Startc 0 [0, 1, 2, 3, 7, 10] [0, 1, 2, 7] (loopOf Try.f30 7) (f + 1) ([V.s (S.ptr 0 0 none 0), V.s (S.ptr 1 0 none 0), V.s (S.ptr 2 0 none 0), V.s (S.ptr 3 0 none 0), V.s (S.i IntKind.i64 x0), V.s (S.i IntKind.i64 x1)]) ([Obj.cells 34 [Seg.arr IntKind.i8 81 x2, Seg.arr IntKind.i8 16 x3, Seg.one [S.i IntKind.i8 x4]], Obj.cells 34 [Seg.arr IntKind.i8 81 x5, Seg.arr IntKind.i8 16 x6, Seg.one [S.i IntKind.i8 x7]], Obj.cells 98 [Seg.arr IntKind.i64 9 x8], Obj.cells 3 [Seg.one [S.i IntKind.i64 x9]]]) board_Startl7d = board_Startl7s (fun x0 x1 x2 x3 x4 x5 x6 x7 x8 x9 => lrun board_Startc 0 [0, 1, 2, 3, 7, 10] [0, 1, 2, 7] (loopOf Try.f30 7) f ([V.s (S.ptr 0 0 none 0), V.s (S.ptr 1 0 none 0), V.s (S.ptr 2 0 none 0), V.s (S.ptr 3 0 none 0), V.s (S.i IntKind.i64 x0), V.s (S.i IntKind.i64 x1)]) ([Obj.cells 34 [Seg.arr IntKind.i8 81 x2, Seg.arr IntKind.i8 16 x3, Seg.one [S.i IntKind.i8 x4]], Obj.cells 34 [Seg.arr IntKind.i8 81 x5, Seg.arr IntKind.i8 16 x6, Seg.one [S.i IntKind.i8 x7]], Obj.cells 98 [Seg.arr IntKind.i64 9 x8], Obj.cells 3 [Seg.one [S.i IntKind.i64 x9]]]) board_Startl7d) x0 x1 x2 x3 x4 x5 x6 x7 x8 x9 := by kernel_rfl

theorem board_Startl7_eq (f : Nat) : ∀ (x0 : Int) (x1 : Int) (x2 : List Int) (x3 : List Int) (x4 : Int) (x5 : List Int) (x6 : List Int) (x7 : Int) (x8 : List Int) (x9 : Int), lrun board_Startc 0 [0, 1, 2, 3, 7, 10] [0, 1, 2, 7] (loopOf Try.f30 7) f ([V.s (S.ptr 0 0 none 0), V.s (S.ptr 1 0 none 0), V.s (S.ptr 2 0 none 0), V.s (S.ptr 3 0 none 0), V.s (S.i IntKind.i64 x0), V.s (S.i IntKind.i64 x1)]) ([Obj.cells 34 [Seg.arr IntKind.i8 81 x2, Seg.arr IntKind.i8 16 x3, Seg.one [S.i IntKind.i8 x4]], Obj.cells 34 [Seg.arr IntKind.i8 81 x5, Seg.arr IntKind.i8 16 x6, Seg.one [S.i IntKind.i8 x7]], Obj.cells 98 [Seg.arr IntKind.i64 9 x8], Obj.cells 3 [Seg.one [S.i IntKind.i64 x9]]]) board_Startl7d = board_Startl7 f x0 x1 x2 x3 x4 x5 x6 x7 x8 x9 := by
  induction f with
  | zero => intros; rfl
  | succ f ih =>
    intro x0 x1 x2 x3 x4 x5 x6 x7 x8 x9
    rw [board_Startl7_step]
    have e : (fun x0 x1 x2 x3 x4 x5 x6 x7 x8 x9 => lrun board_Startc 0 [0, 1, 2, 3, 7, 10] [0, 1, 2, 7] (loopOf Try.f30 7) f ([V.s (S.ptr 0 0 none 0), V.s (S.ptr 1 0 none 0), V.s (S.ptr 2 0 none 0), V.s (S.ptr 3 0 none 0), V.s (S.i IntKind.i64 x0), V.s (S.i IntKind.i64 x1)]) ([Obj.cells 34 [Seg.arr IntKind.i8 81 x2, Seg.arr IntKind.i8 16 x3, Seg.one [S.i IntKind.i8 x4]], Obj.cells 34 [Seg.arr IntKind.i8 81 x5, Seg.arr IntKind.i8 16 x6, Seg.one [S.i IntKind.i8 x7]], Obj.cells 98 [Seg.arr IntKind.i64 9 x8], Obj.cells 3 [Seg.one [S.i IntKind.i64 x9]]]) board_Startl7d) = board_Startl7 f := by
      funext x0 x1 x2 x3 x4 x5 x6 x7 x8 x9
      exact ih x0 x1 x2 x3 x4 x5 x6 x7 x8 x9
    rw [e]
    rfl

theorem board_Startl4_step (f : Nat) (x0 : Int) (x1 : List Int) (x2 : List Int) (x3 : Int) (x4 : List Int) (x5 : List Int) (x6 : Int) (x7 : List Int) : lrun board_Startc 0 [0, 1, 2, 7] [0, 1] (loopOf Try.f30 4) (f + 1) ([V.s (S.ptr 0 0 none 0), V.s (S.ptr 1 0 none 0), V.s (S.ptr 2 0 none 0), V.s (S.i IntKind.i64 x0)]) ([Obj.cells 34 [Seg.arr IntKind.i8 81 x1, Seg.arr IntKind.i8 16 x2, Seg.one [S.i IntKind.i8 x3]], Obj.cells 34 [Seg.arr IntKind.i8 81 x4, Seg.arr IntKind.i8 16 x5, Seg.one [S.i IntKind.i8 x6]], Obj.cells 98 [Seg.arr IntKind.i64 9 x7]]) board_Startl4d = board_Startl4s (fun x0 x1 x2 x3 x4 x5 x6 x7 => lrun board_Startc 0 [0, 1, 2, 7] [0, 1] (loopOf Try.f30 4) f ([V.s (S.ptr 0 0 none 0), V.s (S.ptr 1 0 none 0), V.s (S.ptr 2 0 none 0), V.s (S.i IntKind.i64 x0)]) ([Obj.cells 34 [Seg.arr IntKind.i8 81 x1, Seg.arr IntKind.i8 16 x2, Seg.one [S.i IntKind.i8 x3]], Obj.cells 34 [Seg.arr IntKind.i8 81 x4, Seg.arr IntKind.i8 16 x5, Seg.one [S.i IntKind.i8 x6]], Obj.cells 98 [Seg.arr IntKind.i64 9 x7]]) board_Startl4d) x0 x1 x2 x3 x4 x5 x6 x7 := by kernel_rfl

theorem board_Startl4_eq (f : Nat) : ∀ (x0 : Int) (x1 : List Int) (x2 : List Int) (x3 : Int) (x4 : List Int) (x5 : List Int) (x6 : Int) (x7 : List Int), lrun board_Startc 0 [0, 1, 2, 7] [0, 1] (loopOf Try.f30 4) f ([V.s (S.ptr 0 0 none 0), V.s (S.ptr 1 0 none 0), V.s (S.ptr 2 0 none 0), V.s (S.i IntKind.i64 x0)]) ([Obj.cells 34 [Seg.arr IntKind.i8 81 x1, Seg.arr IntKind.i8 16 x2, Seg.one [S.i IntKind.i8 x3]], Obj.cells 34 [Seg.arr IntKind.i8 81 x4, Seg.arr IntKind.i8 16 x5, Seg.one [S.i IntKind.i8 x6]], Obj.cells 98 [Seg.arr IntKind.i64 9 x7]]) board_Startl4d = board_Startl4 f x0 x1 x2 x3 x4 x5 x6 x7 := by
  induction f with
  | zero => intros; rfl
  | succ f ih =>
    intro x0 x1 x2 x3 x4 x5 x6 x7
    rw [board_Startl4_step]
    have e : (fun x0 x1 x2 x3 x4 x5 x6 x7 => lrun board_Startc 0 [0, 1, 2, 7] [0, 1] (loopOf Try.f30 4) f ([V.s (S.ptr 0 0 none 0), V.s (S.ptr 1 0 none 0), V.s (S.ptr 2 0 none 0), V.s (S.i IntKind.i64 x0)]) ([Obj.cells 34 [Seg.arr IntKind.i8 81 x1, Seg.arr IntKind.i8 16 x2, Seg.one [S.i IntKind.i8 x3]], Obj.cells 34 [Seg.arr IntKind.i8 81 x4, Seg.arr IntKind.i8 16 x5, Seg.one [S.i IntKind.i8 x6]], Obj.cells 98 [Seg.arr IntKind.i64 9 x7]]) board_Startl4d) = board_Startl4 f := by
      funext x0 x1 x2 x3 x4 x5 x6 x7
      exact ih x0 x1 x2 x3 x4 x5 x6 x7
    rw [e]
    rfl

theorem board_Starts7 : LoopSound Try.prog board_Startc 0 (loopOf Try.f30 7) :=
  loopSound_by mixed board_Startc_ok (AllP.of (l' := []) (by kernel_rfl) trivial) (q := 7) (kin := [0, 1, 2, 3, 7, 10]) (kout := [0, 1, 2, 7]) (by kernel_rfl) (by kernel_rfl) fun vs objs K r h => by
    replace h : board_Startp7 vs objs K = some r := h
    unfold board_Startp7 at h
    split at h
    · skip
      obtain ⟨t, h1, h2⟩ := ob_ok h
      refine ⟨_, board_Startl7d, t, many, (board_Startl7_eq many _ _ _ _ _ _ _ _ _ _).trans h1, fun e vs' objs' hd => ?_⟩
      unfold board_Startl7d at hd
      split at hd
      · skip
        cases hd
        exact h2
      · cases hd
    · cases h

theorem board_Starts4 : LoopSound Try.prog board_Startc 0 (loopOf Try.f30 4) :=
  loopSound_by mixed board_Startc_ok (AllP.of (l' := [loopOf Try.f30 7]) (by kernel_rfl) ⟨board_Starts7, trivial⟩) (q := 4) (kin := [0, 1, 2, 7]) (kout := [0, 1]) (by kernel_rfl) (by kernel_rfl) fun vs objs K r h => by
    replace h : board_Startp4 vs objs K = some r := h
    unfold board_Startp4 at h
    split at h
    · skip
      obtain ⟨t, h1, h2⟩ := ob_ok h
      refine ⟨_, board_Startl4d, t, many, (board_Startl4_eq many _ _ _ _ _ _ _ _).trans h1, fun e vs' objs' hd => ?_⟩
      unfold board_Startl4d at hd
      split at hd
      · skip
        cases hd
        exact h2
      · cases hd
    · cases h

def board_Startd : V → List Obj → Option (List Int × List Int × Int) := fun v objs => match v, objs with
  | V.agg [Seg.arr IntKind.i8 81 y0, Seg.arr IntKind.i8 16 y1, Seg.one [S.i IntKind.i8 y2]], [] => some (y0, y1, y2)
  | _, _ => none

theorem board_Start_eq : fnE board_Startc Try.f30 ([]) ([]) board_Startd = board_Start  := by kernel_rfl

def board_Starta {R : Type} (o : Orc) (vs : List V) (objs : List Obj) (K : Bool → V → List Obj → Option R) : Option R := match vs, objs with
  | [], [] => ob (board_Start ) fun z => K false (V.agg [Seg.arr IntKind.i8 81 (z.1), Seg.arr IntKind.i8 16 (z.2.1), Seg.one [S.i IntKind.i8 (z.2.2)]]) ([])
  | _, _ => o 30 vs objs K

def board_Starto (o : Orc) : Orc := fun f vs objs K => bif Nat.beq f 30 then board_Starta o vs objs K else o f vs objs K

theorem board_Start_ok {vs : List V} {objs : List Obj} {R : Type} {K : Bool → V → List Obj → Option R} {r : R} (hv : vs = []) (ho : objs = []) (h : ob (board_Start ) (fun z => K false (V.agg [Seg.arr IntKind.i8 81 (z.1), Seg.arr IntKind.i8 16 (z.2.1), Seg.one [S.i IntKind.i8 (z.2.2)]]) ([])) = some r) :
    ∃ p v objs', K p v objs' = some r ∧ AnyOK Try.prog 30 vs objs p v objs' := by
  subst hv
  subst ho
  obtain ⟨t, h1, h2⟩ := ob_ok h
  refine anyOK_by mixed board_Startc_ok (objs := []) (fn := Try.f30) (b := (Try.f30).body.getD .skip) (by kernel_rfl) (by kernel_rfl) (by kernel_rfl) (AllP.of (l' := [loopOf Try.f30 4]) (by kernel_rfl) ⟨board_Starts4, trivial⟩) ((board_Start_eq ).trans h1) fun v objs' hd => ?_
  unfold board_Startd at hd
  split at hd
  · skip
    cases hd
    exact h2
  · cases hd

theorem board_Starto_ok (o : Orc) (ho : OSound Try.prog o) : OSound Try.prog (board_Starto o) := by
  intro R f vs objs K r h
  replace h : (bif Nat.beq f 30 then board_Starta o vs objs K else o f vs objs K) = some r := h
  cases hf : Nat.beq f 30 with
  | false => rw [hf] at h; exact ho f vs objs K r h
  | true =>
    rw [hf] at h
    have e := Nat.eq_of_beq_eq_true hf
    subst e
    replace h : board_Starta o vs objs K = some r := h
    unfold board_Starta at h
    split at h
    · skip
      exact board_Start_ok rfl rfl h
    · exact ho _ _ _ _ _ h

def set_bitlp : {R : Type} → Nat → List V → List Obj → (Ex → List V → List Obj → Option R) → Option R := fun _ _ _ _ => none

def set_bitoo : Orc := oNil

theorem set_bitoo_ok : OSound Try.prog set_bitoo := oNil_ok

def set_bitc : Ctx := { tab := tab, eqs := eqs, bytes := bytes, nt := 21, orc := set_bitoo, keeps := [], lp := set_bitlp }

theorem set_bitc_ok : CtxOK Try.prog set_bitc := ⟨tab_ok, set_bitoo_ok, eqs_ok, bytes_ok⟩

def set_bitd : V → List Obj → Option (Int × Int) := fun v objs => match v, objs with
  | V.agg [Seg.one [S.i IntKind.u64 y0, S.i IntKind.u64 y1]], [] => some (y0, y1)
  | _, _ => none

theorem set_bit_eq (x0 : Int) : fnE set_bitc Try.f61 ([V.s (S.i IntKind.i64 x0)]) ([]) set_bitd = set_bit x0 := by kernel_rfl

def set_bita {R : Type} (o : Orc) (vs : List V) (objs : List Obj) (K : Bool → V → List Obj → Option R) : Option R := match vs, objs with
  | [V.s (S.i IntKind.i64 x0)], [] => ob (set_bit x0) fun z => K false (V.agg [Seg.one [S.i IntKind.u64 (z.1), S.i IntKind.u64 (z.2)]]) ([])
  | _, _ => o 61 vs objs K

def set_bito (o : Orc) : Orc := fun f vs objs K => bif Nat.beq f 61 then set_bita o vs objs K else o f vs objs K

theorem set_bit_ok {vs : List V} {objs : List Obj} (x0 : Int) {R : Type} {K : Bool → V → List Obj → Option R} {r : R} (hv : vs = [V.s (S.i IntKind.i64 x0)]) (ho : objs = []) (h : ob (set_bit x0) (fun z => K false (V.agg [Seg.one [S.i IntKind.u64 (z.1), S.i IntKind.u64 (z.2)]]) ([])) = some r) :
    ∃ p v objs', K p v objs' = some r ∧ AnyOK Try.prog 61 vs objs p v objs' := by
  subst hv
  subst ho
  obtain ⟨t, h1, h2⟩ := ob_ok h
  refine anyOK_by mixed set_bitc_ok (objs := []) (fn := Try.f61) (b := (Try.f61).body.getD .skip) (by kernel_rfl) (by kernel_rfl) (by kernel_rfl) (AllP.of (l' := []) (by kernel_rfl) trivial) ((set_bit_eq x0).trans h1) fun v objs' hd => ?_
  unfold set_bitd at hd
  split at hd
  · skip
    cases hd
    exact h2
  · cases hd

theorem set_bito_ok (o : Orc) (ho : OSound Try.prog o) : OSound Try.prog (set_bito o) := by
  intro R f vs objs K r h
  replace h : (bif Nat.beq f 61 then set_bita o vs objs K else o f vs objs K) = some r := h
  cases hf : Nat.beq f 61 with
  | false => rw [hf] at h; exact ho f vs objs K r h
  | true =>
    rw [hf] at h
    have e := Nat.eq_of_beq_eq_true hf
    subst e
    replace h : set_bita o vs objs K = some r := h
    unfold set_bita at h
    split at h
    · skip
      exact set_bit_ok _ rfl rfl h
    · exact ho _ _ _ _ _ h

def set_Minuslp : {R : Type} → Nat → List V → List Obj → (Ex → List V → List Obj → Option R) → Option R := fun _ _ _ _ => none

def set_Minusoo : Orc := oNil

theorem set_Minusoo_ok : OSound Try.prog set_Minusoo := oNil_ok

def set_Minusc : Ctx := { tab := tab, eqs := eqs, bytes := bytes, nt := 16, orc := set_Minusoo, keeps := [], lp := set_Minuslp }

theorem set_Minusc_ok : CtxOK Try.prog set_Minusc := ⟨tab_ok, set_Minusoo_ok, eqs_ok, bytes_ok⟩

def set_Minusd : V → List Obj → Option (Int × Int) := fun v objs => match v, objs with
  | V.agg [Seg.one [S.i IntKind.u64 y0, S.i IntKind.u64 y1]], [] => some (y0, y1)
  | _, _ => none

theorem set_Minus_eq (x0 : Int) (x1 : Int) (x2 : Int) (x3 : Int) : fnE set_Minusc Try.f60 ([V.agg [Seg.one [S.i IntKind.u64 x0, S.i IntKind.u64 x1]], V.agg [Seg.one [S.i IntKind.u64 x2, S.i IntKind.u64 x3]]]) ([]) set_Minusd = set_Minus x0 x1 x2 x3 := by kernel_rfl

def set_Minusa {R : Type} (o : Orc) (vs : List V) (objs : List Obj) (K : Bool → V → List Obj → Option R) : Option R := match vs, objs with
  | [V.agg [Seg.one [S.i IntKind.u64 x0, S.i IntKind.u64 x1]], V.agg [Seg.one [S.i IntKind.u64 x2, S.i IntKind.u64 x3]]], [] => ob (set_Minus x0 x1 x2 x3) fun z => K false (V.agg [Seg.one [S.i IntKind.u64 (z.1), S.i IntKind.u64 (z.2)]]) ([])
  | _, _ => o 60 vs objs K

def set_Minuso (o : Orc) : Orc := fun f vs objs K => bif Nat.beq f 60 then set_Minusa o vs objs K else o f vs objs K

theorem set_Minus_ok {vs : List V} {objs : List Obj} (x0 : Int) (x1 : Int) (x2 : Int) (x3 : Int) {R : Type} {K : Bool → V → List Obj → Option R} {r : R} (hv : vs = [V.agg [Seg.one [S.i IntKind.u64 x0, S.i IntKind.u64 x1]], V.agg [Seg.one [S.i IntKind.u64 x2, S.i IntKind.u64 x3]]]) (ho : objs = []) (h : ob (set_Minus x0 x1 x2 x3) (fun z => K false (V.agg [Seg.one [S.i IntKind.u64 (z.1), S.i IntKind.u64 (z.2)]]) ([])) = some r) :
    ∃ p v objs', K p v objs' = some r ∧ AnyOK Try.prog 60 vs objs p v objs' := by
  subst hv
  subst ho
  obtain ⟨t, h1, h2⟩ := ob_ok h
  refine anyOK_by mixed set_Minusc_ok (objs := []) (fn := Try.f60) (b := (Try.f60).body.getD .skip) (by kernel_rfl) (by kernel_rfl) (by kernel_rfl) (AllP.of (l' := []) (by kernel_rfl) trivial) ((set_Minus_eq x0 x1 x2 x3).trans h1) fun v objs' hd => ?_
  unfold set_Minusd at hd
  split at hd
  · skip
    cases hd
    exact h2
  · cases hd

theorem set_Minuso_ok (o : Orc) (ho : OSound Try.prog o) : OSound Try.prog (set_Minuso o) := by
  intro R f vs objs K r h
  replace h : (bif Nat.beq f 60 then set_Minusa o vs objs K else o f vs objs K) = some r := h
  cases hf : Nat.beq f 60 with
  | false => rw [hf] at h; exact ho f vs objs K r h
  | true =>
    rw [hf] at h
    have e := Nat.eq_of_beq_eq_true hf
    subst e
    replace h : set_Minusa o vs objs K = some r := h
    unfold set_Minusa at h
    split at h
    · skip
      exact set_Minus_ok _ _ _ _ rfl rfl h
    · exact ho _ _ _ _ _ h

def set_Withoutlp : {R : Type} → Nat → List V → List Obj → (Ex → List V → List Obj → Option R) → Option R := fun _ _ _ _ => none

def set_Withoutoo : Orc := (set_Minuso (set_bito oNil))

theorem set_Withoutoo_ok : OSound Try.prog set_Withoutoo := (set_Minuso_ok _ (set_bito_ok _ oNil_ok))

def set_Withoutc : Ctx := { tab := tab, eqs := eqs, bytes := bytes, nt := 9, orc := set_Withoutoo, keeps := [], lp := set_Withoutlp }

theorem set_Withoutc_ok : CtxOK Try.prog set_Withoutc := ⟨tab_ok, set_Withoutoo_ok, eqs_ok, bytes_ok⟩

def set_Withoutd : V → List Obj → Option (Int × Int) := fun v objs => match v, objs with
  | V.agg [Seg.one [S.i IntKind.u64 y0, S.i IntKind.u64 y1]], [] => some (y0, y1)
  | _, _ => none

theorem set_Without_eq (x0 : Int) (x1 : Int) (x2 : Int) : fnE set_Withoutc Try.f58 ([V.agg [Seg.one [S.i IntKind.u64 x0, S.i IntKind.u64 x1]], V.s (S.i IntKind.i64 x2)]) ([]) set_Withoutd = set_Without x0 x1 x2 := by kernel_rfl

def set_Withouta {R : Type} (o : Orc) (vs : List V) (objs : List Obj) (K : Bool → V → List Obj → Option R) : Option R := match vs, objs with
  | [V.agg [Seg.one [S.i IntKind.u64 x0, S.i IntKind.u64 x1]], V.s (S.i IntKind.i64 x2)], [] => ob (set_Without x0 x1 x2) fun z => K false (V.agg [Seg.one [S.i IntKind.u64 (z.1), S.i IntKind.u64 (z.2)]]) ([])
  | _, _ => o 58 vs objs K

def set_Withouto (o : Orc) : Orc := fun f vs objs K => bif Nat.beq f 58 then set_Withouta o vs objs K else o f vs objs K

theorem set_Without_ok {vs : List V} {objs : List Obj} (x0 : Int) (x1 : Int) (x2 : Int) {R : Type} {K : Bool → V → List Obj → Option R} {r : R} (hv : vs = [V.agg [Seg.one [S.i IntKind.u64 x0, S.i IntKind.u64 x1]], V.s (S.i IntKind.i64 x2)]) (ho : objs = []) (h : ob (set_Without x0 x1 x2) (fun z => K false (V.agg [Seg.one [S.i IntKind.u64 (z.1), S.i IntKind.u64 (z.2)]]) ([])) = some r) :
    ∃ p v objs', K p v objs' = some r ∧ AnyOK Try.prog 58 vs objs p v objs' := by
  subst hv
  subst ho
  obtain ⟨t, h1, h2⟩ := ob_ok h
  refine anyOK_by mixed set_Withoutc_ok (objs := []) (fn := Try.f58) (b := (Try.f58).body.getD .skip) (by kernel_rfl) (by kernel_rfl) (by kernel_rfl) (AllP.of (l' := []) (by kernel_rfl) trivial) ((set_Without_eq x0 x1 x2).trans h1) fun v objs' hd => ?_
  unfold set_Withoutd at hd
  split at hd
  · skip
    cases hd
    exact h2
  · cases hd

theorem set_Withouto_ok (o : Orc) (ho : OSound Try.prog o) : OSound Try.prog (set_Withouto o) := by
  intro R f vs objs K r h
  replace h : (bif Nat.beq f 58 then set_Withouta o vs objs K else o f vs objs K) = some r := h
  cases hf : Nat.beq f 58 with
  | false => rw [hf] at h; exact ho f vs objs K r h
  | true =>
    rw [hf] at h
    have e := Nat.eq_of_beq_eq_true hf
    subst e
    replace h : set_Withouta o vs objs K = some r := h
    unfold set_Withouta at h
    split at h
    · skip
      exact set_Without_ok _ _ _ rfl rfl h
    · exact ho _ _ _ _ _ h

def piece_Kindlp : {R : Type} → Nat → List V → List Obj → (Ex → List V → List Obj → Option R) → Option R := fun _ _ _ _ => none

def piece_Kindoo : Orc := oNil

theorem piece_Kindoo_ok : OSound Try.prog piece_Kindoo := oNil_ok

def piece_Kindc : Ctx := { tab := tab, eqs := eqs, bytes := bytes, nt := 28, orc := piece_Kindoo, keeps := [], lp := piece_Kindlp }

theorem piece_Kindc_ok : CtxOK Try.prog piece_Kindc := ⟨tab_ok, piece_Kindoo_ok, eqs_ok, bytes_ok⟩

def piece_Kindd : V → List Obj → Option (Int) := fun v objs => match v, objs with
  | V.s (S.i IntKind.i64 y0), [] => some (y0)
  | _, _ => none

theorem piece_Kind_eq (x0 : Int) : fnE piece_Kindc Try.f42 ([V.s (S.i IntKind.i8 x0)]) ([]) piece_Kindd = piece_Kind x0 := by kernel_rfl

def piece_Kinda {R : Type} (o : Orc) (vs : List V) (objs : List Obj) (K : Bool → V → List Obj → Option R) : Option R := match vs, objs with
  | [V.s (S.i IntKind.i8 x0)], [] => ob (piece_Kind x0) fun y0 => K false (V.s (S.i IntKind.i64 y0)) ([])
  | _, _ => o 42 vs objs K

def piece_Kindo (o : Orc) : Orc := fun f vs objs K => bif Nat.beq f 42 then piece_Kinda o vs objs K else o f vs objs K

theorem piece_Kind_ok {vs : List V} {objs : List Obj} (x0 : Int) {R : Type} {K : Bool → V → List Obj → Option R} {r : R} (hv : vs = [V.s (S.i IntKind.i8 x0)]) (ho : objs = []) (h : ob (piece_Kind x0) (fun y0 => K false (V.s (S.i IntKind.i64 y0)) ([])) = some r) :
    ∃ p v objs', K p v objs' = some r ∧ AnyOK Try.prog 42 vs objs p v objs' := by
  subst hv
  subst ho
  obtain ⟨t, h1, h2⟩ := ob_ok h
  refine anyOK_by mixed piece_Kindc_ok (objs := []) (fn := Try.f42) (b := (Try.f42).body.getD .skip) (by kernel_rfl) (by kernel_rfl) (by kernel_rfl) (AllP.of (l' := []) (by kernel_rfl) trivial) ((piece_Kind_eq x0).trans h1) fun v objs' hd => ?_
  unfold piece_Kindd at hd
  split at hd
  · skip
    cases hd
    exact h2
  · cases hd

theorem piece_Kindo_ok (o : Orc) (ho : OSound Try.prog o) : OSound Try.prog (piece_Kindo o) := by
  intro R f vs objs K r h
  replace h : (bif Nat.beq f 42 then piece_Kinda o vs objs K else o f vs objs K) = some r := h
  cases hf : Nat.beq f 42 with
  | false => rw [hf] at h; exact ho f vs objs K r h
  | true =>
    rw [hf] at h
    have e := Nat.eq_of_beq_eq_true hf
    subst e
    replace h : piece_Kinda o vs objs K = some r := h
    unfold piece_Kinda at h
    split at h
    · skip
      exact piece_Kind_ok _ rfl rfl h
    · exact ho _ _ _ _ _ h

def piece_Sidelp : {R : Type} → Nat → List V → List Obj → (Ex → List V → List Obj → Option R) → Option R := fun _ _ _ _ => none

def piece_Sideoo : Orc := (piece_Kindo oNil)

theorem piece_Sideoo_ok : OSound Try.prog piece_Sideoo := (piece_Kindo_ok _ oNil_ok)

def piece_Sidec : Ctx := { tab := tab, eqs := eqs, bytes := bytes, nt := 10, orc := piece_Sideoo, keeps := [], lp := piece_Sidelp }

theorem piece_Sidec_ok : CtxOK Try.prog piece_Sidec := ⟨tab_ok, piece_Sideoo_ok, eqs_ok, bytes_ok⟩

def piece_Sided : V → List Obj → Option (Int) := fun v objs => match v, objs with
  | V.s (S.i IntKind.i64 y0), [] => some (y0)
  | _, _ => none

theorem piece_Side_eq (x0 : Int) : fnE piece_Sidec Try.f51 ([V.s (S.i IntKind.i8 x0)]) ([]) piece_Sided = piece_Side x0 := by kernel_rfl

def piece_Sidea {R : Type} (o : Orc) (vs : List V) (objs : List Obj) (K : Bool → V → List Obj → Option R) : Option R := match vs, objs with
  | [V.s (S.i IntKind.i8 x0)], [] => ob (piece_Side x0) fun y0 => K false (V.s (S.i IntKind.i64 y0)) ([])
  | _, _ => o 51 vs objs K

def piece_Sideo (o : Orc) : Orc := fun f vs objs K => bif Nat.beq f 51 then piece_Sidea o vs objs K else o f vs objs K

theorem piece_Side_ok {vs : List V} {objs : List Obj} (x0 : Int) {R : Type} {K : Bool → V → List Obj → Option R} {r : R} (hv : vs = [V.s (S.i IntKind.i8 x0)]) (ho : objs = []) (h : ob (piece_Side x0) (fun y0 => K false (V.s (S.i IntKind.i64 y0)) ([])) = some r) :
    ∃ p v objs', K p v objs' = some r ∧ AnyOK Try.prog 51 vs objs p v objs' := by
  subst hv
  subst ho
  obtain ⟨t, h1, h2⟩ := ob_ok h
  refine anyOK_by mixed piece_Sidec_ok (objs := []) (fn := Try.f51) (b := (Try.f51).body.getD .skip) (by kernel_rfl) (by kernel_rfl) (by kernel_rfl) (AllP.of (l' := []) (by kernel_rfl) trivial) ((piece_Side_eq x0).trans h1) fun v objs' hd => ?_
  unfold piece_Sided at hd
  split at hd
  · skip
    cases hd
    exact h2
  · cases hd

theorem piece_Sideo_ok (o : Orc) (ho : OSound Try.prog o) : OSound Try.prog (piece_Sideo o) := by
  intro R f vs objs K r h
  replace h : (bif Nat.beq f 51 then piece_Sidea o vs objs K else o f vs objs K) = some r := h
  cases hf : Nat.beq f 51 with
  | false => rw [hf] at h; exact ho f vs objs K r h
  | true =>
    rw [hf] at h
    have e := Nat.eq_of_beq_eq_true hf
    subst e
    replace h : piece_Sidea o vs objs K = some r := h
    unfold piece_Sidea at h
    split at h
    · skip
      exact piece_Side_ok _ rfl rfl h
    · exact ho _ _ _ _ _ h

def set_Orlp : {R : Type} → Nat → List V → List Obj → (Ex → List V → List Obj → Option R) → Option R := fun _ _ _ _ => none

def set_Oroo : Orc := oNil

theorem set_Oroo_ok : OSound Try.prog set_Oroo := oNil_ok

def set_Orc : Ctx := { tab := tab, eqs := eqs, bytes := bytes, nt := 16, orc := set_Oroo, keeps := [], lp := set_Orlp }

theorem set_Orc_ok : CtxOK Try.prog set_Orc := ⟨tab_ok, set_Oroo_ok, eqs_ok, bytes_ok⟩

def set_Ord : V → List Obj → Option (Int × Int) := fun v objs => match v, objs with
  | V.agg [Seg.one [S.i IntKind.u64 y0, S.i IntKind.u64 y1]], [] => some (y0, y1)
  | _, _ => none

theorem set_Or_eq (x0 : Int) (x1 : Int) (x2 : Int) (x3 : Int) : fnE set_Orc Try.f62 ([V.agg [Seg.one [S.i IntKind.u64 x0, S.i IntKind.u64 x1]], V.agg [Seg.one [S.i IntKind.u64 x2, S.i IntKind.u64 x3]]]) ([]) set_Ord = set_Or x0 x1 x2 x3 := by kernel_rfl

def set_Ora {R : Type} (o : Orc) (vs : List V) (objs : List Obj) (K : Bool → V → List Obj → Option R) : Option R := match vs, objs with
  | [V.agg [Seg.one [S.i IntKind.u64 x0, S.i IntKind.u64 x1]], V.agg [Seg.one [S.i IntKind.u64 x2, S.i IntKind.u64 x3]]], [] => ob (set_Or x0 x1 x2 x3) fun z => K false (V.agg [Seg.one [S.i IntKind.u64 (z.1), S.i IntKind.u64 (z.2)]]) ([])
  | _, _ => o 62 vs objs K

def set_Oro (o : Orc) : Orc := fun f vs objs K => bif Nat.beq f 62 then set_Ora o vs objs K else o f vs objs K

theorem set_Or_ok {vs : List V} {objs : List Obj} (x0 : Int) (x1 : Int) (x2 : Int) (x3 : Int) {R : Type} {K : Bool → V → List Obj → Option R} {r : R} (hv : vs = [V.agg [Seg.one [S.i IntKind.u64 x0, S.i IntKind.u64 x1]], V.agg [Seg.one [S.i IntKind.u64 x2, S.i IntKind.u64 x3]]]) (ho : objs = []) (h : ob (set_Or x0 x1 x2 x3) (fun z => K false (V.agg [Seg.one [S.i IntKind.u64 (z.1), S.i IntKind.u64 (z.2)]]) ([])) = some r) :
    ∃ p v objs', K p v objs' = some r ∧ AnyOK Try.prog 62 vs objs p v objs' := by
  subst hv
  subst ho
  obtain ⟨t, h1, h2⟩ := ob_ok h
  refine anyOK_by mixed set_Orc_ok (objs := []) (fn := Try.f62) (b := (Try.f62).body.getD .skip) (by kernel_rfl) (by kernel_rfl) (by kernel_rfl) (AllP.of (l' := []) (by kernel_rfl) trivial) ((set_Or_eq x0 x1 x2 x3).trans h1) fun v objs' hd => ?_
  unfold set_Ord at hd
  split at hd
  · skip
    cases hd
    exact h2
  · cases hd

theorem set_Oro_ok (o : Orc) (ho : OSound Try.prog o) : OSound Try.prog (set_Oro o) := by
  intro R f vs objs K r h
  replace h : (bif Nat.beq f 62 then set_Ora o vs objs K else o f vs objs K) = some r := h
  cases hf : Nat.beq f 62 with
  | false => rw [hf] at h; exact ho f vs objs K r h
  | true =>
    rw [hf] at h
    have e := Nat.eq_of_beq_eq_true hf
    subst e
    replace h : set_Ora o vs objs K = some r := h
    unfold set_Ora at h
    split at h
    · skip
      exact set_Or_ok _ _ _ _ rfl rfl h
    · exact ho _ _ _ _ _ h

def set_Withlp : {R : Type} → Nat → List V → List Obj → (Ex → List V → List Obj → Option R) → Option R := fun _ _ _ _ => none

def set_Withoo : Orc := (set_Oro (set_bito oNil))

theorem set_Withoo_ok : OSound Try.prog set_Withoo := (set_Oro_ok _ (set_bito_ok _ oNil_ok))

def set_Withc : Ctx := { tab := tab, eqs := eqs, bytes := bytes, nt := 9, orc := set_Withoo, keeps := [], lp := set_Withlp }

theorem set_Withc_ok : CtxOK Try.prog set_Withc := ⟨tab_ok, set_Withoo_ok, eqs_ok, bytes_ok⟩

def set_Withd : V → List Obj → Option (Int × Int) := fun v objs => match v, objs with
  | V.agg [Seg.one [S.i IntKind.u64 y0, S.i IntKind.u64 y1]], [] => some (y0, y1)
  | _, _ => none

theorem set_With_eq (x0 : Int) (x1 : Int) (x2 : Int) : fnE set_Withc Try.f59 ([V.agg [Seg.one [S.i IntKind.u64 x0, S.i IntKind.u64 x1]], V.s (S.i IntKind.i64 x2)]) ([]) set_Withd = set_With x0 x1 x2 := by kernel_rfl

def set_Witha {R : Type} (o : Orc) (vs : List V) (objs : List Obj) (K : Bool → V → List Obj → Option R) : Option R := match vs, objs with
  | [V.agg [Seg.one [S.i IntKind.u64 x0, S.i IntKind.u64 x1]], V.s (S.i IntKind.i64 x2)], [] => ob (set_With x0 x1 x2) fun z => K false (V.agg [Seg.one [S.i IntKind.u64 (z.1), S.i IntKind.u64 (z.2)]]) ([])
  | _, _ => o 59 vs objs K

def set_Witho (o : Orc) : Orc := fun f vs objs K => bif Nat.beq f 59 then set_Witha o vs objs K else o f vs objs K

theorem set_With_ok {vs : List V} {objs : List Obj} (x0 : Int) (x1 : Int) (x2 : Int) {R : Type} {K : Bool → V → List Obj → Option R} {r : R} (hv : vs = [V.agg [Seg.one [S.i IntKind.u64 x0, S.i IntKind.u64 x1]], V.s (S.i IntKind.i64 x2)]) (ho : objs = []) (h : ob (set_With x0 x1 x2) (fun z => K false (V.agg [Seg.one [S.i IntKind.u64 (z.1), S.i IntKind.u64 (z.2)]]) ([])) = some r) :
    ∃ p v objs', K p v objs' = some r ∧ AnyOK Try.prog 59 vs objs p v objs' := by
  subst hv
  subst ho
  obtain ⟨t, h1, h2⟩ := ob_ok h
  refine anyOK_by mixed set_Withc_ok (objs := []) (fn := Try.f59) (b := (Try.f59).body.getD .skip) (by kernel_rfl) (by kernel_rfl) (by kernel_rfl) (AllP.of (l' := []) (by kernel_rfl) trivial) ((set_With_eq x0 x1 x2).trans h1) fun v objs' hd => ?_
  unfold set_Withd at hd
  split at hd
  · skip
    cases hd
    exact h2
  · cases hd

theorem set_Witho_ok (o : Orc) (ho : OSound Try.prog o) : OSound Try.prog (set_Witho o) := by
  intro R f vs objs K r h
  replace h : (bif Nat.beq f 59 then set_Witha o vs objs K else o f vs objs K) = some r := h
  cases hf : Nat.beq f 59 with
  | false => rw [hf] at h; exact ho f vs objs K r h
  | true =>
    rw [hf] at h
    have e := Nat.eq_of_beq_eq_true hf
    subst e
    replace h : set_Witha o vs objs K = some r := h
    unfold set_Witha at h
    split at h
    · skip
      exact set_With_ok _ _ _ rfl rfl h
    · exact ho _ _ _ _ _ h

def board_Putlp : {R : Type} → Nat → List V → List Obj → (Ex → List V → List Obj → Option R) → Option R := fun _ _ _ _ => none

def board_Putoo : Orc := (set_Witho (piece_Kindo (piece_Sideo (set_Withouto oNil))))

theorem board_Putoo_ok : OSound Try.prog board_Putoo := (set_Witho_ok _ (piece_Kindo_ok _ (piece_Sideo_ok _ (set_Withouto_ok _ oNil_ok))))

def board_Putc : Ctx := { tab := tab, eqs := eqs, bytes := bytes, nt := 90, orc := board_Putoo, keeps := [], lp := board_Putlp }

theorem board_Putc_ok : CtxOK Try.prog board_Putc := ⟨tab_ok, board_Putoo_ok, eqs_ok, bytes_ok⟩

def board_Putd : V → List Obj → Option (List Int × List Int × Int × List (List Int) × List (List Int)) := fun v objs => match v, objs with
  | V.tup [], [Obj.cells 69 [Seg.arr IntKind.i8 81 y0, Seg.arr IntKind.i8 16 y1, Seg.one [S.i IntKind.i8 y2], Seg.rows [.i .u64, .i .u64] 32 y3, Seg.rows [.i .u64, .i .u64] 2 y4]] => some (y0, y1, y2, y3, y4)
  | _, _ => none

theorem board_Put_eq (x0 : Int) (x1 : Int) (x2 : List Int) (x3 : List Int) (x4 : Int) (x5 : List (List Int)) (x6 : List (List Int)) : fnE board_Putc Try.f48 ([V.s (S.ptr 0 0 none 0), V.s (S.i IntKind.i64 x0), V.s (S.i IntKind.i8 x1)]) ([Obj.cells 69 [Seg.arr IntKind.i8 81 x2, Seg.arr IntKind.i8 16 x3, Seg.one [S.i IntKind.i8 x4], Seg.rows [.i .u64, .i .u64] 32 x5, Seg.rows [.i .u64, .i .u64] 2 x6]]) board_Putd = board_Put x0 x1 x2 x3 x4 x5 x6 := by kernel_rfl

def board_Puta {R : Type} (o : Orc) (vs : List V) (objs : List Obj) (K : Bool → V → List Obj → Option R) : Option R := match vs, objs with
  | [V.s (S.ptr 0 0 none 0), V.s (S.i IntKind.i64 x0), V.s (S.i IntKind.i8 x1)], [Obj.cells 69 [Seg.arr IntKind.i8 81 x2, Seg.arr IntKind.i8 16 x3, Seg.one [S.i IntKind.i8 x4], Seg.rows [.i .u64, .i .u64] 32 x5, Seg.rows [.i .u64, .i .u64] 2 x6]] => ob (board_Put x0 x1 x2 x3 x4 x5 x6) fun z => K false (V.tup []) ([Obj.cells 69 [Seg.arr IntKind.i8 81 (z.1), Seg.arr IntKind.i8 16 (z.2.1), Seg.one [S.i IntKind.i8 (z.2.2.1)], Seg.rows [.i .u64, .i .u64] 32 (z.2.2.2.1), Seg.rows [.i .u64, .i .u64] 2 (z.2.2.2.2)]])
  | _, _ => o 48 vs objs K

def board_Puto (o : Orc) : Orc := fun f vs objs K => bif Nat.beq f 48 then board_Puta o vs objs K else o f vs objs K

theorem board_Put_ok {vs : List V} {objs : List Obj} (x0 : Int) (x1 : Int) (x2 : List Int) (x3 : List Int) (x4 : Int) (x5 : List (List Int)) (x6 : List (List Int)) {R : Type} {K : Bool → V → List Obj → Option R} {r : R} (hv : vs = [V.s (S.ptr 0 0 none 0), V.s (S.i IntKind.i64 x0), V.s (S.i IntKind.i8 x1)]) (ho : objs = [Obj.cells 69 [Seg.arr IntKind.i8 81 x2, Seg.arr IntKind.i8 16 x3, Seg.one [S.i IntKind.i8 x4], Seg.rows [.i .u64, .i .u64] 32 x5, Seg.rows [.i .u64, .i .u64] 2 x6]]) (h : ob (board_Put x0 x1 x2 x3 x4 x5 x6) (fun z => K false (V.tup []) ([Obj.cells 69 [Seg.arr IntKind.i8 81 (z.1), Seg.arr IntKind.i8 16 (z.2.1), Seg.one [S.i IntKind.i8 (z.2.2.1)], Seg.rows [.i .u64, .i .u64] 32 (z.2.2.2.1), Seg.rows [.i .u64, .i .u64] 2 (z.2.2.2.2)]])) = some r) :
    ∃ p v objs', K p v objs' = some r ∧ AnyOK Try.prog 48 vs objs p v objs' := by
  subst hv
  subst ho
  obtain ⟨t, h1, h2⟩ := ob_ok h
  refine anyOK_by mixed board_Putc_ok (objs := [Obj.cells 69 [Seg.arr IntKind.i8 81 x2, Seg.arr IntKind.i8 16 x3, Seg.one [S.i IntKind.i8 x4], Seg.rows [.i .u64, .i .u64] 32 x5, Seg.rows [.i .u64, .i .u64] 2 x6]]) (fn := Try.f48) (b := (Try.f48).body.getD .skip) (by kernel_rfl) (by kernel_rfl) (by kernel_rfl) (AllP.of (l' := []) (by kernel_rfl) trivial) ((board_Put_eq x0 x1 x2 x3 x4 x5 x6).trans h1) fun v objs' hd => ?_
  unfold board_Putd at hd
  split at hd
  · skip
    cases hd
    exact h2
  · cases hd

theorem board_Puto_ok (o : Orc) (ho : OSound Try.prog o) : OSound Try.prog (board_Puto o) := by
  intro R f vs objs K r h
  replace h : (bif Nat.beq f 48 then board_Puta o vs objs K else o f vs objs K) = some r := h
  cases hf : Nat.beq f 48 with
  | false => rw [hf] at h; exact ho f vs objs K r h
  | true =>
    rw [hf] at h
    have e := Nat.eq_of_beq_eq_true hf
    subst e
    replace h : board_Puta o vs objs K = some r := h
    unfold board_Puta at h
    split at h
    · skip
      exact board_Put_ok _ _ _ _ _ _ _ rfl rfl h
    · exact ho _ _ _ _ _ h

def board_Newl4d : Ex → List V → List Obj → Option (List Int × List Int × Int × List (List Int) × List (List Int)) := fun e vs objs => match e, vs, objs with
  | Ex.exit 0, [V.s (S.ptr 0 0 none 0)], [Obj.cells 69 [Seg.arr IntKind.i8 81 y0, Seg.arr IntKind.i8 16 y1, Seg.one [S.i IntKind.i8 y2], Seg.rows [.i .u64, .i .u64] 32 y3, Seg.rows [.i .u64, .i .u64] 2 y4]] => some (y0, y1, y2, y3, y4)
  | _, _, _ => none

def board_Newp4 {R : Type} (vs : List V) (objs : List Obj) (K : Ex → List V → List Obj → Option R) : Option R := match vs, objs with
  | [V.s (S.ptr 0 0 none 0), V.agg [Seg.arr IntKind.i8 81 x0], V.s (S.i IntKind.i64 x1)], [Obj.cells 69 [Seg.arr IntKind.i8 81 x2, Seg.arr IntKind.i8 16 x3, Seg.one [S.i IntKind.i8 x4], Seg.rows [.i .u64, .i .u64] 32 x5, Seg.rows [.i .u64, .i .u64] 2 x6]] => ob (board_Newl4 many x0 x1 x2 x3 x4 x5 x6) fun z => K (Ex.exit 0) ([V.s (S.ptr 0 0 none 0)]) ([Obj.cells 69 [Seg.arr IntKind.i8 81 (z.1), Seg.arr IntKind.i8 16 (z.2.1), Seg.one [S.i IntKind.i8 (z.2.2.1)], Seg.rows [.i .u64, .i .u64] 32 (z.2.2.2.1), Seg.rows [.i .u64, .i .u64] 2 (z.2.2.2.2)]])
  | _, _ => none

def board_Newlp : {R : Type} → Nat → List V → List Obj → (Ex → List V → List Obj → Option R) → Option R := fun q vs objs K => bif Nat.beq q 4 then board_Newp4 vs objs K else none

def board_Newoo : Orc := (board_Puto oNil)

theorem board_Newoo_ok : OSound Try.prog board_Newoo := (board_Puto_ok _ oNil_ok)

def board_Newc : Ctx := { tab := tab, eqs := eqs, bytes := bytes, nt := 32, orc := board_Newoo, keeps := [(4, [3, 21, 22], [3])], lp := board_Newlp }

theorem board_Newc_ok : CtxOK Try.prog board_Newc := ⟨tab_ok, board_Newoo_ok, eqs_ok, bytes_ok⟩

theorem board_Newl4_step (f : Nat) (x0 : List Int) (x1 : Int) (x2 : List Int) (x3 : List Int) (x4 : Int) (x5 : List (List Int)) (x6 : List (List Int)) : lrun board_Newc 0 [3, 21, 22] [3] (loopOf Try.f24 4) (f + 1) ([V.s (S.ptr 0 0 none 0), V.agg [Seg.arr IntKind.i8 81 x0], V.s (S.i IntKind.i64 x1)]) ([Obj.cells 69 [Seg.arr IntKind.i8 81 x2, Seg.arr IntKind.i8 16 x3, Seg.one [S.i IntKind.i8 x4], Seg.rows [.i .u64, .i .u64] 32 x5, Seg.rows [.i .u64, .i .u64] 2 x6]]) board_Newl4d = board_Newl4s (fun x0 x1 x2 x3 x4 x5 x6 => lrun board_Newc 0 [3, 21, 22] [3] (loopOf Try.f24 4) f ([V.s (S.ptr 0 0 none 0), V.agg [Seg.arr IntKind.i8 81 x0], V.s (S.i IntKind.i64 x1)]) ([Obj.cells 69 [Seg.arr IntKind.i8 81 x2, Seg.arr IntKind.i8 16 x3, Seg.one [S.i IntKind.i8 x4], Seg.rows [.i .u64, .i .u64] 32 x5, Seg.rows [.i .u64, .i .u64] 2 x6]]) board_Newl4d) x0 x1 x2 x3 x4 x5 x6 := by kernel_rfl

theorem board_Newl4_eq (f : Nat) : ∀ (x0 : List Int) (x1 : Int) (x2 : List Int) (x3 : List Int) (x4 : Int) (x5 : List (List Int)) (x6 : List (List Int)), lrun board_Newc 0 [3, 21, 22] [3] (loopOf Try.f24 4) f ([V.s (S.ptr 0 0 none 0), V.agg [Seg.arr IntKind.i8 81 x0], V.s (S.i IntKind.i64 x1)]) ([Obj.cells 69 [Seg.arr IntKind.i8 81 x2, Seg.arr IntKind.i8 16 x3, Seg.one [S.i IntKind.i8 x4], Seg.rows [.i .u64, .i .u64] 32 x5, Seg.rows [.i .u64, .i .u64] 2 x6]]) board_Newl4d = board_Newl4 f x0 x1 x2 x3 x4 x5 x6 := by
  induction f with
  | zero => intros; rfl
  | succ f ih =>
    intro x0 x1 x2 x3 x4 x5 x6
    rw [board_Newl4_step]
    have e : (fun x0 x1 x2 x3 x4 x5 x6 => lrun board_Newc 0 [3, 21, 22] [3] (loopOf Try.f24 4) f ([V.s (S.ptr 0 0 none 0), V.agg [Seg.arr IntKind.i8 81 x0], V.s (S.i IntKind.i64 x1)]) ([Obj.cells 69 [Seg.arr IntKind.i8 81 x2, Seg.arr IntKind.i8 16 x3, Seg.one [S.i IntKind.i8 x4], Seg.rows [.i .u64, .i .u64] 32 x5, Seg.rows [.i .u64, .i .u64] 2 x6]]) board_Newl4d) = board_Newl4 f := by
      funext x0 x1 x2 x3 x4 x5 x6
      exact ih x0 x1 x2 x3 x4 x5 x6
    rw [e]
    rfl

theorem board_News4 : LoopSound Try.prog board_Newc 0 (loopOf Try.f24 4) :=
  loopSound_by mixed board_Newc_ok (AllP.of (l' := []) (by kernel_rfl) trivial) (q := 4) (kin := [3, 21, 22]) (kout := [3]) (by kernel_rfl) (by kernel_rfl) fun vs objs K r h => by
    replace h : board_Newp4 vs objs K = some r := h
    unfold board_Newp4 at h
    split at h
    · skip
      obtain ⟨t, h1, h2⟩ := ob_ok h
      refine ⟨_, board_Newl4d, t, many, (board_Newl4_eq many _ _ _ _ _ _ _).trans h1, fun e vs' objs' hd => ?_⟩
      unfold board_Newl4d at hd
      split at hd
      · skip
        cases hd
        exact h2
      · cases hd
    · cases h

def board_Newd : V → List Obj → Option (List Int × List Int × Int × List (List Int) × List (List Int)) := fun v objs => match v, objs with
  | V.s (S.ptr 0 0 none 0), [Obj.cells 69 [Seg.arr IntKind.i8 81 y0, Seg.arr IntKind.i8 16 y1, Seg.one [S.i IntKind.i8 y2], Seg.rows [.i .u64, .i .u64] 32 y3, Seg.rows [.i .u64, .i .u64] 2 y4]] => some (y0, y1, y2, y3, y4)
  | _, _ => none

theorem board_New_eq (x0 : List Int) (x1 : List Int) (x2 : Int) : fnE board_Newc Try.f24 ([V.agg [Seg.arr IntKind.i8 81 x0, Seg.arr IntKind.i8 16 x1, Seg.one [S.i IntKind.i8 x2]]]) ([]) board_Newd = board_New x0 x1 x2 := by kernel_rfl

def board_Newa {R : Type} (o : Orc) (vs : List V) (objs : List Obj) (K : Bool → V → List Obj → Option R) : Option R := match vs, objs with
  | [V.agg [Seg.arr IntKind.i8 81 x0, Seg.arr IntKind.i8 16 x1, Seg.one [S.i IntKind.i8 x2]]], [] => ob (board_New x0 x1 x2) fun z => K false (V.s (S.ptr 0 0 none 0)) ([Obj.cells 69 [Seg.arr IntKind.i8 81 (z.1), Seg.arr IntKind.i8 16 (z.2.1), Seg.one [S.i IntKind.i8 (z.2.2.1)], Seg.rows [.i .u64, .i .u64] 32 (z.2.2.2.1), Seg.rows [.i .u64, .i .u64] 2 (z.2.2.2.2)]])
  | _, _ => o 24 vs objs K

def board_Newo (o : Orc) : Orc := fun f vs objs K => bif Nat.beq f 24 then board_Newa o vs objs K else o f vs objs K

theorem board_New_ok {vs : List V} {objs : List Obj} (x0 : List Int) (x1 : List Int) (x2 : Int) {R : Type} {K : Bool → V → List Obj → Option R} {r : R} (hv : vs = [V.agg [Seg.arr IntKind.i8 81 x0, Seg.arr IntKind.i8 16 x1, Seg.one [S.i IntKind.i8 x2]]]) (ho : objs = []) (h : ob (board_New x0 x1 x2) (fun z => K false (V.s (S.ptr 0 0 none 0)) ([Obj.cells 69 [Seg.arr IntKind.i8 81 (z.1), Seg.arr IntKind.i8 16 (z.2.1), Seg.one [S.i IntKind.i8 (z.2.2.1)], Seg.rows [.i .u64, .i .u64] 32 (z.2.2.2.1), Seg.rows [.i .u64, .i .u64] 2 (z.2.2.2.2)]])) = some r) :
    ∃ p v objs', K p v objs' = some r ∧ AnyOK Try.prog 24 vs objs p v objs' := by
  subst hv
  subst ho
  obtain ⟨t, h1, h2⟩ := ob_ok h
  refine anyOK_by mixed board_Newc_ok (objs := []) (fn := Try.f24) (b := (Try.f24).body.getD .skip) (by kernel_rfl) (by kernel_rfl) (by kernel_rfl) (AllP.of (l' := [loopOf Try.f24 4]) (by kernel_rfl) ⟨board_News4, trivial⟩) ((board_New_eq x0 x1 x2).trans h1) fun v objs' hd => ?_
  unfold board_Newd at hd
  split at hd
  · skip
    cases hd
    exact h2
  · cases hd

theorem board_Newo_ok (o : Orc) (ho : OSound Try.prog o) : OSound Try.prog (board_Newo o) := by
  intro R f vs objs K r h
  replace h : (bif Nat.beq f 24 then board_Newa o vs objs K else o f vs objs K) = some r := h
  cases hf : Nat.beq f 24 with
  | false => rw [hf] at h; exact ho f vs objs K r h
  | true =>
    rw [hf] at h
    have e := Nat.eq_of_beq_eq_true hf
    subst e
    replace h : board_Newa o vs objs K = some r := h
    unfold board_Newa at h
    split at h
    · skip
      exact board_New_ok _ _ _ rfl rfl h
    · exact ho _ _ _ _ _ h

def key_mixlp : {R : Type} → Nat → List V → List Obj → (Ex → List V → List Obj → Option R) → Option R := fun _ _ _ _ => none

def key_mixoo : Orc := oNil

theorem key_mixoo_ok : OSound Try.prog key_mixoo := oNil_ok

def key_mixc : Ctx := { tab := tab, eqs := eqs, bytes := bytes, nt := 19, orc := key_mixoo, keeps := [], lp := key_mixlp }

theorem key_mixc_ok : CtxOK Try.prog key_mixc := ⟨tab_ok, key_mixoo_ok, eqs_ok, bytes_ok⟩

def key_mixd : V → List Obj → Option (Int) := fun v objs => match v, objs with
  | V.s (S.i IntKind.u64 y0), [] => some (y0)
  | _, _ => none

theorem key_mix_eq (x0 : Int) : fnE key_mixc Try.f57 ([V.s (S.i IntKind.u64 x0)]) ([]) key_mixd = key_mix x0 := by kernel_rfl

def key_mixa {R : Type} (o : Orc) (vs : List V) (objs : List Obj) (K : Bool → V → List Obj → Option R) : Option R := match vs, objs with
  | [V.s (S.i IntKind.u64 x0)], [] => ob (key_mix x0) fun y0 => K false (V.s (S.i IntKind.u64 y0)) ([])
  | _, _ => o 57 vs objs K

def key_mixo (o : Orc) : Orc := fun f vs objs K => bif Nat.beq f 57 then key_mixa o vs objs K else o f vs objs K

theorem key_mix_ok {vs : List V} {objs : List Obj} (x0 : Int) {R : Type} {K : Bool → V → List Obj → Option R} {r : R} (hv : vs = [V.s (S.i IntKind.u64 x0)]) (ho : objs = []) (h : ob (key_mix x0) (fun y0 => K false (V.s (S.i IntKind.u64 y0)) ([])) = some r) :
    ∃ p v objs', K p v objs' = some r ∧ AnyOK Try.prog 57 vs objs p v objs' := by
  subst hv
  subst ho
  obtain ⟨t, h1, h2⟩ := ob_ok h
  refine anyOK_by mixed key_mixc_ok (objs := []) (fn := Try.f57) (b := (Try.f57).body.getD .skip) (by kernel_rfl) (by kernel_rfl) (by kernel_rfl) (AllP.of (l' := []) (by kernel_rfl) trivial) ((key_mix_eq x0).trans h1) fun v objs' hd => ?_
  unfold key_mixd at hd
  split at hd
  · skip
    cases hd
    exact h2
  · cases hd

theorem key_mixo_ok (o : Orc) (ho : OSound Try.prog o) : OSound Try.prog (key_mixo o) := by
  intro R f vs objs K r h
  replace h : (bif Nat.beq f 57 then key_mixa o vs objs K else o f vs objs K) = some r := h
  cases hf : Nat.beq f 57 with
  | false => rw [hf] at h; exact ho f vs objs K r h
  | true =>
    rw [hf] at h
    have e := Nat.eq_of_beq_eq_true hf
    subst e
    replace h : key_mixa o vs objs K = some r := h
    unfold key_mixa at h
    split at h
    · skip
      exact key_mix_ok _ rfl rfl h
    · exact ho _ _ _ _ _ h

def key_Piecelp : {R : Type} → Nat → List V → List Obj → (Ex → List V → List Obj → Option R) → Option R := fun _ _ _ _ => none

def key_Pieceoo : Orc := (key_mixo (piece_Kindo oNil))

theorem key_Pieceoo_ok : OSound Try.prog key_Pieceoo := (key_mixo_ok _ (piece_Kindo_ok _ oNil_ok))

def key_Piecec : Ctx := { tab := tab, eqs := eqs, bytes := bytes, nt := 23, orc := key_Pieceoo, keeps := [], lp := key_Piecelp }

theorem key_Piecec_ok : CtxOK Try.prog key_Piecec := ⟨tab_ok, key_Pieceoo_ok, eqs_ok, bytes_ok⟩

def key_Pieced : V → List Obj → Option (Int) := fun v objs => match v, objs with
  | V.s (S.i IntKind.u64 y0), [] => some (y0)
  | _, _ => none

theorem key_Piece_eq (x0 : Int) (x1 : Int) : fnE key_Piecec Try.f45 ([V.s (S.i IntKind.i64 x0), V.s (S.i IntKind.i8 x1)]) ([]) key_Pieced = key_Piece x0 x1 := by kernel_rfl

def key_Piecea {R : Type} (o : Orc) (vs : List V) (objs : List Obj) (K : Bool → V → List Obj → Option R) : Option R := match vs, objs with
  | [V.s (S.i IntKind.i64 x0), V.s (S.i IntKind.i8 x1)], [] => ob (key_Piece x0 x1) fun y0 => K false (V.s (S.i IntKind.u64 y0)) ([])
  | _, _ => o 45 vs objs K

def key_Pieceo (o : Orc) : Orc := fun f vs objs K => bif Nat.beq f 45 then key_Piecea o vs objs K else o f vs objs K

theorem key_Piece_ok {vs : List V} {objs : List Obj} (x0 : Int) (x1 : Int) {R : Type} {K : Bool → V → List Obj → Option R} {r : R} (hv : vs = [V.s (S.i IntKind.i64 x0), V.s (S.i IntKind.i8 x1)]) (ho : objs = []) (h : ob (key_Piece x0 x1) (fun y0 => K false (V.s (S.i IntKind.u64 y0)) ([])) = some r) :
    ∃ p v objs', K p v objs' = some r ∧ AnyOK Try.prog 45 vs objs p v objs' := by
  subst hv
  subst ho
  obtain ⟨t, h1, h2⟩ := ob_ok h
  refine anyOK_by mixed key_Piecec_ok (objs := []) (fn := Try.f45) (b := (Try.f45).body.getD .skip) (by kernel_rfl) (by kernel_rfl) (by kernel_rfl) (AllP.of (l' := []) (by kernel_rfl) trivial) ((key_Piece_eq x0 x1).trans h1) fun v objs' hd => ?_
  unfold key_Pieced at hd
  split at hd
  · skip
    cases hd
    exact h2
  · cases hd

theorem key_Pieceo_ok (o : Orc) (ho : OSound Try.prog o) : OSound Try.prog (key_Pieceo o) := by
  intro R f vs objs K r h
  replace h : (bif Nat.beq f 45 then key_Piecea o vs objs K else o f vs objs K) = some r := h
  cases hf : Nat.beq f 45 with
  | false => rw [hf] at h; exact ho f vs objs K r h
  | true =>
    rw [hf] at h
    have e := Nat.eq_of_beq_eq_true hf
    subst e
    replace h : key_Piecea o vs objs K = some r := h
    unfold key_Piecea at h
    split at h
    · skip
      exact key_Piece_ok _ _ rfl rfl h
    · exact ho _ _ _ _ _ h

def key_Handlp : {R : Type} → Nat → List V → List Obj → (Ex → List V → List Obj → Option R) → Option R := fun _ _ _ _ => none

def key_Handoo : Orc := (key_mixo oNil)

theorem key_Handoo_ok : OSound Try.prog key_Handoo := (key_mixo_ok _ oNil_ok)

def key_Handc : Ctx := { tab := tab, eqs := eqs, bytes := bytes, nt := 41, orc := key_Handoo, keeps := [], lp := key_Handlp }

theorem key_Handc_ok : CtxOK Try.prog key_Handc := ⟨tab_ok, key_Handoo_ok, eqs_ok, bytes_ok⟩

def key_Handd : V → List Obj → Option (Int) := fun v objs => match v, objs with
  | V.s (S.i IntKind.u64 y0), [] => some (y0)
  | _, _ => none

theorem key_Hand_eq (x0 : Int) (x1 : Int) (x2 : Int) : fnE key_Handc Try.f46 ([V.s (S.i IntKind.i64 x0), V.s (S.i IntKind.i64 x1), V.s (S.i IntKind.i64 x2)]) ([]) key_Handd = key_Hand x0 x1 x2 := by kernel_rfl

def key_Handa {R : Type} (o : Orc) (vs : List V) (objs : List Obj) (K : Bool → V → List Obj → Option R) : Option R := match vs, objs with
  | [V.s (S.i IntKind.i64 x0), V.s (S.i IntKind.i64 x1), V.s (S.i IntKind.i64 x2)], [] => ob (key_Hand x0 x1 x2) fun y0 => K false (V.s (S.i IntKind.u64 y0)) ([])
  | _, _ => o 46 vs objs K

def key_Hando (o : Orc) : Orc := fun f vs objs K => bif Nat.beq f 46 then key_Handa o vs objs K else o f vs objs K

theorem key_Hand_ok {vs : List V} {objs : List Obj} (x0 : Int) (x1 : Int) (x2 : Int) {R : Type} {K : Bool → V → List Obj → Option R} {r : R} (hv : vs = [V.s (S.i IntKind.i64 x0), V.s (S.i IntKind.i64 x1), V.s (S.i IntKind.i64 x2)]) (ho : objs = []) (h : ob (key_Hand x0 x1 x2) (fun y0 => K false (V.s (S.i IntKind.u64 y0)) ([])) = some r) :
    ∃ p v objs', K p v objs' = some r ∧ AnyOK Try.prog 46 vs objs p v objs' := by
  subst hv
  subst ho
  obtain ⟨t, h1, h2⟩ := ob_ok h
  refine anyOK_by mixed key_Handc_ok (objs := []) (fn := Try.f46) (b := (Try.f46).body.getD .skip) (by kernel_rfl) (by kernel_rfl) (by kernel_rfl) (AllP.of (l' := []) (by kernel_rfl) trivial) ((key_Hand_eq x0 x1 x2).trans h1) fun v objs' hd => ?_
  unfold key_Handd at hd
  split at hd
  · skip
    cases hd
    exact h2
  · cases hd

theorem key_Hando_ok (o : Orc) (ho : OSound Try.prog o) : OSound Try.prog (key_Hando o) := by
  intro R f vs objs K r h
  replace h : (bif Nat.beq f 46 then key_Handa o vs objs K else o f vs objs K) = some r := h
  cases hf : Nat.beq f 46 with
  | false => rw [hf] at h; exact ho f vs objs K r h
  | true =>
    rw [hf] at h
    have e := Nat.eq_of_beq_eq_true hf
    subst e
    replace h : key_Handa o vs objs K = some r := h
    unfold key_Handa at h
    split at h
    · skip
      exact key_Hand_ok _ _ _ rfl rfl h
    · exact ho _ _ _ _ _ h

def key_Sidelp : {R : Type} → Nat → List V → List Obj → (Ex → List V → List Obj → Option R) → Option R := fun _ _ _ _ => none

def key_Sideoo : Orc := (key_mixo oNil)

theorem key_Sideoo_ok : OSound Try.prog key_Sideoo := (key_mixo_ok _ oNil_ok)

def key_Sidec : Ctx := { tab := tab, eqs := eqs, bytes := bytes, nt := 2, orc := key_Sideoo, keeps := [], lp := key_Sidelp }

theorem key_Sidec_ok : CtxOK Try.prog key_Sidec := ⟨tab_ok, key_Sideoo_ok, eqs_ok, bytes_ok⟩

def key_Sided : V → List Obj → Option (Int) := fun v objs => match v, objs with
  | V.s (S.i IntKind.u64 y0), [] => some (y0)
  | _, _ => none

theorem key_Side_eq : fnE key_Sidec Try.f47 ([]) ([]) key_Sided = key_Side  := by kernel_rfl

def key_Sidea {R : Type} (o : Orc) (vs : List V) (objs : List Obj) (K : Bool → V → List Obj → Option R) : Option R := match vs, objs with
  | [], [] => ob (key_Side ) fun y0 => K false (V.s (S.i IntKind.u64 y0)) ([])
  | _, _ => o 47 vs objs K

def key_Sideo (o : Orc) : Orc := fun f vs objs K => bif Nat.beq f 47 then key_Sidea o vs objs K else o f vs objs K

theorem key_Side_ok {vs : List V} {objs : List Obj} {R : Type} {K : Bool → V → List Obj → Option R} {r : R} (hv : vs = []) (ho : objs = []) (h : ob (key_Side ) (fun y0 => K false (V.s (S.i IntKind.u64 y0)) ([])) = some r) :
    ∃ p v objs', K p v objs' = some r ∧ AnyOK Try.prog 47 vs objs p v objs' := by
  subst hv
  subst ho
  obtain ⟨t, h1, h2⟩ := ob_ok h
  refine anyOK_by mixed key_Sidec_ok (objs := []) (fn := Try.f47) (b := (Try.f47).body.getD .skip) (by kernel_rfl) (by kernel_rfl) (by kernel_rfl) (AllP.of (l' := []) (by kernel_rfl) trivial) ((key_Side_eq ).trans h1) fun v objs' hd => ?_
  unfold key_Sided at hd
  split at hd
  · skip
    cases hd
    exact h2
  · cases hd

theorem key_Sideo_ok (o : Orc) (ho : OSound Try.prog o) : OSound Try.prog (key_Sideo o) := by
  intro R f vs objs K r h
  replace h : (bif Nat.beq f 47 then key_Sidea o vs objs K else o f vs objs K) = some r := h
  cases hf : Nat.beq f 47 with
  | false => rw [hf] at h; exact ho f vs objs K r h
  | true =>
    rw [hf] at h
    have e := Nat.eq_of_beq_eq_true hf
    subst e
    replace h : key_Sidea o vs objs K = some r := h
    unfold key_Sidea at h
    split at h
    · skip
      exact key_Side_ok rfl rfl h
    · exact ho _ _ _ _ _ h

def key_Ofl3d : Ex → List V → List Obj → Option (Int × List Int × List Int × Int) := fun e vs objs => match e, vs, objs with
  | Ex.exit 0, [V.s (S.ptr 0 0 none 0), V.s (S.i IntKind.u64 y0)], [Obj.cells 34 [Seg.arr IntKind.i8 81 y1, Seg.arr IntKind.i8 16 y2, Seg.one [S.i IntKind.i8 y3]]] => some (y0, y1, y2, y3)
  | _, _, _ => none

def key_Ofl11d : Ex → List V → List Obj → Option (Int × List Int × Int × List Int × List Int × Int) := fun e vs objs => match e, vs, objs with
  | Ex.exit 4, [V.s (S.ptr 0 0 none 0), V.s (S.i IntKind.u64 y0), V.agg [Seg.arr IntKind.i8 16 y1], V.s (S.i IntKind.i64 y2)], [Obj.cells 34 [Seg.arr IntKind.i8 81 y3, Seg.arr IntKind.i8 16 y4, Seg.one [S.i IntKind.i8 y5]]] => some (y0, y1, y2, y3, y4, y5)
  | _, _, _ => none

def key_Ofl8d : Ex → List V → List Obj → Option (Int × List Int × List Int × Int) := fun e vs objs => match e, vs, objs with
  | Ex.exit 2, [V.s (S.ptr 0 0 none 0), V.s (S.i IntKind.u64 y0)], [Obj.cells 34 [Seg.arr IntKind.i8 81 y1, Seg.arr IntKind.i8 16 y2, Seg.one [S.i IntKind.i8 y3]]] => some (y0, y1, y2, y3)
  | _, _, _ => none

def key_Ofp3 {R : Type} (vs : List V) (objs : List Obj) (K : Ex → List V → List Obj → Option R) : Option R := match vs, objs with
  | [V.s (S.ptr 0 0 none 0), V.s (S.i IntKind.u64 x0), V.agg [Seg.arr IntKind.i8 81 x1], V.s (S.i IntKind.i64 x2)], [Obj.cells 34 [Seg.arr IntKind.i8 81 x3, Seg.arr IntKind.i8 16 x4, Seg.one [S.i IntKind.i8 x5]]] => ob (key_Ofl3 many x0 x1 x2 x3 x4 x5) fun z => K (Ex.exit 0) ([V.s (S.ptr 0 0 none 0), V.s (S.i IntKind.u64 (z.1))]) ([Obj.cells 34 [Seg.arr IntKind.i8 81 (z.2.1), Seg.arr IntKind.i8 16 (z.2.2.1), Seg.one [S.i IntKind.i8 (z.2.2.2)]]])
  | _, _ => none

def key_Ofp11 {R : Type} (vs : List V) (objs : List Obj) (K : Ex → List V → List Obj → Option R) : Option R := match vs, objs with
  | [V.s (S.ptr 0 0 none 0), V.s (S.i IntKind.u64 x0), V.s (S.i IntKind.i64 x1), V.agg [Seg.arr IntKind.i8 16 x2], V.s (S.i IntKind.i64 x3), V.agg [Seg.arr IntKind.i8 8 x4], V.s (S.i IntKind.i64 x5)], [Obj.cells 34 [Seg.arr IntKind.i8 81 x6, Seg.arr IntKind.i8 16 x7, Seg.one [S.i IntKind.i8 x8]]] => ob (key_Ofl11 many x0 x1 x2 x3 x4 x5 x6 x7 x8) fun z => K (Ex.exit 4) ([V.s (S.ptr 0 0 none 0), V.s (S.i IntKind.u64 (z.1)), V.agg [Seg.arr IntKind.i8 16 (z.2.1)], V.s (S.i IntKind.i64 (z.2.2.1))]) ([Obj.cells 34 [Seg.arr IntKind.i8 81 (z.2.2.2.1), Seg.arr IntKind.i8 16 (z.2.2.2.2.1), Seg.one [S.i IntKind.i8 (z.2.2.2.2.2)]]])
  | _, _ => none

def key_Ofp8 {R : Type} (vs : List V) (objs : List Obj) (K : Ex → List V → List Obj → Option R) : Option R := match vs, objs with
  | [V.s (S.ptr 0 0 none 0), V.s (S.i IntKind.u64 x0), V.agg [Seg.arr IntKind.i8 16 x1], V.s (S.i IntKind.i64 x2)], [Obj.cells 34 [Seg.arr IntKind.i8 81 x3, Seg.arr IntKind.i8 16 x4, Seg.one [S.i IntKind.i8 x5]]] => ob (key_Ofl8 many x0 x1 x2 x3 x4 x5) fun z => K (Ex.exit 2) ([V.s (S.ptr 0 0 none 0), V.s (S.i IntKind.u64 (z.1))]) ([Obj.cells 34 [Seg.arr IntKind.i8 81 (z.2.1), Seg.arr IntKind.i8 16 (z.2.2.1), Seg.one [S.i IntKind.i8 (z.2.2.2)]]])
  | _, _ => none

def key_Oflp : {R : Type} → Nat → List V → List Obj → (Ex → List V → List Obj → Option R) → Option R := fun q vs objs K => bif Nat.beq q 3 then key_Ofp3 vs objs K else bif Nat.beq q 11 then key_Ofp11 vs objs K else bif Nat.beq q 8 then key_Ofp8 vs objs K else none

def key_Ofoo : Orc := (key_Sideo (key_Hando (key_Pieceo oNil)))

theorem key_Ofoo_ok : OSound Try.prog key_Ofoo := (key_Sideo_ok _ (key_Hando_ok _ (key_Pieceo_ok _ oNil_ok)))

def key_Ofc : Ctx := { tab := tab, eqs := eqs, bytes := bytes, nt := 49, orc := key_Ofoo, keeps := [(3, [1, 3, 11, 12], [1, 3]), (8, [1, 3, 23, 24], [1, 3]), (11, [1, 3, 6, 23, 24, 28, 29], [1, 3, 23, 24])], lp := key_Oflp }

theorem key_Ofc_ok : CtxOK Try.prog key_Ofc := ⟨tab_ok, key_Ofoo_ok, eqs_ok, bytes_ok⟩

theorem key_Ofl3_step (f : Nat) (x0 : Int) (x1 : List Int) (x2 : Int) (x3 : List Int) (x4 : List Int) (x5 : Int) : lrun key_Ofc 0 [1, 3, 11, 12] [1, 3] (loopOf Try.f23 3) (f + 1) ([V.s (S.ptr 0 0 none 0), V.s (S.i IntKind.u64 x0), V.agg [Seg.arr IntKind.i8 81 x1], V.s (S.i IntKind.i64 x2)]) ([Obj.cells 34 [Seg.arr IntKind.i8 81 x3, Seg.arr IntKind.i8 16 x4, Seg.one [S.i IntKind.i8 x5]]]) key_Ofl3d = key_Ofl3s (fun x0 x1 x2 x3 x4 x5 => lrun key_Ofc 0 [1, 3, 11, 12] [1, 3] (loopOf Try.f23 3) f ([V.s (S.ptr 0 0 none 0), V.s (S.i IntKind.u64 x0), V.agg [Seg.arr IntKind.i8 81 x1], V.s (S.i IntKind.i64 x2)]) ([Obj.cells 34 [Seg.arr IntKind.i8 81 x3, Seg.arr IntKind.i8 16 x4, Seg.one [S.i IntKind.i8 x5]]]) key_Ofl3d) x0 x1 x2 x3 x4 x5 := by kernel_rfl

theorem key_Ofl3_eq (f : Nat) : ∀ (x0 : Int) (x1 : List Int) (x2 : Int) (x3 : List Int) (x4 : List Int) (x5 : Int), lrun key_Ofc 0 [1, 3, 11, 12] [1, 3] (loopOf Try.f23 3) f ([V.s (S.ptr 0 0 none 0), V.s (S.i IntKind.u64 x0), V.agg [Seg.arr IntKind.i8 81 x1], V.s (S.i IntKind.i64 x2)]) ([Obj.cells 34 [Seg.arr IntKind.i8 81 x3, Seg.arr IntKind.i8 16 x4, Seg.one [S.i IntKind.i8 x5]]]) key_Ofl3d = key_Ofl3 f x0 x1 x2 x3 x4 x5 := by
  induction f with
  | zero => intros; rfl
  | succ f ih =>
    intro x0 x1 x2 x3 x4 x5
    rw [key_Ofl3_step]
    have e : (fun x0 x1 x2 x3 x4 x5 => lrun key_Ofc 0 [1, 3, 11, 12] [1, 3] (loopOf Try.f23 3) f ([V.s (S.ptr 0 0 none 0), V.s (S.i IntKind.u64 x0), V.agg [Seg.arr IntKind.i8 81 x1], V.s (S.i IntKind.i64 x2)]) ([Obj.cells 34 [Seg.arr IntKind.i8 81 x3, Seg.arr IntKind.i8 16 x4, Seg.one [S.i IntKind.i8 x5]]]) key_Ofl3d) = key_Ofl3 f := by
      funext x0 x1 x2 x3 x4 x5
      exact ih x0 x1 x2 x3 x4 x5
    rw [e]
    rfl

theorem key_Ofl11_step (f : Nat) (x0 : Int) (x1 : Int) (x2 : List Int) (x3 : Int) (x4 : List Int) (x5 : Int) (x6 : List Int) (x7 : List Int) (x8 : Int) : lrun key_Ofc 0 [1, 3, 6, 23, 24, 28, 29] [1, 3, 23, 24] (loopOf Try.f23 11) (f + 1) ([V.s (S.ptr 0 0 none 0), V.s (S.i IntKind.u64 x0), V.s (S.i IntKind.i64 x1), V.agg [Seg.arr IntKind.i8 16 x2], V.s (S.i IntKind.i64 x3), V.agg [Seg.arr IntKind.i8 8 x4], V.s (S.i IntKind.i64 x5)]) ([Obj.cells 34 [Seg.arr IntKind.i8 81 x6, Seg.arr IntKind.i8 16 x7, Seg.one [S.i IntKind.i8 x8]]]) key_Ofl11d = key_Ofl11s (fun x0 x1 x2 x3 x4 x5 x6 x7 x8 => lrun key_Ofc 0 [1, 3, 6, 23, 24, 28, 29] [1, 3, 23, 24] (loopOf Try.f23 11) f ([V.s (S.ptr 0 0 none 0), V.s (S.i IntKind.u64 x0), V.s (S.i IntKind.i64 x1), V.agg [Seg.arr IntKind.i8 16 x2], V.s (S.i IntKind.i64 x3), V.agg [Seg.arr IntKind.i8 8 x4], V.s (S.i IntKind.i64 x5)]) ([Obj.cells 34 [Seg.arr IntKind.i8 81 x6, Seg.arr IntKind.i8 16 x7, Seg.one [S.i IntKind.i8 x8]]]) key_Ofl11d) x0 x1 x2 x3 x4 x5 x6 x7 x8 := by kernel_rfl

theorem key_Ofl11_eq (f : Nat) : ∀ (x0 : Int) (x1 : Int) (x2 : List Int) (x3 : Int) (x4 : List Int) (x5 : Int) (x6 : List Int) (x7 : List Int) (x8 : Int), lrun key_Ofc 0 [1, 3, 6, 23, 24, 28, 29] [1, 3, 23, 24] (loopOf Try.f23 11) f ([V.s (S.ptr 0 0 none 0), V.s (S.i IntKind.u64 x0), V.s (S.i IntKind.i64 x1), V.agg [Seg.arr IntKind.i8 16 x2], V.s (S.i IntKind.i64 x3), V.agg [Seg.arr IntKind.i8 8 x4], V.s (S.i IntKind.i64 x5)]) ([Obj.cells 34 [Seg.arr IntKind.i8 81 x6, Seg.arr IntKind.i8 16 x7, Seg.one [S.i IntKind.i8 x8]]]) key_Ofl11d = key_Ofl11 f x0 x1 x2 x3 x4 x5 x6 x7 x8 := by
  induction f with
  | zero => intros; rfl
  | succ f ih =>
    intro x0 x1 x2 x3 x4 x5 x6 x7 x8
    rw [key_Ofl11_step]
    have e : (fun x0 x1 x2 x3 x4 x5 x6 x7 x8 => lrun key_Ofc 0 [1, 3, 6, 23, 24, 28, 29] [1, 3, 23, 24] (loopOf Try.f23 11) f ([V.s (S.ptr 0 0 none 0), V.s (S.i IntKind.u64 x0), V.s (S.i IntKind.i64 x1), V.agg [Seg.arr IntKind.i8 16 x2], V.s (S.i IntKind.i64 x3), V.agg [Seg.arr IntKind.i8 8 x4], V.s (S.i IntKind.i64 x5)]) ([Obj.cells 34 [Seg.arr IntKind.i8 81 x6, Seg.arr IntKind.i8 16 x7, Seg.one [S.i IntKind.i8 x8]]]) key_Ofl11d) = key_Ofl11 f := by
      funext x0 x1 x2 x3 x4 x5 x6 x7 x8
      exact ih x0 x1 x2 x3 x4 x5 x6 x7 x8
    rw [e]
    rfl

theorem key_Ofl8_step (f : Nat) (x0 : Int) (x1 : List Int) (x2 : Int) (x3 : List Int) (x4 : List Int) (x5 : Int) : lrun key_Ofc 0 [1, 3, 23, 24] [1, 3] (loopOf Try.f23 8) (f + 1) ([V.s (S.ptr 0 0 none 0), V.s (S.i IntKind.u64 x0), V.agg [Seg.arr IntKind.i8 16 x1], V.s (S.i IntKind.i64 x2)]) ([Obj.cells 34 [Seg.arr IntKind.i8 81 x3, Seg.arr IntKind.i8 16 x4, Seg.one [S.i IntKind.i8 x5]]]) key_Ofl8d = key_Ofl8s (fun x0 x1 x2 x3 x4 x5 => lrun key_Ofc 0 [1, 3, 23, 24] [1, 3] (loopOf Try.f23 8) f ([V.s (S.ptr 0 0 none 0), V.s (S.i IntKind.u64 x0), V.agg [Seg.arr IntKind.i8 16 x1], V.s (S.i IntKind.i64 x2)]) ([Obj.cells 34 [Seg.arr IntKind.i8 81 x3, Seg.arr IntKind.i8 16 x4, Seg.one [S.i IntKind.i8 x5]]]) key_Ofl8d) x0 x1 x2 x3 x4 x5 := by kernel_rfl

theorem key_Ofl8_eq (f : Nat) : ∀ (x0 : Int) (x1 : List Int) (x2 : Int) (x3 : List Int) (x4 : List Int) (x5 : Int), lrun key_Ofc 0 [1, 3, 23, 24] [1, 3] (loopOf Try.f23 8) f ([V.s (S.ptr 0 0 none 0), V.s (S.i IntKind.u64 x0), V.agg [Seg.arr IntKind.i8 16 x1], V.s (S.i IntKind.i64 x2)]) ([Obj.cells 34 [Seg.arr IntKind.i8 81 x3, Seg.arr IntKind.i8 16 x4, Seg.one [S.i IntKind.i8 x5]]]) key_Ofl8d = key_Ofl8 f x0 x1 x2 x3 x4 x5 := by
  induction f with
  | zero => intros; rfl
  | succ f ih =>
    intro x0 x1 x2 x3 x4 x5
    rw [key_Ofl8_step]
    have e : (fun x0 x1 x2 x3 x4 x5 => lrun key_Ofc 0 [1, 3, 23, 24] [1, 3] (loopOf Try.f23 8) f ([V.s (S.ptr 0 0 none 0), V.s (S.i IntKind.u64 x0), V.agg [Seg.arr IntKind.i8 16 x1], V.s (S.i IntKind.i64 x2)]) ([Obj.cells 34 [Seg.arr IntKind.i8 81 x3, Seg.arr IntKind.i8 16 x4, Seg.one [S.i IntKind.i8 x5]]]) key_Ofl8d) = key_Ofl8 f := by
      funext x0 x1 x2 x3 x4 x5
      exact ih x0 x1 x2 x3 x4 x5
    rw [e]
    rfl

theorem key_Ofs3 : LoopSound Try.prog key_Ofc 0 (loopOf Try.f23 3) :=
  loopSound_by mixed key_Ofc_ok (AllP.of (l' := []) (by kernel_rfl) trivial) (q := 3) (kin := [1, 3, 11, 12]) (kout := [1, 3]) (by kernel_rfl) (by kernel_rfl) fun vs objs K r h => by
    replace h : key_Ofp3 vs objs K = some r := h
    unfold key_Ofp3 at h
    split at h
    · skip
      obtain ⟨t, h1, h2⟩ := ob_ok h
      refine ⟨_, key_Ofl3d, t, many, (key_Ofl3_eq many _ _ _ _ _ _).trans h1, fun e vs' objs' hd => ?_⟩
      unfold key_Ofl3d at hd
      split at hd
      · skip
        cases hd
        exact h2
      · cases hd
    · cases h

theorem key_Ofs11 : LoopSound Try.prog key_Ofc 0 (loopOf Try.f23 11) :=
  loopSound_by mixed key_Ofc_ok (AllP.of (l' := []) (by kernel_rfl) trivial) (q := 11) (kin := [1, 3, 6, 23, 24, 28, 29]) (kout := [1, 3, 23, 24]) (by kernel_rfl) (by kernel_rfl) fun vs objs K r h => by
    replace h : key_Ofp11 vs objs K = some r := h
    unfold key_Ofp11 at h
    split at h
    · skip
      obtain ⟨t, h1, h2⟩ := ob_ok h
      refine ⟨_, key_Ofl11d, t, many, (key_Ofl11_eq many _ _ _ _ _ _ _ _ _).trans h1, fun e vs' objs' hd => ?_⟩
      unfold key_Ofl11d at hd
      split at hd
      · skip
        cases hd
        exact h2
      · cases hd
    · cases h

theorem key_Ofs8 : LoopSound Try.prog key_Ofc 0 (loopOf Try.f23 8) :=
  loopSound_by mixed key_Ofc_ok (AllP.of (l' := [loopOf Try.f23 11]) (by kernel_rfl) ⟨key_Ofs11, trivial⟩) (q := 8) (kin := [1, 3, 23, 24]) (kout := [1, 3]) (by kernel_rfl) (by kernel_rfl) fun vs objs K r h => by
    replace h : key_Ofp8 vs objs K = some r := h
    unfold key_Ofp8 at h
    split at h
    · skip
      obtain ⟨t, h1, h2⟩ := ob_ok h
      refine ⟨_, key_Ofl8d, t, many, (key_Ofl8_eq many _ _ _ _ _ _).trans h1, fun e vs' objs' hd => ?_⟩
      unfold key_Ofl8d at hd
      split at hd
      · skip
        cases hd
        exact h2
      · cases hd
    · cases h

def key_Ofd : V → List Obj → Option (Int) := fun v objs => match v, objs with
  | V.s (S.i IntKind.u64 y0), [] => some (y0)
  | _, _ => none

theorem key_Of_eq (x0 : List Int) (x1 : List Int) (x2 : Int) : fnE key_Ofc Try.f23 ([V.agg [Seg.arr IntKind.i8 81 x0, Seg.arr IntKind.i8 16 x1, Seg.one [S.i IntKind.i8 x2]]]) ([]) key_Ofd = key_Of x0 x1 x2 := by kernel_rfl

def key_Ofa {R : Type} (o : Orc) (vs : List V) (objs : List Obj) (K : Bool → V → List Obj → Option R) : Option R := match vs, objs with
  | [V.agg [Seg.arr IntKind.i8 81 x0, Seg.arr IntKind.i8 16 x1, Seg.one [S.i IntKind.i8 x2]]], [] => ob (key_Of x0 x1 x2) fun y0 => K false (V.s (S.i IntKind.u64 y0)) ([])
  | _, _ => o 23 vs objs K

def key_Ofo (o : Orc) : Orc := fun f vs objs K => bif Nat.beq f 23 then key_Ofa o vs objs K else o f vs objs K

theorem key_Of_ok {vs : List V} {objs : List Obj} (x0 : List Int) (x1 : List Int) (x2 : Int) {R : Type} {K : Bool → V → List Obj → Option R} {r : R} (hv : vs = [V.agg [Seg.arr IntKind.i8 81 x0, Seg.arr IntKind.i8 16 x1, Seg.one [S.i IntKind.i8 x2]]]) (ho : objs = []) (h : ob (key_Of x0 x1 x2) (fun y0 => K false (V.s (S.i IntKind.u64 y0)) ([])) = some r) :
    ∃ p v objs', K p v objs' = some r ∧ AnyOK Try.prog 23 vs objs p v objs' := by
  subst hv
  subst ho
  obtain ⟨t, h1, h2⟩ := ob_ok h
  refine anyOK_by mixed key_Ofc_ok (objs := []) (fn := Try.f23) (b := (Try.f23).body.getD .skip) (by kernel_rfl) (by kernel_rfl) (by kernel_rfl) (AllP.of (l' := [loopOf Try.f23 3, loopOf Try.f23 8]) (by kernel_rfl) ⟨key_Ofs3, key_Ofs8, trivial⟩) ((key_Of_eq x0 x1 x2).trans h1) fun v objs' hd => ?_
  unfold key_Ofd at hd
  split at hd
  · skip
    cases hd
    exact h2
  · cases hd

theorem key_Ofo_ok (o : Orc) (ho : OSound Try.prog o) : OSound Try.prog (key_Ofo o) := by
  intro R f vs objs K r h
  replace h : (bif Nat.beq f 23 then key_Ofa o vs objs K else o f vs objs K) = some r := h
  cases hf : Nat.beq f 23 with
  | false => rw [hf] at h; exact ho f vs objs K r h
  | true =>
    rw [hf] at h
    have e := Nat.eq_of_beq_eq_true hf
    subst e
    replace h : key_Ofa o vs objs K = some r := h
    unfold key_Ofa at h
    split at h
    · skip
      exact key_Of_ok _ _ _ rfl rfl h
    · exact ho _ _ _ _ _ h

def deed_Newlp : {R : Type} → Nat → List V → List Obj → (Ex → List V → List Obj → Option R) → Option R := fun _ _ _ _ => none

def deed_Newoo : Orc := (key_Ofo (board_Newo oNil))

theorem deed_Newoo_ok : OSound Try.prog deed_Newoo := (key_Ofo_ok _ (board_Newo_ok _ oNil_ok))

def deed_Newc : Ctx := { tab := tab, eqs := eqs, bytes := bytes, nt := 14, orc := deed_Newoo, keeps := [], lp := deed_Newlp }

theorem deed_Newc_ok : CtxOK Try.prog deed_Newc := ⟨tab_ok, deed_Newoo_ok, eqs_ok, bytes_ok⟩

def deed_Newd : V → List Obj → Option (Int × Nat × List Int × List Int × Int × List (List Int) × List (List Int) × Nat × List (List Int)) := fun v objs => match v, objs with
  | V.s (S.ptr 0 0 none 0), [Obj.cells 63 [Seg.one [S.ptr 1 0 none 0, S.i IntKind.u64 y0, S.sl 2 0 y1 true]], Obj.cells 69 [Seg.arr IntKind.i8 81 y2, Seg.arr IntKind.i8 16 y3, Seg.one [S.i IntKind.i8 y4], Seg.rows [.i .u64, .i .u64] 32 y5, Seg.rows [.i .u64, .i .u64] 2 y6], Obj.sli 89 false (Seg.rows [.i .i64, .i .i64, .i .i64, .b, .i .i8, .i .i8] y7 y8)] => some (y0, y1, y2, y3, y4, y5, y6, y7, y8)
  | _, _ => none

theorem deed_New_eq (x0 : List Int) (x1 : List Int) (x2 : Int) : fnE deed_Newc Try.f20 ([V.agg [Seg.arr IntKind.i8 81 x0, Seg.arr IntKind.i8 16 x1, Seg.one [S.i IntKind.i8 x2]]]) ([]) deed_Newd = deed_New x0 x1 x2 := by kernel_rfl

def deed_Newa {R : Type} (o : Orc) (vs : List V) (objs : List Obj) (K : Bool → V → List Obj → Option R) : Option R := match vs, objs with
  | [V.agg [Seg.arr IntKind.i8 81 x0, Seg.arr IntKind.i8 16 x1, Seg.one [S.i IntKind.i8 x2]]], [] => ob (deed_New x0 x1 x2) fun z => K false (V.s (S.ptr 0 0 none 0)) ([Obj.cells 63 [Seg.one [S.ptr 1 0 none 0, S.i IntKind.u64 (z.1), S.sl 2 0 (z.2.1) true]], Obj.cells 69 [Seg.arr IntKind.i8 81 (z.2.2.1), Seg.arr IntKind.i8 16 (z.2.2.2.1), Seg.one [S.i IntKind.i8 (z.2.2.2.2.1)], Seg.rows [.i .u64, .i .u64] 32 (z.2.2.2.2.2.1), Seg.rows [.i .u64, .i .u64] 2 (z.2.2.2.2.2.2.1)], Obj.sli 89 false (Seg.rows [.i .i64, .i .i64, .i .i64, .b, .i .i8, .i .i8] (z.2.2.2.2.2.2.2.1) (z.2.2.2.2.2.2.2.2))])
  | _, _ => o 20 vs objs K

def deed_Newo (o : Orc) : Orc := fun f vs objs K => bif Nat.beq f 20 then deed_Newa o vs objs K else o f vs objs K

theorem deed_New_ok {vs : List V} {objs : List Obj} (x0 : List Int) (x1 : List Int) (x2 : Int) {R : Type} {K : Bool → V → List Obj → Option R} {r : R} (hv : vs = [V.agg [Seg.arr IntKind.i8 81 x0, Seg.arr IntKind.i8 16 x1, Seg.one [S.i IntKind.i8 x2]]]) (ho : objs = []) (h : ob (deed_New x0 x1 x2) (fun z => K false (V.s (S.ptr 0 0 none 0)) ([Obj.cells 63 [Seg.one [S.ptr 1 0 none 0, S.i IntKind.u64 (z.1), S.sl 2 0 (z.2.1) true]], Obj.cells 69 [Seg.arr IntKind.i8 81 (z.2.2.1), Seg.arr IntKind.i8 16 (z.2.2.2.1), Seg.one [S.i IntKind.i8 (z.2.2.2.2.1)], Seg.rows [.i .u64, .i .u64] 32 (z.2.2.2.2.2.1), Seg.rows [.i .u64, .i .u64] 2 (z.2.2.2.2.2.2.1)], Obj.sli 89 false (Seg.rows [.i .i64, .i .i64, .i .i64, .b, .i .i8, .i .i8] (z.2.2.2.2.2.2.2.1) (z.2.2.2.2.2.2.2.2))])) = some r) :
    ∃ p v objs', K p v objs' = some r ∧ AnyOK Try.prog 20 vs objs p v objs' := by
  subst hv
  subst ho
  obtain ⟨t, h1, h2⟩ := ob_ok h
  refine anyOK_by mixed deed_Newc_ok (objs := []) (fn := Try.f20) (b := (Try.f20).body.getD .skip) (by kernel_rfl) (by kernel_rfl) (by kernel_rfl) (AllP.of (l' := []) (by kernel_rfl) trivial) ((deed_New_eq x0 x1 x2).trans h1) fun v objs' hd => ?_
  unfold deed_Newd at hd
  split at hd
  · skip
    cases hd
    exact h2
  · cases hd

theorem deed_Newo_ok (o : Orc) (ho : OSound Try.prog o) : OSound Try.prog (deed_Newo o) := by
  intro R f vs objs K r h
  replace h : (bif Nat.beq f 20 then deed_Newa o vs objs K else o f vs objs K) = some r := h
  cases hf : Nat.beq f 20 with
  | false => rw [hf] at h; exact ho f vs objs K r h
  | true =>
    rw [hf] at h
    have e := Nat.eq_of_beq_eq_true hf
    subst e
    replace h : deed_Newa o vs objs K = some r := h
    unfold deed_Newa at h
    split at h
    · skip
      exact deed_New_ok _ _ _ rfl rfl h
    · exact ho _ _ _ _ _ h

def move_Checklp : {R : Type} → Nat → List V → List Obj → (Ex → List V → List Obj → Option R) → Option R := fun _ _ _ _ => none

def move_Checkoo : Orc := oNil

theorem move_Checkoo_ok : OSound Try.prog move_Checkoo := oNil_ok

def move_Checkc : Ctx := { tab := tab, eqs := eqs, bytes := bytes, nt := 48, orc := move_Checkoo, keeps := [], lp := move_Checklp }

theorem move_Checkc_ok : CtxOK Try.prog move_Checkc := ⟨tab_ok, move_Checkoo_ok, eqs_ok, bytes_ok⟩

def move_Checkd : V → List Obj → Option (Int) := fun v objs => match v, objs with
  | V.s (S.i IntKind.i64 y0), [] => some (y0)
  | _, _ => none

theorem move_Check_eq (x0 : Int) (x1 : Int) (x2 : Int) (x3 : Bool) : fnE move_Checkc Try.f49 ([V.agg [Seg.one [S.i IntKind.i64 x0, S.i IntKind.i64 x1, S.i IntKind.i64 x2, S.b x3]]]) ([]) move_Checkd = move_Check x0 x1 x2 x3 := by kernel_rfl

def move_Checka {R : Type} (o : Orc) (vs : List V) (objs : List Obj) (K : Bool → V → List Obj → Option R) : Option R := match vs, objs with
  | [V.agg [Seg.one [S.i IntKind.i64 x0, S.i IntKind.i64 x1, S.i IntKind.i64 x2, S.b x3]]], [] => ob (move_Check x0 x1 x2 x3) fun y0 => K false (V.s (S.i IntKind.i64 y0)) ([])
  | _, _ => o 49 vs objs K

def move_Checko (o : Orc) : Orc := fun f vs objs K => bif Nat.beq f 49 then move_Checka o vs objs K else o f vs objs K

theorem move_Check_ok {vs : List V} {objs : List Obj} (x0 : Int) (x1 : Int) (x2 : Int) (x3 : Bool) {R : Type} {K : Bool → V → List Obj → Option R} {r : R} (hv : vs = [V.agg [Seg.one [S.i IntKind.i64 x0, S.i IntKind.i64 x1, S.i IntKind.i64 x2, S.b x3]]]) (ho : objs = []) (h : ob (move_Check x0 x1 x2 x3) (fun y0 => K false (V.s (S.i IntKind.i64 y0)) ([])) = some r) :
    ∃ p v objs', K p v objs' = some r ∧ AnyOK Try.prog 49 vs objs p v objs' := by
  subst hv
  subst ho
  obtain ⟨t, h1, h2⟩ := ob_ok h
  refine anyOK_by mixed move_Checkc_ok (objs := []) (fn := Try.f49) (b := (Try.f49).body.getD .skip) (by kernel_rfl) (by kernel_rfl) (by kernel_rfl) (AllP.of (l' := []) (by kernel_rfl) trivial) ((move_Check_eq x0 x1 x2 x3).trans h1) fun v objs' hd => ?_
  unfold move_Checkd at hd
  split at hd
  · skip
    cases hd
    exact h2
  · cases hd

theorem move_Checko_ok (o : Orc) (ho : OSound Try.prog o) : OSound Try.prog (move_Checko o) := by
  intro R f vs objs K r h
  replace h : (bif Nat.beq f 49 then move_Checka o vs objs K else o f vs objs K) = some r := h
  cases hf : Nat.beq f 49 with
  | false => rw [hf] at h; exact ho f vs objs K r h
  | true =>
    rw [hf] at h
    have e := Nat.eq_of_beq_eq_true hf
    subst e
    replace h : move_Checka o vs objs K = some r := h
    unfold move_Checka at h
    split at h
    · skip
      exact move_Check_ok _ _ _ _ rfl rfl h
    · exact ho _ _ _ _ _ h

def board_Handlp : {R : Type} → Nat → List V → List Obj → (Ex → List V → List Obj → Option R) → Option R := fun _ _ _ _ => none

def board_Handoo : Orc := oNil

theorem board_Handoo_ok : OSound Try.prog board_Handoo := oNil_ok

def board_Handc : Ctx := { tab := tab, eqs := eqs, bytes := bytes, nt := 31, orc := board_Handoo, keeps := [], lp := board_Handlp }

theorem board_Handc_ok : CtxOK Try.prog board_Handc := ⟨tab_ok, board_Handoo_ok, eqs_ok, bytes_ok⟩

def board_Handd : V → List Obj → Option (Int) := fun v objs => match v, objs with
  | V.s (S.i IntKind.i64 y0), [] => some (y0)
  | _, _ => none

theorem board_Hand_eq (x0 : Int) (x1 : Int) (x2 : List Int) (x3 : List Int) (x4 : Int) (x5 : List (List Int)) (x6 : List (List Int)) : fnE board_Handc Try.f50 ([V.s (S.ptr 0 0 none 0), V.s (S.i IntKind.i64 x0), V.s (S.i IntKind.i64 x1)]) ([Obj.rcells 69 [Seg.arr IntKind.i8 81 x2, Seg.arr IntKind.i8 16 x3, Seg.one [S.i IntKind.i8 x4], Seg.rows [.i .u64, .i .u64] 32 x5, Seg.rows [.i .u64, .i .u64] 2 x6]]) (pureD 1 board_Handd) = board_Hand x0 x1 x2 x3 x4 x5 x6 := by kernel_rfl

def board_Handa {R : Type} (o : Orc) (vs : List V) (objs : List Obj) (K : Bool → V → List Obj → Option R) : Option R := match vs, List.map Obj.toRO objs with
  | [V.s (S.ptr 0 0 none 0), V.s (S.i IntKind.i64 x0), V.s (S.i IntKind.i64 x1)], [Obj.rcells 69 [Seg.arr IntKind.i8 81 x2, Seg.arr IntKind.i8 16 x3, Seg.one [S.i IntKind.i8 x4], Seg.rows [.i .u64, .i .u64] 32 x5, Seg.rows [.i .u64, .i .u64] 2 x6]] => ob (board_Hand x0 x1 x2 x3 x4 x5 x6) fun y0 => K true (V.s (S.i IntKind.i64 y0)) ([])
  | _, _ => o 50 vs objs K

def board_Hando (o : Orc) : Orc := fun f vs objs K => bif Nat.beq f 50 then board_Handa o vs objs K else o f vs objs K

theorem board_Hand_ok {vs : List V} {objs : List Obj} (x0 : Int) (x1 : Int) (x2 : List Int) (x3 : List Int) (x4 : Int) (x5 : List (List Int)) (x6 : List (List Int)) {R : Type} {K : Bool → V → List Obj → Option R} {r : R} (hv : vs = [V.s (S.ptr 0 0 none 0), V.s (S.i IntKind.i64 x0), V.s (S.i IntKind.i64 x1)]) (ho : List.map Obj.toRO objs = [Obj.rcells 69 [Seg.arr IntKind.i8 81 x2, Seg.arr IntKind.i8 16 x3, Seg.one [S.i IntKind.i8 x4], Seg.rows [.i .u64, .i .u64] 32 x5, Seg.rows [.i .u64, .i .u64] 2 x6]]) (h : ob (board_Hand x0 x1 x2 x3 x4 x5 x6) (fun y0 => K true (V.s (S.i IntKind.i64 y0)) ([])) = some r) :
    ∃ p v objs', K p v objs' = some r ∧ AnyOK Try.prog 50 vs objs p v objs' := by
  subst hv
  obtain ⟨t, h1, h2⟩ := ob_ok h
  refine purOK_by mixed board_Handc_ok (m := 1) (fn := Try.f50) (b := (Try.f50).body.getD .skip) (by kernel_rfl) (by kernel_rfl) (by kernel_rfl) ho (by kernel_rfl) (by kernel_rfl) (AllP.of (l' := []) (by kernel_rfl) trivial) ((board_Hand_eq x0 x1 x2 x3 x4 x5 x6).trans h1) fun v objs' hd => ?_
  unfold board_Handd at hd
  split at hd
  · skip
    cases hd
    exact h2
  · cases hd

theorem board_Hando_ok (o : Orc) (ho : OSound Try.prog o) : OSound Try.prog (board_Hando o) := by
  intro R f vs objs K r h
  replace h : (bif Nat.beq f 50 then board_Handa o vs objs K else o f vs objs K) = some r := h
  cases hf : Nat.beq f 50 with
  | false => rw [hf] at h; exact ho f vs objs K r h
  | true =>
    rw [hf] at h
    have e := Nat.eq_of_beq_eq_true hf
    subst e
    replace h : board_Handa o vs objs K = some r := h
    unfold board_Handa at h
    split at h
    · skip
      exact board_Hand_ok _ _ _ _ _ _ _ rfl (by rename_i hq; first | exact hq | assumption) h
    · exact ho _ _ _ _ _ h

def board_Atlp : {R : Type} → Nat → List V → List Obj → (Ex → List V → List Obj → Option R) → Option R := fun _ _ _ _ => none

def board_Atoo : Orc := oNil

theorem board_Atoo_ok : OSound Try.prog board_Atoo := oNil_ok

def board_Atc : Ctx := { tab := tab, eqs := eqs, bytes := bytes, nt := 18, orc := board_Atoo, keeps := [], lp := board_Atlp }

theorem board_Atc_ok : CtxOK Try.prog board_Atc := ⟨tab_ok, board_Atoo_ok, eqs_ok, bytes_ok⟩

def board_Atd : V → List Obj → Option (Int) := fun v objs => match v, objs with
  | V.s (S.i IntKind.i8 y0), [] => some (y0)
  | _, _ => none

theorem board_At_eq (x0 : Int) (x1 : List Int) (x2 : List Int) (x3 : Int) (x4 : List (List Int)) (x5 : List (List Int)) : fnE board_Atc Try.f32 ([V.s (S.ptr 0 0 none 0), V.s (S.i IntKind.i64 x0)]) ([Obj.rcells 69 [Seg.arr IntKind.i8 81 x1, Seg.arr IntKind.i8 16 x2, Seg.one [S.i IntKind.i8 x3], Seg.rows [.i .u64, .i .u64] 32 x4, Seg.rows [.i .u64, .i .u64] 2 x5]]) (pureD 1 board_Atd) = board_At x0 x1 x2 x3 x4 x5 := by kernel_rfl

def board_Ata {R : Type} (o : Orc) (vs : List V) (objs : List Obj) (K : Bool → V → List Obj → Option R) : Option R := match vs, List.map Obj.toRO objs with
  | [V.s (S.ptr 0 0 none 0), V.s (S.i IntKind.i64 x0)], [Obj.rcells 69 [Seg.arr IntKind.i8 81 x1, Seg.arr IntKind.i8 16 x2, Seg.one [S.i IntKind.i8 x3], Seg.rows [.i .u64, .i .u64] 32 x4, Seg.rows [.i .u64, .i .u64] 2 x5]] => ob (board_At x0 x1 x2 x3 x4 x5) fun y0 => K true (V.s (S.i IntKind.i8 y0)) ([])
  | _, _ => o 32 vs objs K

def board_Ato (o : Orc) : Orc := fun f vs objs K => bif Nat.beq f 32 then board_Ata o vs objs K else o f vs objs K

theorem board_At_ok {vs : List V} {objs : List Obj} (x0 : Int) (x1 : List Int) (x2 : List Int) (x3 : Int) (x4 : List (List Int)) (x5 : List (List Int)) {R : Type} {K : Bool → V → List Obj → Option R} {r : R} (hv : vs = [V.s (S.ptr 0 0 none 0), V.s (S.i IntKind.i64 x0)]) (ho : List.map Obj.toRO objs = [Obj.rcells 69 [Seg.arr IntKind.i8 81 x1, Seg.arr IntKind.i8 16 x2, Seg.one [S.i IntKind.i8 x3], Seg.rows [.i .u64, .i .u64] 32 x4, Seg.rows [.i .u64, .i .u64] 2 x5]]) (h : ob (board_At x0 x1 x2 x3 x4 x5) (fun y0 => K true (V.s (S.i IntKind.i8 y0)) ([])) = some r) :
    ∃ p v objs', K p v objs' = some r ∧ AnyOK Try.prog 32 vs objs p v objs' := by
  subst hv
  obtain ⟨t, h1, h2⟩ := ob_ok h
  refine purOK_by mixed board_Atc_ok (m := 1) (fn := Try.f32) (b := (Try.f32).body.getD .skip) (by kernel_rfl) (by kernel_rfl) (by kernel_rfl) ho (by kernel_rfl) (by kernel_rfl) (AllP.of (l' := []) (by kernel_rfl) trivial) ((board_At_eq x0 x1 x2 x3 x4 x5).trans h1) fun v objs' hd => ?_
  unfold board_Atd at hd
  split at hd
  · skip
    cases hd
    exact h2
  · cases hd

theorem board_Ato_ok (o : Orc) (ho : OSound Try.prog o) : OSound Try.prog (board_Ato o) := by
  intro R f vs objs K r h
  replace h : (bif Nat.beq f 32 then board_Ata o vs objs K else o f vs objs K) = some r := h
  cases hf : Nat.beq f 32 with
  | false => rw [hf] at h; exact ho f vs objs K r h
  | true =>
    rw [hf] at h
    have e := Nat.eq_of_beq_eq_true hf
    subst e
    replace h : board_Ata o vs objs K = some r := h
    unfold board_Ata at h
    split at h
    · skip
      exact board_At_ok _ _ _ _ _ _ rfl (by rename_i hq; first | exact hq | assumption) h
    · exact ho _ _ _ _ _ h

def piece_Uplp : {R : Type} → Nat → List V → List Obj → (Ex → List V → List Obj → Option R) → Option R := fun _ _ _ _ => none

def piece_Upoo : Orc := oNil

theorem piece_Upoo_ok : OSound Try.prog piece_Upoo := oNil_ok

def piece_Upc : Ctx := { tab := tab, eqs := eqs, bytes := bytes, nt := 13, orc := piece_Upoo, keeps := [], lp := piece_Uplp }

theorem piece_Upc_ok : CtxOK Try.prog piece_Upc := ⟨tab_ok, piece_Upoo_ok, eqs_ok, bytes_ok⟩

def piece_Upd : V → List Obj → Option (Int) := fun v objs => match v, objs with
  | V.s (S.i IntKind.i64 y0), [] => some (y0)
  | _, _ => none

theorem piece_Up_eq (x0 : Int) : fnE piece_Upc Try.f41 ([V.s (S.i IntKind.i64 x0)]) ([]) piece_Upd = piece_Up x0 := by kernel_rfl

def piece_Upa {R : Type} (o : Orc) (vs : List V) (objs : List Obj) (K : Bool → V → List Obj → Option R) : Option R := match vs, objs with
  | [V.s (S.i IntKind.i64 x0)], [] => ob (piece_Up x0) fun y0 => K false (V.s (S.i IntKind.i64 y0)) ([])
  | _, _ => o 41 vs objs K

def piece_Upo (o : Orc) : Orc := fun f vs objs K => bif Nat.beq f 41 then piece_Upa o vs objs K else o f vs objs K

theorem piece_Up_ok {vs : List V} {objs : List Obj} (x0 : Int) {R : Type} {K : Bool → V → List Obj → Option R} {r : R} (hv : vs = [V.s (S.i IntKind.i64 x0)]) (ho : objs = []) (h : ob (piece_Up x0) (fun y0 => K false (V.s (S.i IntKind.i64 y0)) ([])) = some r) :
    ∃ p v objs', K p v objs' = some r ∧ AnyOK Try.prog 41 vs objs p v objs' := by
  subst hv
  subst ho
  obtain ⟨t, h1, h2⟩ := ob_ok h
  refine anyOK_by mixed piece_Upc_ok (objs := []) (fn := Try.f41) (b := (Try.f41).body.getD .skip) (by kernel_rfl) (by kernel_rfl) (by kernel_rfl) (AllP.of (l' := []) (by kernel_rfl) trivial) ((piece_Up_eq x0).trans h1) fun v objs' hd => ?_
  unfold piece_Upd at hd
  split at hd
  · skip
    cases hd
    exact h2
  · cases hd

theorem piece_Upo_ok (o : Orc) (ho : OSound Try.prog o) : OSound Try.prog (piece_Upo o) := by
  intro R f vs objs K r h
  replace h : (bif Nat.beq f 41 then piece_Upa o vs objs K else o f vs objs K) = some r := h
  cases hf : Nat.beq f 41 with
  | false => rw [hf] at h; exact ho f vs objs K r h
  | true =>
    rw [hf] at h
    have e := Nat.eq_of_beq_eq_true hf
    subst e
    replace h : piece_Upa o vs objs K = some r := h
    unfold piece_Upa at h
    split at h
    · skip
      exact piece_Up_ok _ rfl rfl h
    · exact ho _ _ _ _ _ h

def deed_Game_Canlp : {R : Type} → Nat → List V → List Obj → (Ex → List V → List Obj → Option R) → Option R := fun _ _ _ _ => none

def deed_Game_Canoo : Orc := (piece_Upo (piece_Kindo (piece_Sideo (board_Ato (board_Hando (move_Checko oNil))))))

theorem deed_Game_Canoo_ok : OSound Try.prog deed_Game_Canoo := (piece_Upo_ok _ (piece_Kindo_ok _ (piece_Sideo_ok _ (board_Ato_ok _ (board_Hando_ok _ (move_Checko_ok _ oNil_ok))))))

def deed_Game_Canc : Ctx := { tab := tab, eqs := eqs, bytes := bytes, nt := 104, orc := deed_Game_Canoo, keeps := [], lp := deed_Game_Canlp }

theorem deed_Game_Canc_ok : CtxOK Try.prog deed_Game_Canc := ⟨tab_ok, deed_Game_Canoo_ok, eqs_ok, bytes_ok⟩

def deed_Game_Cand : V → List Obj → Option (Bool) := fun v objs => match v, objs with
  | V.s (S.b y0), [] => some (y0)
  | _, _ => none

theorem deed_Game_Can_eq (x0 : Int) (x1 : Int) (x2 : Int) (x3 : Bool) (x4 : Int) (x5 : Nat) (x6 : List Int) (x7 : List Int) (x8 : Int) (x9 : List (List Int)) (x10 : List (List Int)) (x11 : Nat) (x12 : List (List Int)) : fnE deed_Game_Canc Try.f25 ([V.s (S.ptr 0 0 none 0), V.agg [Seg.one [S.i IntKind.i64 x0, S.i IntKind.i64 x1, S.i IntKind.i64 x2, S.b x3]]]) ([Obj.rcells 63 [Seg.one [S.ptr 1 0 none 0, S.i IntKind.u64 x4, S.sl 2 0 x5 true]], Obj.rcells 69 [Seg.arr IntKind.i8 81 x6, Seg.arr IntKind.i8 16 x7, Seg.one [S.i IntKind.i8 x8], Seg.rows [.i .u64, .i .u64] 32 x9, Seg.rows [.i .u64, .i .u64] 2 x10], Obj.sli 89 true (Seg.rows [.i .i64, .i .i64, .i .i64, .b, .i .i8, .i .i8] x11 x12)]) (pureD 3 deed_Game_Cand) = deed_Game_Can x0 x1 x2 x3 x4 x5 x6 x7 x8 x9 x10 x11 x12 := by kernel_rfl

def deed_Game_Cana {R : Type} (o : Orc) (vs : List V) (objs : List Obj) (K : Bool → V → List Obj → Option R) : Option R := match vs, List.map Obj.toRO objs with
  | [V.s (S.ptr 0 0 none 0), V.agg [Seg.one [S.i IntKind.i64 x0, S.i IntKind.i64 x1, S.i IntKind.i64 x2, S.b x3]]], [Obj.rcells 63 [Seg.one [S.ptr 1 0 none 0, S.i IntKind.u64 x4, S.sl 2 0 x5 true]], Obj.rcells 69 [Seg.arr IntKind.i8 81 x6, Seg.arr IntKind.i8 16 x7, Seg.one [S.i IntKind.i8 x8], Seg.rows [.i .u64, .i .u64] 32 x9, Seg.rows [.i .u64, .i .u64] 2 x10], Obj.sli 89 true (Seg.rows [.i .i64, .i .i64, .i .i64, .b, .i .i8, .i .i8] x11 x12)] => ob (deed_Game_Can x0 x1 x2 x3 x4 x5 x6 x7 x8 x9 x10 x11 x12) fun y0 => K true (V.s (S.b y0)) ([])
  | _, _ => o 25 vs objs K

def deed_Game_Cano (o : Orc) : Orc := fun f vs objs K => bif Nat.beq f 25 then deed_Game_Cana o vs objs K else o f vs objs K

theorem deed_Game_Can_ok {vs : List V} {objs : List Obj} (x0 : Int) (x1 : Int) (x2 : Int) (x3 : Bool) (x4 : Int) (x5 : Nat) (x6 : List Int) (x7 : List Int) (x8 : Int) (x9 : List (List Int)) (x10 : List (List Int)) (x11 : Nat) (x12 : List (List Int)) {R : Type} {K : Bool → V → List Obj → Option R} {r : R} (hv : vs = [V.s (S.ptr 0 0 none 0), V.agg [Seg.one [S.i IntKind.i64 x0, S.i IntKind.i64 x1, S.i IntKind.i64 x2, S.b x3]]]) (ho : List.map Obj.toRO objs = [Obj.rcells 63 [Seg.one [S.ptr 1 0 none 0, S.i IntKind.u64 x4, S.sl 2 0 x5 true]], Obj.rcells 69 [Seg.arr IntKind.i8 81 x6, Seg.arr IntKind.i8 16 x7, Seg.one [S.i IntKind.i8 x8], Seg.rows [.i .u64, .i .u64] 32 x9, Seg.rows [.i .u64, .i .u64] 2 x10], Obj.sli 89 true (Seg.rows [.i .i64, .i .i64, .i .i64, .b, .i .i8, .i .i8] x11 x12)]) (h : ob (deed_Game_Can x0 x1 x2 x3 x4 x5 x6 x7 x8 x9 x10 x11 x12) (fun y0 => K true (V.s (S.b y0)) ([])) = some r) :
    ∃ p v objs', K p v objs' = some r ∧ AnyOK Try.prog 25 vs objs p v objs' := by
  subst hv
  obtain ⟨t, h1, h2⟩ := ob_ok h
  refine purOK_by mixed deed_Game_Canc_ok (m := 3) (fn := Try.f25) (b := (Try.f25).body.getD .skip) (by kernel_rfl) (by kernel_rfl) (by kernel_rfl) ho (by kernel_rfl) (by kernel_rfl) (AllP.of (l' := []) (by kernel_rfl) trivial) ((deed_Game_Can_eq x0 x1 x2 x3 x4 x5 x6 x7 x8 x9 x10 x11 x12).trans h1) fun v objs' hd => ?_
  unfold deed_Game_Cand at hd
  split at hd
  · skip
    cases hd
    exact h2
  · cases hd

theorem deed_Game_Cano_ok (o : Orc) (ho : OSound Try.prog o) : OSound Try.prog (deed_Game_Cano o) := by
  intro R f vs objs K r h
  replace h : (bif Nat.beq f 25 then deed_Game_Cana o vs objs K else o f vs objs K) = some r := h
  cases hf : Nat.beq f 25 with
  | false => rw [hf] at h; exact ho f vs objs K r h
  | true =>
    rw [hf] at h
    have e := Nat.eq_of_beq_eq_true hf
    subst e
    replace h : deed_Game_Cana o vs objs K = some r := h
    unfold deed_Game_Cana at h
    split at h
    · skip
      exact deed_Game_Can_ok _ _ _ _ _ _ _ _ _ _ _ _ _ rfl (by rename_i hq; first | exact hq | assumption) h
    · exact ho _ _ _ _ _ h

def deed_Game_handlp : {R : Type} → Nat → List V → List Obj → (Ex → List V → List Obj → Option R) → Option R := fun _ _ _ _ => none

def deed_Game_handoo : Orc := (key_Hando (board_Hando oNil))

theorem deed_Game_handoo_ok : OSound Try.prog deed_Game_handoo := (key_Hando_ok _ (board_Hando_ok _ oNil_ok))

def deed_Game_handc : Ctx := { tab := tab, eqs := eqs, bytes := bytes, nt := 54, orc := deed_Game_handoo, keeps := [], lp := deed_Game_handlp }

theorem deed_Game_handc_ok : CtxOK Try.prog deed_Game_handc := ⟨tab_ok, deed_Game_handoo_ok, eqs_ok, bytes_ok⟩

def deed_Game_handd : V → List Obj → Option (Int × Nat × List Int × List Int × Int × List (List Int) × List (List Int) × Nat × List (List Int)) := fun v objs => match v, objs with
  | V.tup [], [Obj.cells 63 [Seg.one [S.ptr 1 0 none 0, S.i IntKind.u64 y0, S.sl 2 0 y1 true]], Obj.cells 69 [Seg.arr IntKind.i8 81 y2, Seg.arr IntKind.i8 16 y3, Seg.one [S.i IntKind.i8 y4], Seg.rows [.i .u64, .i .u64] 32 y5, Seg.rows [.i .u64, .i .u64] 2 y6], Obj.sli 89 false (Seg.rows [.i .i64, .i .i64, .i .i64, .b, .i .i8, .i .i8] y7 y8)] => some (y0, y1, y2, y3, y4, y5, y6, y7, y8)
  | _, _ => none

theorem deed_Game_hand_eq (x0 : Int) (x1 : Int) (x2 : Int) (x3 : Int) (x4 : Nat) (x5 : List Int) (x6 : List Int) (x7 : Int) (x8 : List (List Int)) (x9 : List (List Int)) (x10 : Nat) (x11 : List (List Int)) : fnE deed_Game_handc Try.f39 ([V.s (S.ptr 0 0 none 0), V.s (S.i IntKind.i64 x0), V.s (S.i IntKind.i64 x1), V.s (S.i IntKind.i64 x2)]) ([Obj.cells 63 [Seg.one [S.ptr 1 0 none 0, S.i IntKind.u64 x3, S.sl 2 0 x4 true]], Obj.cells 69 [Seg.arr IntKind.i8 81 x5, Seg.arr IntKind.i8 16 x6, Seg.one [S.i IntKind.i8 x7], Seg.rows [.i .u64, .i .u64] 32 x8, Seg.rows [.i .u64, .i .u64] 2 x9], Obj.sli 89 false (Seg.rows [.i .i64, .i .i64, .i .i64, .b, .i .i8, .i .i8] x10 x11)]) deed_Game_handd = deed_Game_hand x0 x1 x2 x3 x4 x5 x6 x7 x8 x9 x10 x11 := by kernel_rfl

def deed_Game_handa {R : Type} (o : Orc) (vs : List V) (objs : List Obj) (K : Bool → V → List Obj → Option R) : Option R := match vs, objs with
  | [V.s (S.ptr 0 0 none 0), V.s (S.i IntKind.i64 x0), V.s (S.i IntKind.i64 x1), V.s (S.i IntKind.i64 x2)], [Obj.cells 63 [Seg.one [S.ptr 1 0 none 0, S.i IntKind.u64 x3, S.sl 2 0 x4 true]], Obj.cells 69 [Seg.arr IntKind.i8 81 x5, Seg.arr IntKind.i8 16 x6, Seg.one [S.i IntKind.i8 x7], Seg.rows [.i .u64, .i .u64] 32 x8, Seg.rows [.i .u64, .i .u64] 2 x9], Obj.sli 89 false (Seg.rows [.i .i64, .i .i64, .i .i64, .b, .i .i8, .i .i8] x10 x11)] => ob (deed_Game_hand x0 x1 x2 x3 x4 x5 x6 x7 x8 x9 x10 x11) fun z => K false (V.tup []) ([Obj.cells 63 [Seg.one [S.ptr 1 0 none 0, S.i IntKind.u64 (z.1), S.sl 2 0 (z.2.1) true]], Obj.cells 69 [Seg.arr IntKind.i8 81 (z.2.2.1), Seg.arr IntKind.i8 16 (z.2.2.2.1), Seg.one [S.i IntKind.i8 (z.2.2.2.2.1)], Seg.rows [.i .u64, .i .u64] 32 (z.2.2.2.2.2.1), Seg.rows [.i .u64, .i .u64] 2 (z.2.2.2.2.2.2.1)], Obj.sli 89 false (Seg.rows [.i .i64, .i .i64, .i .i64, .b, .i .i8, .i .i8] (z.2.2.2.2.2.2.2.1) (z.2.2.2.2.2.2.2.2))])
  | _, _ => o 39 vs objs K

def deed_Game_hando (o : Orc) : Orc := fun f vs objs K => bif Nat.beq f 39 then deed_Game_handa o vs objs K else o f vs objs K

theorem deed_Game_hand_ok {vs : List V} {objs : List Obj} (x0 : Int) (x1 : Int) (x2 : Int) (x3 : Int) (x4 : Nat) (x5 : List Int) (x6 : List Int) (x7 : Int) (x8 : List (List Int)) (x9 : List (List Int)) (x10 : Nat) (x11 : List (List Int)) {R : Type} {K : Bool → V → List Obj → Option R} {r : R} (hv : vs = [V.s (S.ptr 0 0 none 0), V.s (S.i IntKind.i64 x0), V.s (S.i IntKind.i64 x1), V.s (S.i IntKind.i64 x2)]) (ho : objs = [Obj.cells 63 [Seg.one [S.ptr 1 0 none 0, S.i IntKind.u64 x3, S.sl 2 0 x4 true]], Obj.cells 69 [Seg.arr IntKind.i8 81 x5, Seg.arr IntKind.i8 16 x6, Seg.one [S.i IntKind.i8 x7], Seg.rows [.i .u64, .i .u64] 32 x8, Seg.rows [.i .u64, .i .u64] 2 x9], Obj.sli 89 false (Seg.rows [.i .i64, .i .i64, .i .i64, .b, .i .i8, .i .i8] x10 x11)]) (h : ob (deed_Game_hand x0 x1 x2 x3 x4 x5 x6 x7 x8 x9 x10 x11) (fun z => K false (V.tup []) ([Obj.cells 63 [Seg.one [S.ptr 1 0 none 0, S.i IntKind.u64 (z.1), S.sl 2 0 (z.2.1) true]], Obj.cells 69 [Seg.arr IntKind.i8 81 (z.2.2.1), Seg.arr IntKind.i8 16 (z.2.2.2.1), Seg.one [S.i IntKind.i8 (z.2.2.2.2.1)], Seg.rows [.i .u64, .i .u64] 32 (z.2.2.2.2.2.1), Seg.rows [.i .u64, .i .u64] 2 (z.2.2.2.2.2.2.1)], Obj.sli 89 false (Seg.rows [.i .i64, .i .i64, .i .i64, .b, .i .i8, .i .i8] (z.2.2.2.2.2.2.2.1) (z.2.2.2.2.2.2.2.2))])) = some r) :
    ∃ p v objs', K p v objs' = some r ∧ AnyOK Try.prog 39 vs objs p v objs' := by
  subst hv
  subst ho
  obtain ⟨t, h1, h2⟩ := ob_ok h
  refine anyOK_by mixed deed_Game_handc_ok (objs := [Obj.cells 63 [Seg.one [S.ptr 1 0 none 0, S.i IntKind.u64 x3, S.sl 2 0 x4 true]], Obj.cells 69 [Seg.arr IntKind.i8 81 x5, Seg.arr IntKind.i8 16 x6, Seg.one [S.i IntKind.i8 x7], Seg.rows [.i .u64, .i .u64] 32 x8, Seg.rows [.i .u64, .i .u64] 2 x9], Obj.sli 89 false (Seg.rows [.i .i64, .i .i64, .i .i64, .b, .i .i8, .i .i8] x10 x11)]) (fn := Try.f39) (b := (Try.f39).body.getD .skip) (by kernel_rfl) (by kernel_rfl) (by kernel_rfl) (AllP.of (l' := []) (by kernel_rfl) trivial) ((deed_Game_hand_eq x0 x1 x2 x3 x4 x5 x6 x7 x8 x9 x10 x11).trans h1) fun v objs' hd => ?_
  unfold deed_Game_handd at hd
  split at hd
  · skip
    cases hd
    exact h2
  · cases hd

theorem deed_Game_hando_ok (o : Orc) (ho : OSound Try.prog o) : OSound Try.prog (deed_Game_hando o) := by
  intro R f vs objs K r h
  replace h : (bif Nat.beq f 39 then deed_Game_handa o vs objs K else o f vs objs K) = some r := h
  cases hf : Nat.beq f 39 with
  | false => rw [hf] at h; exact ho f vs objs K r h
  | true =>
    rw [hf] at h
    have e := Nat.eq_of_beq_eq_true hf
    subst e
    replace h : deed_Game_handa o vs objs K = some r := h
    unfold deed_Game_handa at h
    split at h
    · skip
      exact deed_Game_hand_ok _ _ _ _ _ _ _ _ _ _ _ _ rfl rfl h
    · exact ho _ _ _ _ _ h

def deed_Game_putlp : {R : Type} → Nat → List V → List Obj → (Ex → List V → List Obj → Option R) → Option R := fun _ _ _ _ => none

def deed_Game_putoo : Orc := (board_Puto (key_Pieceo (board_Ato oNil)))

theorem deed_Game_putoo_ok : OSound Try.prog deed_Game_putoo := (board_Puto_ok _ (key_Pieceo_ok _ (board_Ato_ok _ oNil_ok)))

def deed_Game_putc : Ctx := { tab := tab, eqs := eqs, bytes := bytes, nt := 32, orc := deed_Game_putoo, keeps := [], lp := deed_Game_putlp }

theorem deed_Game_putc_ok : CtxOK Try.prog deed_Game_putc := ⟨tab_ok, deed_Game_putoo_ok, eqs_ok, bytes_ok⟩

def deed_Game_putd : V → List Obj → Option (Int × Nat × List Int × List Int × Int × List (List Int) × List (List Int) × Nat × List (List Int)) := fun v objs => match v, objs with
  | V.tup [], [Obj.cells 63 [Seg.one [S.ptr 1 0 none 0, S.i IntKind.u64 y0, S.sl 2 0 y1 true]], Obj.cells 69 [Seg.arr IntKind.i8 81 y2, Seg.arr IntKind.i8 16 y3, Seg.one [S.i IntKind.i8 y4], Seg.rows [.i .u64, .i .u64] 32 y5, Seg.rows [.i .u64, .i .u64] 2 y6], Obj.sli 89 false (Seg.rows [.i .i64, .i .i64, .i .i64, .b, .i .i8, .i .i8] y7 y8)] => some (y0, y1, y2, y3, y4, y5, y6, y7, y8)
  | _, _ => none

theorem deed_Game_put_eq (x0 : Int) (x1 : Int) (x2 : Int) (x3 : Nat) (x4 : List Int) (x5 : List Int) (x6 : Int) (x7 : List (List Int)) (x8 : List (List Int)) (x9 : Nat) (x10 : List (List Int)) : fnE deed_Game_putc Try.f40 ([V.s (S.ptr 0 0 none 0), V.s (S.i IntKind.i64 x0), V.s (S.i IntKind.i8 x1)]) ([Obj.cells 63 [Seg.one [S.ptr 1 0 none 0, S.i IntKind.u64 x2, S.sl 2 0 x3 true]], Obj.cells 69 [Seg.arr IntKind.i8 81 x4, Seg.arr IntKind.i8 16 x5, Seg.one [S.i IntKind.i8 x6], Seg.rows [.i .u64, .i .u64] 32 x7, Seg.rows [.i .u64, .i .u64] 2 x8], Obj.sli 89 false (Seg.rows [.i .i64, .i .i64, .i .i64, .b, .i .i8, .i .i8] x9 x10)]) deed_Game_putd = deed_Game_put x0 x1 x2 x3 x4 x5 x6 x7 x8 x9 x10 := by kernel_rfl

def deed_Game_puta {R : Type} (o : Orc) (vs : List V) (objs : List Obj) (K : Bool → V → List Obj → Option R) : Option R := match vs, objs with
  | [V.s (S.ptr 0 0 none 0), V.s (S.i IntKind.i64 x0), V.s (S.i IntKind.i8 x1)], [Obj.cells 63 [Seg.one [S.ptr 1 0 none 0, S.i IntKind.u64 x2, S.sl 2 0 x3 true]], Obj.cells 69 [Seg.arr IntKind.i8 81 x4, Seg.arr IntKind.i8 16 x5, Seg.one [S.i IntKind.i8 x6], Seg.rows [.i .u64, .i .u64] 32 x7, Seg.rows [.i .u64, .i .u64] 2 x8], Obj.sli 89 false (Seg.rows [.i .i64, .i .i64, .i .i64, .b, .i .i8, .i .i8] x9 x10)] => ob (deed_Game_put x0 x1 x2 x3 x4 x5 x6 x7 x8 x9 x10) fun z => K false (V.tup []) ([Obj.cells 63 [Seg.one [S.ptr 1 0 none 0, S.i IntKind.u64 (z.1), S.sl 2 0 (z.2.1) true]], Obj.cells 69 [Seg.arr IntKind.i8 81 (z.2.2.1), Seg.arr IntKind.i8 16 (z.2.2.2.1), Seg.one [S.i IntKind.i8 (z.2.2.2.2.1)], Seg.rows [.i .u64, .i .u64] 32 (z.2.2.2.2.2.1), Seg.rows [.i .u64, .i .u64] 2 (z.2.2.2.2.2.2.1)], Obj.sli 89 false (Seg.rows [.i .i64, .i .i64, .i .i64, .b, .i .i8, .i .i8] (z.2.2.2.2.2.2.2.1) (z.2.2.2.2.2.2.2.2))])
  | _, _ => o 40 vs objs K

def deed_Game_puto (o : Orc) : Orc := fun f vs objs K => bif Nat.beq f 40 then deed_Game_puta o vs objs K else o f vs objs K

theorem deed_Game_put_ok {vs : List V} {objs : List Obj} (x0 : Int) (x1 : Int) (x2 : Int) (x3 : Nat) (x4 : List Int) (x5 : List Int) (x6 : Int) (x7 : List (List Int)) (x8 : List (List Int)) (x9 : Nat) (x10 : List (List Int)) {R : Type} {K : Bool → V → List Obj → Option R} {r : R} (hv : vs = [V.s (S.ptr 0 0 none 0), V.s (S.i IntKind.i64 x0), V.s (S.i IntKind.i8 x1)]) (ho : objs = [Obj.cells 63 [Seg.one [S.ptr 1 0 none 0, S.i IntKind.u64 x2, S.sl 2 0 x3 true]], Obj.cells 69 [Seg.arr IntKind.i8 81 x4, Seg.arr IntKind.i8 16 x5, Seg.one [S.i IntKind.i8 x6], Seg.rows [.i .u64, .i .u64] 32 x7, Seg.rows [.i .u64, .i .u64] 2 x8], Obj.sli 89 false (Seg.rows [.i .i64, .i .i64, .i .i64, .b, .i .i8, .i .i8] x9 x10)]) (h : ob (deed_Game_put x0 x1 x2 x3 x4 x5 x6 x7 x8 x9 x10) (fun z => K false (V.tup []) ([Obj.cells 63 [Seg.one [S.ptr 1 0 none 0, S.i IntKind.u64 (z.1), S.sl 2 0 (z.2.1) true]], Obj.cells 69 [Seg.arr IntKind.i8 81 (z.2.2.1), Seg.arr IntKind.i8 16 (z.2.2.2.1), Seg.one [S.i IntKind.i8 (z.2.2.2.2.1)], Seg.rows [.i .u64, .i .u64] 32 (z.2.2.2.2.2.1), Seg.rows [.i .u64, .i .u64] 2 (z.2.2.2.2.2.2.1)], Obj.sli 89 false (Seg.rows [.i .i64, .i .i64, .i .i64, .b, .i .i8, .i .i8] (z.2.2.2.2.2.2.2.1) (z.2.2.2.2.2.2.2.2))])) = some r) :
    ∃ p v objs', K p v objs' = some r ∧ AnyOK Try.prog 40 vs objs p v objs' := by
  subst hv
  subst ho
  obtain ⟨t, h1, h2⟩ := ob_ok h
  refine anyOK_by mixed deed_Game_putc_ok (objs := [Obj.cells 63 [Seg.one [S.ptr 1 0 none 0, S.i IntKind.u64 x2, S.sl 2 0 x3 true]], Obj.cells 69 [Seg.arr IntKind.i8 81 x4, Seg.arr IntKind.i8 16 x5, Seg.one [S.i IntKind.i8 x6], Seg.rows [.i .u64, .i .u64] 32 x7, Seg.rows [.i .u64, .i .u64] 2 x8], Obj.sli 89 false (Seg.rows [.i .i64, .i .i64, .i .i64, .b, .i .i8, .i .i8] x9 x10)]) (fn := Try.f40) (b := (Try.f40).body.getD .skip) (by kernel_rfl) (by kernel_rfl) (by kernel_rfl) (AllP.of (l' := []) (by kernel_rfl) trivial) ((deed_Game_put_eq x0 x1 x2 x3 x4 x5 x6 x7 x8 x9 x10).trans h1) fun v objs' hd => ?_
  unfold deed_Game_putd at hd
  split at hd
  · skip
    cases hd
    exact h2
  · cases hd

theorem deed_Game_puto_ok (o : Orc) (ho : OSound Try.prog o) : OSound Try.prog (deed_Game_puto o) := by
  intro R f vs objs K r h
  replace h : (bif Nat.beq f 40 then deed_Game_puta o vs objs K else o f vs objs K) = some r := h
  cases hf : Nat.beq f 40 with
  | false => rw [hf] at h; exact ho f vs objs K r h
  | true =>
    rw [hf] at h
    have e := Nat.eq_of_beq_eq_true hf
    subst e
    replace h : deed_Game_puta o vs objs K = some r := h
    unfold deed_Game_puta at h
    split at h
    · skip
      exact deed_Game_put_ok _ _ _ _ _ _ _ _ _ _ _ rfl rfl h
    · exact ho _ _ _ _ _ h

def deed_Game_turnlp : {R : Type} → Nat → List V → List Obj → (Ex → List V → List Obj → Option R) → Option R := fun _ _ _ _ => none

def deed_Game_turnoo : Orc := (key_Sideo oNil)

theorem deed_Game_turnoo_ok : OSound Try.prog deed_Game_turnoo := (key_Sideo_ok _ oNil_ok)

def deed_Game_turnc : Ctx := { tab := tab, eqs := eqs, bytes := bytes, nt := 26, orc := deed_Game_turnoo, keeps := [], lp := deed_Game_turnlp }

theorem deed_Game_turnc_ok : CtxOK Try.prog deed_Game_turnc := ⟨tab_ok, deed_Game_turnoo_ok, eqs_ok, bytes_ok⟩

def deed_Game_turnd : V → List Obj → Option (Int × Nat × List Int × List Int × Int × List (List Int) × List (List Int) × Nat × List (List Int)) := fun v objs => match v, objs with
  | V.tup [], [Obj.cells 63 [Seg.one [S.ptr 1 0 none 0, S.i IntKind.u64 y0, S.sl 2 0 y1 true]], Obj.cells 69 [Seg.arr IntKind.i8 81 y2, Seg.arr IntKind.i8 16 y3, Seg.one [S.i IntKind.i8 y4], Seg.rows [.i .u64, .i .u64] 32 y5, Seg.rows [.i .u64, .i .u64] 2 y6], Obj.sli 89 false (Seg.rows [.i .i64, .i .i64, .i .i64, .b, .i .i8, .i .i8] y7 y8)] => some (y0, y1, y2, y3, y4, y5, y6, y7, y8)
  | _, _ => none

theorem deed_Game_turn_eq (x0 : Int) (x1 : Nat) (x2 : List Int) (x3 : List Int) (x4 : Int) (x5 : List (List Int)) (x6 : List (List Int)) (x7 : Nat) (x8 : List (List Int)) : fnE deed_Game_turnc Try.f44 ([V.s (S.ptr 0 0 none 0)]) ([Obj.cells 63 [Seg.one [S.ptr 1 0 none 0, S.i IntKind.u64 x0, S.sl 2 0 x1 true]], Obj.cells 69 [Seg.arr IntKind.i8 81 x2, Seg.arr IntKind.i8 16 x3, Seg.one [S.i IntKind.i8 x4], Seg.rows [.i .u64, .i .u64] 32 x5, Seg.rows [.i .u64, .i .u64] 2 x6], Obj.sli 89 false (Seg.rows [.i .i64, .i .i64, .i .i64, .b, .i .i8, .i .i8] x7 x8)]) deed_Game_turnd = deed_Game_turn x0 x1 x2 x3 x4 x5 x6 x7 x8 := by kernel_rfl

def deed_Game_turna {R : Type} (o : Orc) (vs : List V) (objs : List Obj) (K : Bool → V → List Obj → Option R) : Option R := match vs, objs with
  | [V.s (S.ptr 0 0 none 0)], [Obj.cells 63 [Seg.one [S.ptr 1 0 none 0, S.i IntKind.u64 x0, S.sl 2 0 x1 true]], Obj.cells 69 [Seg.arr IntKind.i8 81 x2, Seg.arr IntKind.i8 16 x3, Seg.one [S.i IntKind.i8 x4], Seg.rows [.i .u64, .i .u64] 32 x5, Seg.rows [.i .u64, .i .u64] 2 x6], Obj.sli 89 false (Seg.rows [.i .i64, .i .i64, .i .i64, .b, .i .i8, .i .i8] x7 x8)] => ob (deed_Game_turn x0 x1 x2 x3 x4 x5 x6 x7 x8) fun z => K false (V.tup []) ([Obj.cells 63 [Seg.one [S.ptr 1 0 none 0, S.i IntKind.u64 (z.1), S.sl 2 0 (z.2.1) true]], Obj.cells 69 [Seg.arr IntKind.i8 81 (z.2.2.1), Seg.arr IntKind.i8 16 (z.2.2.2.1), Seg.one [S.i IntKind.i8 (z.2.2.2.2.1)], Seg.rows [.i .u64, .i .u64] 32 (z.2.2.2.2.2.1), Seg.rows [.i .u64, .i .u64] 2 (z.2.2.2.2.2.2.1)], Obj.sli 89 false (Seg.rows [.i .i64, .i .i64, .i .i64, .b, .i .i8, .i .i8] (z.2.2.2.2.2.2.2.1) (z.2.2.2.2.2.2.2.2))])
  | _, _ => o 44 vs objs K

def deed_Game_turno (o : Orc) : Orc := fun f vs objs K => bif Nat.beq f 44 then deed_Game_turna o vs objs K else o f vs objs K

theorem deed_Game_turn_ok {vs : List V} {objs : List Obj} (x0 : Int) (x1 : Nat) (x2 : List Int) (x3 : List Int) (x4 : Int) (x5 : List (List Int)) (x6 : List (List Int)) (x7 : Nat) (x8 : List (List Int)) {R : Type} {K : Bool → V → List Obj → Option R} {r : R} (hv : vs = [V.s (S.ptr 0 0 none 0)]) (ho : objs = [Obj.cells 63 [Seg.one [S.ptr 1 0 none 0, S.i IntKind.u64 x0, S.sl 2 0 x1 true]], Obj.cells 69 [Seg.arr IntKind.i8 81 x2, Seg.arr IntKind.i8 16 x3, Seg.one [S.i IntKind.i8 x4], Seg.rows [.i .u64, .i .u64] 32 x5, Seg.rows [.i .u64, .i .u64] 2 x6], Obj.sli 89 false (Seg.rows [.i .i64, .i .i64, .i .i64, .b, .i .i8, .i .i8] x7 x8)]) (h : ob (deed_Game_turn x0 x1 x2 x3 x4 x5 x6 x7 x8) (fun z => K false (V.tup []) ([Obj.cells 63 [Seg.one [S.ptr 1 0 none 0, S.i IntKind.u64 (z.1), S.sl 2 0 (z.2.1) true]], Obj.cells 69 [Seg.arr IntKind.i8 81 (z.2.2.1), Seg.arr IntKind.i8 16 (z.2.2.2.1), Seg.one [S.i IntKind.i8 (z.2.2.2.2.1)], Seg.rows [.i .u64, .i .u64] 32 (z.2.2.2.2.2.1), Seg.rows [.i .u64, .i .u64] 2 (z.2.2.2.2.2.2.1)], Obj.sli 89 false (Seg.rows [.i .i64, .i .i64, .i .i64, .b, .i .i8, .i .i8] (z.2.2.2.2.2.2.2.1) (z.2.2.2.2.2.2.2.2))])) = some r) :
    ∃ p v objs', K p v objs' = some r ∧ AnyOK Try.prog 44 vs objs p v objs' := by
  subst hv
  subst ho
  obtain ⟨t, h1, h2⟩ := ob_ok h
  refine anyOK_by mixed deed_Game_turnc_ok (objs := [Obj.cells 63 [Seg.one [S.ptr 1 0 none 0, S.i IntKind.u64 x0, S.sl 2 0 x1 true]], Obj.cells 69 [Seg.arr IntKind.i8 81 x2, Seg.arr IntKind.i8 16 x3, Seg.one [S.i IntKind.i8 x4], Seg.rows [.i .u64, .i .u64] 32 x5, Seg.rows [.i .u64, .i .u64] 2 x6], Obj.sli 89 false (Seg.rows [.i .i64, .i .i64, .i .i64, .b, .i .i8, .i .i8] x7 x8)]) (fn := Try.f44) (b := (Try.f44).body.getD .skip) (by kernel_rfl) (by kernel_rfl) (by kernel_rfl) (AllP.of (l' := []) (by kernel_rfl) trivial) ((deed_Game_turn_eq x0 x1 x2 x3 x4 x5 x6 x7 x8).trans h1) fun v objs' hd => ?_
  unfold deed_Game_turnd at hd
  split at hd
  · skip
    cases hd
    exact h2
  · cases hd

theorem deed_Game_turno_ok (o : Orc) (ho : OSound Try.prog o) : OSound Try.prog (deed_Game_turno o) := by
  intro R f vs objs K r h
  replace h : (bif Nat.beq f 44 then deed_Game_turna o vs objs K else o f vs objs K) = some r := h
  cases hf : Nat.beq f 44 with
  | false => rw [hf] at h; exact ho f vs objs K r h
  | true =>
    rw [hf] at h
    have e := Nat.eq_of_beq_eq_true hf
    subst e
    replace h : deed_Game_turna o vs objs K = some r := h
    unfold deed_Game_turna at h
    split at h
    · skip
      exact deed_Game_turn_ok _ _ _ _ _ _ _ _ _ rfl rfl h
    · exact ho _ _ _ _ _ h

def piece_Rawlp : {R : Type} → Nat → List V → List Obj → (Ex → List V → List Obj → Option R) → Option R := fun _ _ _ _ => none

def piece_Rawoo : Orc := (piece_Ofo oNil)

theorem piece_Rawoo_ok : OSound Try.prog piece_Rawoo := (piece_Ofo_ok _ oNil_ok)

def piece_Rawc : Ctx := { tab := tab, eqs := eqs, bytes := bytes, nt := 13, orc := piece_Rawoo, keeps := [], lp := piece_Rawlp }

theorem piece_Rawc_ok : CtxOK Try.prog piece_Rawc := ⟨tab_ok, piece_Rawoo_ok, eqs_ok, bytes_ok⟩

def piece_Rawd : V → List Obj → Option (Int) := fun v objs => match v, objs with
  | V.s (S.i IntKind.i64 y0), [] => some (y0)
  | _, _ => none

theorem piece_Raw_eq (x0 : Int) : fnE piece_Rawc Try.f43 ([V.s (S.i IntKind.i64 x0)]) ([]) piece_Rawd = piece_Raw x0 := by kernel_rfl

def piece_Rawa {R : Type} (o : Orc) (vs : List V) (objs : List Obj) (K : Bool → V → List Obj → Option R) : Option R := match vs, objs with
  | [V.s (S.i IntKind.i64 x0)], [] => ob (piece_Raw x0) fun y0 => K false (V.s (S.i IntKind.i64 y0)) ([])
  | _, _ => o 43 vs objs K

def piece_Rawo (o : Orc) : Orc := fun f vs objs K => bif Nat.beq f 43 then piece_Rawa o vs objs K else o f vs objs K

theorem piece_Raw_ok {vs : List V} {objs : List Obj} (x0 : Int) {R : Type} {K : Bool → V → List Obj → Option R} {r : R} (hv : vs = [V.s (S.i IntKind.i64 x0)]) (ho : objs = []) (h : ob (piece_Raw x0) (fun y0 => K false (V.s (S.i IntKind.i64 y0)) ([])) = some r) :
    ∃ p v objs', K p v objs' = some r ∧ AnyOK Try.prog 43 vs objs p v objs' := by
  subst hv
  subst ho
  obtain ⟨t, h1, h2⟩ := ob_ok h
  refine anyOK_by mixed piece_Rawc_ok (objs := []) (fn := Try.f43) (b := (Try.f43).body.getD .skip) (by kernel_rfl) (by kernel_rfl) (by kernel_rfl) (AllP.of (l' := []) (by kernel_rfl) trivial) ((piece_Raw_eq x0).trans h1) fun v objs' hd => ?_
  unfold piece_Rawd at hd
  split at hd
  · skip
    cases hd
    exact h2
  · cases hd

theorem piece_Rawo_ok (o : Orc) (ho : OSound Try.prog o) : OSound Try.prog (piece_Rawo o) := by
  intro R f vs objs K r h
  replace h : (bif Nat.beq f 43 then piece_Rawa o vs objs K else o f vs objs K) = some r := h
  cases hf : Nat.beq f 43 with
  | false => rw [hf] at h; exact ho f vs objs K r h
  | true =>
    rw [hf] at h
    have e := Nat.eq_of_beq_eq_true hf
    subst e
    replace h : piece_Rawa o vs objs K = some r := h
    unfold piece_Rawa at h
    split at h
    · skip
      exact piece_Raw_ok _ rfl rfl h
    · exact ho _ _ _ _ _ h

def deed_Game_hand_v1lp : {R : Type} → Nat → List V → List Obj → (Ex → List V → List Obj → Option R) → Option R := fun _ _ _ _ => none

def deed_Game_hand_v1oo : Orc := (key_Hando (board_Hando oNil))

theorem deed_Game_hand_v1oo_ok : OSound Try.prog deed_Game_hand_v1oo := (key_Hando_ok _ (board_Hando_ok _ oNil_ok))

def deed_Game_hand_v1c : Ctx := { tab := tab, eqs := eqs, bytes := bytes, nt := 54, orc := deed_Game_hand_v1oo, keeps := [], lp := deed_Game_hand_v1lp }

theorem deed_Game_hand_v1c_ok : CtxOK Try.prog deed_Game_hand_v1c := ⟨tab_ok, deed_Game_hand_v1oo_ok, eqs_ok, bytes_ok⟩

def deed_Game_hand_v1d : V → List Obj → Option (Empty) := fun v objs => match v, objs with
  | _, _ => none

theorem deed_Game_hand_v1_eq (x0 : Int) (x1 : Int) (x2 : Int) (x3 : Int) (x4 : Nat) (x5 : List Int) (x6 : List Int) (x7 : Int) (x8 : List (List Int)) (x9 : List (List Int)) (x10 : Nat) (x11 : List (List Int)) : fnE deed_Game_hand_v1c Try.f39 ([V.s (S.ptr 0 0 none 0), V.s (S.i IntKind.i64 x0), V.s (S.i IntKind.i64 x1), V.s (S.i IntKind.i64 x2)]) ([Obj.rcells 63 [Seg.one [S.ptr 1 0 none 0, S.i IntKind.u64 x3, S.sl 2 0 x4 true]], Obj.rcells 69 [Seg.arr IntKind.i8 81 x5, Seg.arr IntKind.i8 16 x6, Seg.one [S.i IntKind.i8 x7], Seg.rows [.i .u64, .i .u64] 32 x8, Seg.rows [.i .u64, .i .u64] 2 x9], Obj.sli 89 true (Seg.rows [.i .i64, .i .i64, .i .i64, .b, .i .i8, .i .i8] x10 x11)]) deed_Game_hand_v1d = deed_Game_hand_v1 x0 x1 x2 x3 x4 x5 x6 x7 x8 x9 x10 x11 := by kernel_rfl

def deed_Game_hand_v1a {R : Type} (o : Orc) (vs : List V) (objs : List Obj) (K : Bool → V → List Obj → Option R) : Option R := match vs, objs with
  | [V.s (S.ptr 0 0 none 0), V.s (S.i IntKind.i64 x0), V.s (S.i IntKind.i64 x1), V.s (S.i IntKind.i64 x2)], [Obj.rcells 63 [Seg.one [S.ptr 1 0 none 0, S.i IntKind.u64 x3, S.sl 2 0 x4 true]], Obj.rcells 69 [Seg.arr IntKind.i8 81 x5, Seg.arr IntKind.i8 16 x6, Seg.one [S.i IntKind.i8 x7], Seg.rows [.i .u64, .i .u64] 32 x8, Seg.rows [.i .u64, .i .u64] 2 x9], Obj.sli 89 true (Seg.rows [.i .i64, .i .i64, .i .i64, .b, .i .i8, .i .i8] x10 x11)] => ob (deed_Game_hand_v1 x0 x1 x2 x3 x4 x5 x6 x7 x8 x9 x10 x11) fun _ => none
  | _, _ => o 39 vs objs K

def deed_Game_hand_v1o (o : Orc) : Orc := fun f vs objs K => bif Nat.beq f 39 then deed_Game_hand_v1a o vs objs K else o f vs objs K

theorem deed_Game_hand_v1_ok {vs : List V} {objs : List Obj} (x0 : Int) (x1 : Int) (x2 : Int) (x3 : Int) (x4 : Nat) (x5 : List Int) (x6 : List Int) (x7 : Int) (x8 : List (List Int)) (x9 : List (List Int)) (x10 : Nat) (x11 : List (List Int)) {R : Type} {K : Bool → V → List Obj → Option R} {r : R} (hv : vs = [V.s (S.ptr 0 0 none 0), V.s (S.i IntKind.i64 x0), V.s (S.i IntKind.i64 x1), V.s (S.i IntKind.i64 x2)]) (ho : objs = [Obj.rcells 63 [Seg.one [S.ptr 1 0 none 0, S.i IntKind.u64 x3, S.sl 2 0 x4 true]], Obj.rcells 69 [Seg.arr IntKind.i8 81 x5, Seg.arr IntKind.i8 16 x6, Seg.one [S.i IntKind.i8 x7], Seg.rows [.i .u64, .i .u64] 32 x8, Seg.rows [.i .u64, .i .u64] 2 x9], Obj.sli 89 true (Seg.rows [.i .i64, .i .i64, .i .i64, .b, .i .i8, .i .i8] x10 x11)]) (h : ob (deed_Game_hand_v1 x0 x1 x2 x3 x4 x5 x6 x7 x8 x9 x10 x11) (fun _ => none) = some r) :
    ∃ p v objs', K p v objs' = some r ∧ AnyOK Try.prog 39 vs objs p v objs' := by
  subst hv
  subst ho
  obtain ⟨t, h1, h2⟩ := ob_ok h
  refine anyOK_by mixed deed_Game_hand_v1c_ok (objs := [Obj.rcells 63 [Seg.one [S.ptr 1 0 none 0, S.i IntKind.u64 x3, S.sl 2 0 x4 true]], Obj.rcells 69 [Seg.arr IntKind.i8 81 x5, Seg.arr IntKind.i8 16 x6, Seg.one [S.i IntKind.i8 x7], Seg.rows [.i .u64, .i .u64] 32 x8, Seg.rows [.i .u64, .i .u64] 2 x9], Obj.sli 89 true (Seg.rows [.i .i64, .i .i64, .i .i64, .b, .i .i8, .i .i8] x10 x11)]) (fn := Try.f39) (b := (Try.f39).body.getD .skip) (by kernel_rfl) (by kernel_rfl) (by kernel_rfl) (AllP.of (l' := []) (by kernel_rfl) trivial) ((deed_Game_hand_v1_eq x0 x1 x2 x3 x4 x5 x6 x7 x8 x9 x10 x11).trans h1) fun v objs' hd => ?_
  unfold deed_Game_hand_v1d at hd
  split at hd
  · cases hd

theorem deed_Game_hand_v1o_ok (o : Orc) (ho : OSound Try.prog o) : OSound Try.prog (deed_Game_hand_v1o o) := by
  intro R f vs objs K r h
  replace h : (bif Nat.beq f 39 then deed_Game_hand_v1a o vs objs K else o f vs objs K) = some r := h
  cases hf : Nat.beq f 39 with
  | false => rw [hf] at h; exact ho f vs objs K r h
  | true =>
    rw [hf] at h
    have e := Nat.eq_of_beq_eq_true hf
    subst e
    replace h : deed_Game_hand_v1a o vs objs K = some r := h
    unfold deed_Game_hand_v1a at h
    split at h
    · skip
      exact deed_Game_hand_v1_ok _ _ _ _ _ _ _ _ _ _ _ _ rfl rfl h
    · exact ho _ _ _ _ _ h

def deed_Game_put_v1lp : {R : Type} → Nat → List V → List Obj → (Ex → List V → List Obj → Option R) → Option R := fun _ _ _ _ => none

def deed_Game_put_v1oo : Orc := (key_Pieceo (board_Ato oNil))

theorem deed_Game_put_v1oo_ok : OSound Try.prog deed_Game_put_v1oo := (key_Pieceo_ok _ (board_Ato_ok _ oNil_ok))

def deed_Game_put_v1c : Ctx := { tab := tab, eqs := eqs, bytes := bytes, nt := 32, orc := deed_Game_put_v1oo, keeps := [], lp := deed_Game_put_v1lp }

theorem deed_Game_put_v1c_ok : CtxOK Try.prog deed_Game_put_v1c := ⟨tab_ok, deed_Game_put_v1oo_ok, eqs_ok, bytes_ok⟩

def deed_Game_put_v1d : V → List Obj → Option (Empty) := fun v objs => match v, objs with
  | _, _ => none

theorem deed_Game_put_v1_eq (x0 : Int) (x1 : Int) (x2 : Int) (x3 : Nat) (x4 : List Int) (x5 : List Int) (x6 : Int) (x7 : List (List Int)) (x8 : List (List Int)) (x9 : Nat) (x10 : List (List Int)) : fnE deed_Game_put_v1c Try.f40 ([V.s (S.ptr 0 0 none 0), V.s (S.i IntKind.i64 x0), V.s (S.i IntKind.i8 x1)]) ([Obj.rcells 63 [Seg.one [S.ptr 1 0 none 0, S.i IntKind.u64 x2, S.sl 2 0 x3 true]], Obj.rcells 69 [Seg.arr IntKind.i8 81 x4, Seg.arr IntKind.i8 16 x5, Seg.one [S.i IntKind.i8 x6], Seg.rows [.i .u64, .i .u64] 32 x7, Seg.rows [.i .u64, .i .u64] 2 x8], Obj.sli 89 true (Seg.rows [.i .i64, .i .i64, .i .i64, .b, .i .i8, .i .i8] x9 x10)]) deed_Game_put_v1d = deed_Game_put_v1 x0 x1 x2 x3 x4 x5 x6 x7 x8 x9 x10 := by kernel_rfl

def deed_Game_put_v1a {R : Type} (o : Orc) (vs : List V) (objs : List Obj) (K : Bool → V → List Obj → Option R) : Option R := match vs, objs with
  | [V.s (S.ptr 0 0 none 0), V.s (S.i IntKind.i64 x0), V.s (S.i IntKind.i8 x1)], [Obj.rcells 63 [Seg.one [S.ptr 1 0 none 0, S.i IntKind.u64 x2, S.sl 2 0 x3 true]], Obj.rcells 69 [Seg.arr IntKind.i8 81 x4, Seg.arr IntKind.i8 16 x5, Seg.one [S.i IntKind.i8 x6], Seg.rows [.i .u64, .i .u64] 32 x7, Seg.rows [.i .u64, .i .u64] 2 x8], Obj.sli 89 true (Seg.rows [.i .i64, .i .i64, .i .i64, .b, .i .i8, .i .i8] x9 x10)] => ob (deed_Game_put_v1 x0 x1 x2 x3 x4 x5 x6 x7 x8 x9 x10) fun _ => none
  | _, _ => o 40 vs objs K

def deed_Game_put_v1o (o : Orc) : Orc := fun f vs objs K => bif Nat.beq f 40 then deed_Game_put_v1a o vs objs K else o f vs objs K

theorem deed_Game_put_v1_ok {vs : List V} {objs : List Obj} (x0 : Int) (x1 : Int) (x2 : Int) (x3 : Nat) (x4 : List Int) (x5 : List Int) (x6 : Int) (x7 : List (List Int)) (x8 : List (List Int)) (x9 : Nat) (x10 : List (List Int)) {R : Type} {K : Bool → V → List Obj → Option R} {r : R} (hv : vs = [V.s (S.ptr 0 0 none 0), V.s (S.i IntKind.i64 x0), V.s (S.i IntKind.i8 x1)]) (ho : objs = [Obj.rcells 63 [Seg.one [S.ptr 1 0 none 0, S.i IntKind.u64 x2, S.sl 2 0 x3 true]], Obj.rcells 69 [Seg.arr IntKind.i8 81 x4, Seg.arr IntKind.i8 16 x5, Seg.one [S.i IntKind.i8 x6], Seg.rows [.i .u64, .i .u64] 32 x7, Seg.rows [.i .u64, .i .u64] 2 x8], Obj.sli 89 true (Seg.rows [.i .i64, .i .i64, .i .i64, .b, .i .i8, .i .i8] x9 x10)]) (h : ob (deed_Game_put_v1 x0 x1 x2 x3 x4 x5 x6 x7 x8 x9 x10) (fun _ => none) = some r) :
    ∃ p v objs', K p v objs' = some r ∧ AnyOK Try.prog 40 vs objs p v objs' := by
  subst hv
  subst ho
  obtain ⟨t, h1, h2⟩ := ob_ok h
  refine anyOK_by mixed deed_Game_put_v1c_ok (objs := [Obj.rcells 63 [Seg.one [S.ptr 1 0 none 0, S.i IntKind.u64 x2, S.sl 2 0 x3 true]], Obj.rcells 69 [Seg.arr IntKind.i8 81 x4, Seg.arr IntKind.i8 16 x5, Seg.one [S.i IntKind.i8 x6], Seg.rows [.i .u64, .i .u64] 32 x7, Seg.rows [.i .u64, .i .u64] 2 x8], Obj.sli 89 true (Seg.rows [.i .i64, .i .i64, .i .i64, .b, .i .i8, .i .i8] x9 x10)]) (fn := Try.f40) (b := (Try.f40).body.getD .skip) (by kernel_rfl) (by kernel_rfl) (by kernel_rfl) (AllP.of (l' := []) (by kernel_rfl) trivial) ((deed_Game_put_v1_eq x0 x1 x2 x3 x4 x5 x6 x7 x8 x9 x10).trans h1) fun v objs' hd => ?_
  unfold deed_Game_put_v1d at hd
  split at hd
  · cases hd

theorem deed_Game_put_v1o_ok (o : Orc) (ho : OSound Try.prog o) : OSound Try.prog (deed_Game_put_v1o o) := by
  intro R f vs objs K r h
  replace h : (bif Nat.beq f 40 then deed_Game_put_v1a o vs objs K else o f vs objs K) = some r := h
  cases hf : Nat.beq f 40 with
  | false => rw [hf] at h; exact ho f vs objs K r h
  | true =>
    rw [hf] at h
    have e := Nat.eq_of_beq_eq_true hf
    subst e
    replace h : deed_Game_put_v1a o vs objs K = some r := h
    unfold deed_Game_put_v1a at h
    split at h
    · skip
      exact deed_Game_put_v1_ok _ _ _ _ _ _ _ _ _ _ _ rfl rfl h
    · exact ho _ _ _ _ _ h

def deed_Game_Makelp : {R : Type} → Nat → List V → List Obj → (Ex → List V → List Obj → Option R) → Option R := fun _ _ _ _ => none

def deed_Game_Makeoo : Orc := (piece_Rawo (piece_Upo (piece_Kindo (deed_Game_turno (deed_Game_puto (deed_Game_hando (piece_Ofo (board_Ato (deed_Game_Cano oNil)))))))))

theorem deed_Game_Makeoo_ok : OSound Try.prog deed_Game_Makeoo := (piece_Rawo_ok _ (piece_Upo_ok _ (piece_Kindo_ok _ (deed_Game_turno_ok _ (deed_Game_puto_ok _ (deed_Game_hando_ok _ (piece_Ofo_ok _ (board_Ato_ok _ (deed_Game_Cano_ok _ oNil_ok)))))))))

def deed_Game_Makec : Ctx := { tab := tab, eqs := eqs, bytes := bytes, nt := 97, orc := deed_Game_Makeoo, keeps := [], lp := deed_Game_Makelp }

theorem deed_Game_Makec_ok : CtxOK Try.prog deed_Game_Makec := ⟨tab_ok, deed_Game_Makeoo_ok, eqs_ok, bytes_ok⟩

def deed_Game_Maked : V → List Obj → Option ((Bool × Int × Nat × List Int × List Int × Int × List (List Int) × List (List Int) × Nat × List (List Int)) ⊕ (Bool × Int × Nat × List Int × List Int × Int × List (List Int) × List (List Int) × Nat × List (List Int))) := fun v objs => match v, objs with
  | V.s (S.b y0), [Obj.cells 63 [Seg.one [S.ptr 1 0 none 0, S.i IntKind.u64 y1, S.sl 2 0 y2 true]], Obj.cells 69 [Seg.arr IntKind.i8 81 y3, Seg.arr IntKind.i8 16 y4, Seg.one [S.i IntKind.i8 y5], Seg.rows [.i .u64, .i .u64] 32 y6, Seg.rows [.i .u64, .i .u64] 2 y7], Obj.sli 89 false (Seg.rows [.i .i64, .i .i64, .i .i64, .b, .i .i8, .i .i8] y8 y9)] => some (Sum.inl (y0, y1, y2, y3, y4, y5, y6, y7, y8, y9))
  | V.s (S.b y0), [Obj.cells 63 [Seg.one [S.ptr 1 0 none 0, S.i IntKind.u64 y1, S.sl 3 0 y2 true]], Obj.cells 69 [Seg.arr IntKind.i8 81 y3, Seg.arr IntKind.i8 16 y4, Seg.one [S.i IntKind.i8 y5], Seg.rows [.i .u64, .i .u64] 32 y6, Seg.rows [.i .u64, .i .u64] 2 y7], Obj.dead, Obj.sli 89 false (Seg.rows [.i .i64, .i .i64, .i .i64, .b, .i .i8, .i .i8] y8 y9)] => some (Sum.inr (y0, y1, y2, y3, y4, y5, y6, y7, y8, y9))
  | _, _ => none

theorem deed_Game_Make_eq (x0 : Int) (x1 : Int) (x2 : Int) (x3 : Bool) (x4 : Int) (x5 : Nat) (x6 : List Int) (x7 : List Int) (x8 : Int) (x9 : List (List Int)) (x10 : List (List Int)) (x11 : Nat) (x12 : List (List Int)) : fnE deed_Game_Makec Try.f21 ([V.s (S.ptr 0 0 none 0), V.agg [Seg.one [S.i IntKind.i64 x0, S.i IntKind.i64 x1, S.i IntKind.i64 x2, S.b x3]]]) ([Obj.cells 63 [Seg.one [S.ptr 1 0 none 0, S.i IntKind.u64 x4, S.sl 2 0 x5 true]], Obj.cells 69 [Seg.arr IntKind.i8 81 x6, Seg.arr IntKind.i8 16 x7, Seg.one [S.i IntKind.i8 x8], Seg.rows [.i .u64, .i .u64] 32 x9, Seg.rows [.i .u64, .i .u64] 2 x10], Obj.sli 89 false (Seg.rows [.i .i64, .i .i64, .i .i64, .b, .i .i8, .i .i8] x11 x12)]) deed_Game_Maked = deed_Game_Make x0 x1 x2 x3 x4 x5 x6 x7 x8 x9 x10 x11 x12 := by kernel_rfl

def deed_Game_Makea {R : Type} (o : Orc) (vs : List V) (objs : List Obj) (K : Bool → V → List Obj → Option R) : Option R := match vs, objs with
  | [V.s (S.ptr 0 0 none 0), V.agg [Seg.one [S.i IntKind.i64 x0, S.i IntKind.i64 x1, S.i IntKind.i64 x2, S.b x3]]], [Obj.cells 63 [Seg.one [S.ptr 1 0 none 0, S.i IntKind.u64 x4, S.sl 2 0 x5 true]], Obj.cells 69 [Seg.arr IntKind.i8 81 x6, Seg.arr IntKind.i8 16 x7, Seg.one [S.i IntKind.i8 x8], Seg.rows [.i .u64, .i .u64] 32 x9, Seg.rows [.i .u64, .i .u64] 2 x10], Obj.sli 89 false (Seg.rows [.i .i64, .i .i64, .i .i64, .b, .i .i8, .i .i8] x11 x12)] => ob (deed_Game_Make x0 x1 x2 x3 x4 x5 x6 x7 x8 x9 x10 x11 x12) fun t0 => sw t0 (fun z => K false (V.s (S.b (z.1))) ([Obj.cells 63 [Seg.one [S.ptr 1 0 none 0, S.i IntKind.u64 (z.2.1), S.sl 2 0 (z.2.2.1) true]], Obj.cells 69 [Seg.arr IntKind.i8 81 (z.2.2.2.1), Seg.arr IntKind.i8 16 (z.2.2.2.2.1), Seg.one [S.i IntKind.i8 (z.2.2.2.2.2.1)], Seg.rows [.i .u64, .i .u64] 32 (z.2.2.2.2.2.2.1), Seg.rows [.i .u64, .i .u64] 2 (z.2.2.2.2.2.2.2.1)], Obj.sli 89 false (Seg.rows [.i .i64, .i .i64, .i .i64, .b, .i .i8, .i .i8] (z.2.2.2.2.2.2.2.2.1) (z.2.2.2.2.2.2.2.2.2))])) (fun z => K false (V.s (S.b (z.1))) ([Obj.cells 63 [Seg.one [S.ptr 1 0 none 0, S.i IntKind.u64 (z.2.1), S.sl 3 0 (z.2.2.1) true]], Obj.cells 69 [Seg.arr IntKind.i8 81 (z.2.2.2.1), Seg.arr IntKind.i8 16 (z.2.2.2.2.1), Seg.one [S.i IntKind.i8 (z.2.2.2.2.2.1)], Seg.rows [.i .u64, .i .u64] 32 (z.2.2.2.2.2.2.1), Seg.rows [.i .u64, .i .u64] 2 (z.2.2.2.2.2.2.2.1)], Obj.dead, Obj.sli 89 false (Seg.rows [.i .i64, .i .i64, .i .i64, .b, .i .i8, .i .i8] (z.2.2.2.2.2.2.2.2.1) (z.2.2.2.2.2.2.2.2.2))]))
  | _, _ => o 21 vs objs K

def deed_Game_Makeo (o : Orc) : Orc := fun f vs objs K => bif Nat.beq f 21 then deed_Game_Makea o vs objs K else o f vs objs K

theorem deed_Game_Make_ok {vs : List V} {objs : List Obj} (x0 : Int) (x1 : Int) (x2 : Int) (x3 : Bool) (x4 : Int) (x5 : Nat) (x6 : List Int) (x7 : List Int) (x8 : Int) (x9 : List (List Int)) (x10 : List (List Int)) (x11 : Nat) (x12 : List (List Int)) {R : Type} {K : Bool → V → List Obj → Option R} {r : R} (hv : vs = [V.s (S.ptr 0 0 none 0), V.agg [Seg.one [S.i IntKind.i64 x0, S.i IntKind.i64 x1, S.i IntKind.i64 x2, S.b x3]]]) (ho : objs = [Obj.cells 63 [Seg.one [S.ptr 1 0 none 0, S.i IntKind.u64 x4, S.sl 2 0 x5 true]], Obj.cells 69 [Seg.arr IntKind.i8 81 x6, Seg.arr IntKind.i8 16 x7, Seg.one [S.i IntKind.i8 x8], Seg.rows [.i .u64, .i .u64] 32 x9, Seg.rows [.i .u64, .i .u64] 2 x10], Obj.sli 89 false (Seg.rows [.i .i64, .i .i64, .i .i64, .b, .i .i8, .i .i8] x11 x12)]) (h : ob (deed_Game_Make x0 x1 x2 x3 x4 x5 x6 x7 x8 x9 x10 x11 x12) (fun t0 => sw t0 (fun z => K false (V.s (S.b (z.1))) ([Obj.cells 63 [Seg.one [S.ptr 1 0 none 0, S.i IntKind.u64 (z.2.1), S.sl 2 0 (z.2.2.1) true]], Obj.cells 69 [Seg.arr IntKind.i8 81 (z.2.2.2.1), Seg.arr IntKind.i8 16 (z.2.2.2.2.1), Seg.one [S.i IntKind.i8 (z.2.2.2.2.2.1)], Seg.rows [.i .u64, .i .u64] 32 (z.2.2.2.2.2.2.1), Seg.rows [.i .u64, .i .u64] 2 (z.2.2.2.2.2.2.2.1)], Obj.sli 89 false (Seg.rows [.i .i64, .i .i64, .i .i64, .b, .i .i8, .i .i8] (z.2.2.2.2.2.2.2.2.1) (z.2.2.2.2.2.2.2.2.2))])) (fun z => K false (V.s (S.b (z.1))) ([Obj.cells 63 [Seg.one [S.ptr 1 0 none 0, S.i IntKind.u64 (z.2.1), S.sl 3 0 (z.2.2.1) true]], Obj.cells 69 [Seg.arr IntKind.i8 81 (z.2.2.2.1), Seg.arr IntKind.i8 16 (z.2.2.2.2.1), Seg.one [S.i IntKind.i8 (z.2.2.2.2.2.1)], Seg.rows [.i .u64, .i .u64] 32 (z.2.2.2.2.2.2.1), Seg.rows [.i .u64, .i .u64] 2 (z.2.2.2.2.2.2.2.1)], Obj.dead, Obj.sli 89 false (Seg.rows [.i .i64, .i .i64, .i .i64, .b, .i .i8, .i .i8] (z.2.2.2.2.2.2.2.2.1) (z.2.2.2.2.2.2.2.2.2))]))) = some r) :
    ∃ p v objs', K p v objs' = some r ∧ AnyOK Try.prog 21 vs objs p v objs' := by
  subst hv
  subst ho
  obtain ⟨t, h1, h2⟩ := ob_ok h
  refine anyOK_by mixed deed_Game_Makec_ok (objs := [Obj.cells 63 [Seg.one [S.ptr 1 0 none 0, S.i IntKind.u64 x4, S.sl 2 0 x5 true]], Obj.cells 69 [Seg.arr IntKind.i8 81 x6, Seg.arr IntKind.i8 16 x7, Seg.one [S.i IntKind.i8 x8], Seg.rows [.i .u64, .i .u64] 32 x9, Seg.rows [.i .u64, .i .u64] 2 x10], Obj.sli 89 false (Seg.rows [.i .i64, .i .i64, .i .i64, .b, .i .i8, .i .i8] x11 x12)]) (fn := Try.f21) (b := (Try.f21).body.getD .skip) (by kernel_rfl) (by kernel_rfl) (by kernel_rfl) (AllP.of (l' := []) (by kernel_rfl) trivial) ((deed_Game_Make_eq x0 x1 x2 x3 x4 x5 x6 x7 x8 x9 x10 x11 x12).trans h1) fun v objs' hd => ?_
  unfold deed_Game_Maked at hd
  split at hd
  · skip
    cases hd
    exact h2
  · skip
    cases hd
    exact h2
  · cases hd

theorem deed_Game_Makeo_ok (o : Orc) (ho : OSound Try.prog o) : OSound Try.prog (deed_Game_Makeo o) := by
  intro R f vs objs K r h
  replace h : (bif Nat.beq f 21 then deed_Game_Makea o vs objs K else o f vs objs K) = some r := h
  cases hf : Nat.beq f 21 with
  | false => rw [hf] at h; exact ho f vs objs K r h
  | true =>
    rw [hf] at h
    have e := Nat.eq_of_beq_eq_true hf
    subst e
    replace h : deed_Game_Makea o vs objs K = some r := h
    unfold deed_Game_Makea at h
    split at h
    · skip
      exact deed_Game_Make_ok _ _ _ _ _ _ _ _ _ _ _ _ _ rfl rfl h
    · exact ho _ _ _ _ _ h

def deed_Game_Lenlp : {R : Type} → Nat → List V → List Obj → (Ex → List V → List Obj → Option R) → Option R := fun _ _ _ _ => none

def deed_Game_Lenoo : Orc := oNil

theorem deed_Game_Lenoo_ok : OSound Try.prog deed_Game_Lenoo := oNil_ok

def deed_Game_Lenc : Ctx := { tab := tab, eqs := eqs, bytes := bytes, nt := 8, orc := deed_Game_Lenoo, keeps := [], lp := deed_Game_Lenlp }

theorem deed_Game_Lenc_ok : CtxOK Try.prog deed_Game_Lenc := ⟨tab_ok, deed_Game_Lenoo_ok, eqs_ok, bytes_ok⟩

def deed_Game_Lend : V → List Obj → Option (Int) := fun v objs => match v, objs with
  | V.s (S.i IntKind.i64 y0), [] => some (y0)
  | _, _ => none

theorem deed_Game_Len_eq (x0 : Int) (x1 : Nat) (x2 : List Int) (x3 : List Int) (x4 : Int) (x5 : List (List Int)) (x6 : List (List Int)) (x7 : Nat) (x8 : List (List Int)) : fnE deed_Game_Lenc Try.f26 ([V.s (S.ptr 0 0 none 0)]) ([Obj.rcells 63 [Seg.one [S.ptr 1 0 none 0, S.i IntKind.u64 x0, S.sl 2 0 x1 true]], Obj.rcells 69 [Seg.arr IntKind.i8 81 x2, Seg.arr IntKind.i8 16 x3, Seg.one [S.i IntKind.i8 x4], Seg.rows [.i .u64, .i .u64] 32 x5, Seg.rows [.i .u64, .i .u64] 2 x6], Obj.sli 89 true (Seg.rows [.i .i64, .i .i64, .i .i64, .b, .i .i8, .i .i8] x7 x8)]) (pureD 3 deed_Game_Lend) = deed_Game_Len x0 x1 x2 x3 x4 x5 x6 x7 x8 := by kernel_rfl

def deed_Game_Lena {R : Type} (o : Orc) (vs : List V) (objs : List Obj) (K : Bool → V → List Obj → Option R) : Option R := match vs, List.map Obj.toRO objs with
  | [V.s (S.ptr 0 0 none 0)], [Obj.rcells 63 [Seg.one [S.ptr 1 0 none 0, S.i IntKind.u64 x0, S.sl 2 0 x1 true]], Obj.rcells 69 [Seg.arr IntKind.i8 81 x2, Seg.arr IntKind.i8 16 x3, Seg.one [S.i IntKind.i8 x4], Seg.rows [.i .u64, .i .u64] 32 x5, Seg.rows [.i .u64, .i .u64] 2 x6], Obj.sli 89 true (Seg.rows [.i .i64, .i .i64, .i .i64, .b, .i .i8, .i .i8] x7 x8)] => ob (deed_Game_Len x0 x1 x2 x3 x4 x5 x6 x7 x8) fun y0 => K true (V.s (S.i IntKind.i64 y0)) ([])
  | _, _ => o 26 vs objs K

def deed_Game_Leno (o : Orc) : Orc := fun f vs objs K => bif Nat.beq f 26 then deed_Game_Lena o vs objs K else o f vs objs K

theorem deed_Game_Len_ok {vs : List V} {objs : List Obj} (x0 : Int) (x1 : Nat) (x2 : List Int) (x3 : List Int) (x4 : Int) (x5 : List (List Int)) (x6 : List (List Int)) (x7 : Nat) (x8 : List (List Int)) {R : Type} {K : Bool → V → List Obj → Option R} {r : R} (hv : vs = [V.s (S.ptr 0 0 none 0)]) (ho : List.map Obj.toRO objs = [Obj.rcells 63 [Seg.one [S.ptr 1 0 none 0, S.i IntKind.u64 x0, S.sl 2 0 x1 true]], Obj.rcells 69 [Seg.arr IntKind.i8 81 x2, Seg.arr IntKind.i8 16 x3, Seg.one [S.i IntKind.i8 x4], Seg.rows [.i .u64, .i .u64] 32 x5, Seg.rows [.i .u64, .i .u64] 2 x6], Obj.sli 89 true (Seg.rows [.i .i64, .i .i64, .i .i64, .b, .i .i8, .i .i8] x7 x8)]) (h : ob (deed_Game_Len x0 x1 x2 x3 x4 x5 x6 x7 x8) (fun y0 => K true (V.s (S.i IntKind.i64 y0)) ([])) = some r) :
    ∃ p v objs', K p v objs' = some r ∧ AnyOK Try.prog 26 vs objs p v objs' := by
  subst hv
  obtain ⟨t, h1, h2⟩ := ob_ok h
  refine purOK_by mixed deed_Game_Lenc_ok (m := 3) (fn := Try.f26) (b := (Try.f26).body.getD .skip) (by kernel_rfl) (by kernel_rfl) (by kernel_rfl) ho (by kernel_rfl) (by kernel_rfl) (AllP.of (l' := []) (by kernel_rfl) trivial) ((deed_Game_Len_eq x0 x1 x2 x3 x4 x5 x6 x7 x8).trans h1) fun v objs' hd => ?_
  unfold deed_Game_Lend at hd
  split at hd
  · skip
    cases hd
    exact h2
  · cases hd

theorem deed_Game_Leno_ok (o : Orc) (ho : OSound Try.prog o) : OSound Try.prog (deed_Game_Leno o) := by
  intro R f vs objs K r h
  replace h : (bif Nat.beq f 26 then deed_Game_Lena o vs objs K else o f vs objs K) = some r := h
  cases hf : Nat.beq f 26 with
  | false => rw [hf] at h; exact ho f vs objs K r h
  | true =>
    rw [hf] at h
    have e := Nat.eq_of_beq_eq_true hf
    subst e
    replace h : deed_Game_Lena o vs objs K = some r := h
    unfold deed_Game_Lena at h
    split at h
    · skip
      exact deed_Game_Len_ok _ _ _ _ _ _ _ _ _ rfl (by rename_i hq; first | exact hq | assumption) h
    · exact ho _ _ _ _ _ h

def deed_Game_Backlp : {R : Type} → Nat → List V → List Obj → (Ex → List V → List Obj → Option R) → Option R := fun _ _ _ _ => none

def deed_Game_Backoo : Orc := (piece_Rawo (piece_Kindo (deed_Game_hando (deed_Game_puto (deed_Game_turno oNil)))))

theorem deed_Game_Backoo_ok : OSound Try.prog deed_Game_Backoo := (piece_Rawo_ok _ (piece_Kindo_ok _ (deed_Game_hando_ok _ (deed_Game_puto_ok _ (deed_Game_turno_ok _ oNil_ok)))))

def deed_Game_Backc : Ctx := { tab := tab, eqs := eqs, bytes := bytes, nt := 87, orc := deed_Game_Backoo, keeps := [], lp := deed_Game_Backlp }

theorem deed_Game_Backc_ok : CtxOK Try.prog deed_Game_Backc := ⟨tab_ok, deed_Game_Backoo_ok, eqs_ok, bytes_ok⟩

def deed_Game_Backd : V → List Obj → Option (Bool × Int × Nat × List Int × List Int × Int × List (List Int) × List (List Int) × Nat × List (List Int)) := fun v objs => match v, objs with
  | V.s (S.b y0), [Obj.cells 63 [Seg.one [S.ptr 1 0 none 0, S.i IntKind.u64 y1, S.sl 2 0 y2 true]], Obj.cells 69 [Seg.arr IntKind.i8 81 y3, Seg.arr IntKind.i8 16 y4, Seg.one [S.i IntKind.i8 y5], Seg.rows [.i .u64, .i .u64] 32 y6, Seg.rows [.i .u64, .i .u64] 2 y7], Obj.sli 89 false (Seg.rows [.i .i64, .i .i64, .i .i64, .b, .i .i8, .i .i8] y8 y9)] => some (y0, y1, y2, y3, y4, y5, y6, y7, y8, y9)
  | _, _ => none

theorem deed_Game_Back_eq (x0 : Int) (x1 : Nat) (x2 : List Int) (x3 : List Int) (x4 : Int) (x5 : List (List Int)) (x6 : List (List Int)) (x7 : Nat) (x8 : List (List Int)) : fnE deed_Game_Backc Try.f27 ([V.s (S.ptr 0 0 none 0)]) ([Obj.cells 63 [Seg.one [S.ptr 1 0 none 0, S.i IntKind.u64 x0, S.sl 2 0 x1 true]], Obj.cells 69 [Seg.arr IntKind.i8 81 x2, Seg.arr IntKind.i8 16 x3, Seg.one [S.i IntKind.i8 x4], Seg.rows [.i .u64, .i .u64] 32 x5, Seg.rows [.i .u64, .i .u64] 2 x6], Obj.sli 89 false (Seg.rows [.i .i64, .i .i64, .i .i64, .b, .i .i8, .i .i8] x7 x8)]) deed_Game_Backd = deed_Game_Back x0 x1 x2 x3 x4 x5 x6 x7 x8 := by kernel_rfl

def deed_Game_Backa {R : Type} (o : Orc) (vs : List V) (objs : List Obj) (K : Bool → V → List Obj → Option R) : Option R := match vs, objs with
  | [V.s (S.ptr 0 0 none 0)], [Obj.cells 63 [Seg.one [S.ptr 1 0 none 0, S.i IntKind.u64 x0, S.sl 2 0 x1 true]], Obj.cells 69 [Seg.arr IntKind.i8 81 x2, Seg.arr IntKind.i8 16 x3, Seg.one [S.i IntKind.i8 x4], Seg.rows [.i .u64, .i .u64] 32 x5, Seg.rows [.i .u64, .i .u64] 2 x6], Obj.sli 89 false (Seg.rows [.i .i64, .i .i64, .i .i64, .b, .i .i8, .i .i8] x7 x8)] => ob (deed_Game_Back x0 x1 x2 x3 x4 x5 x6 x7 x8) fun z => K false (V.s (S.b (z.1))) ([Obj.cells 63 [Seg.one [S.ptr 1 0 none 0, S.i IntKind.u64 (z.2.1), S.sl 2 0 (z.2.2.1) true]], Obj.cells 69 [Seg.arr IntKind.i8 81 (z.2.2.2.1), Seg.arr IntKind.i8 16 (z.2.2.2.2.1), Seg.one [S.i IntKind.i8 (z.2.2.2.2.2.1)], Seg.rows [.i .u64, .i .u64] 32 (z.2.2.2.2.2.2.1), Seg.rows [.i .u64, .i .u64] 2 (z.2.2.2.2.2.2.2.1)], Obj.sli 89 false (Seg.rows [.i .i64, .i .i64, .i .i64, .b, .i .i8, .i .i8] (z.2.2.2.2.2.2.2.2.1) (z.2.2.2.2.2.2.2.2.2))])
  | _, _ => o 27 vs objs K

def deed_Game_Backo (o : Orc) : Orc := fun f vs objs K => bif Nat.beq f 27 then deed_Game_Backa o vs objs K else o f vs objs K

theorem deed_Game_Back_ok {vs : List V} {objs : List Obj} (x0 : Int) (x1 : Nat) (x2 : List Int) (x3 : List Int) (x4 : Int) (x5 : List (List Int)) (x6 : List (List Int)) (x7 : Nat) (x8 : List (List Int)) {R : Type} {K : Bool → V → List Obj → Option R} {r : R} (hv : vs = [V.s (S.ptr 0 0 none 0)]) (ho : objs = [Obj.cells 63 [Seg.one [S.ptr 1 0 none 0, S.i IntKind.u64 x0, S.sl 2 0 x1 true]], Obj.cells 69 [Seg.arr IntKind.i8 81 x2, Seg.arr IntKind.i8 16 x3, Seg.one [S.i IntKind.i8 x4], Seg.rows [.i .u64, .i .u64] 32 x5, Seg.rows [.i .u64, .i .u64] 2 x6], Obj.sli 89 false (Seg.rows [.i .i64, .i .i64, .i .i64, .b, .i .i8, .i .i8] x7 x8)]) (h : ob (deed_Game_Back x0 x1 x2 x3 x4 x5 x6 x7 x8) (fun z => K false (V.s (S.b (z.1))) ([Obj.cells 63 [Seg.one [S.ptr 1 0 none 0, S.i IntKind.u64 (z.2.1), S.sl 2 0 (z.2.2.1) true]], Obj.cells 69 [Seg.arr IntKind.i8 81 (z.2.2.2.1), Seg.arr IntKind.i8 16 (z.2.2.2.2.1), Seg.one [S.i IntKind.i8 (z.2.2.2.2.2.1)], Seg.rows [.i .u64, .i .u64] 32 (z.2.2.2.2.2.2.1), Seg.rows [.i .u64, .i .u64] 2 (z.2.2.2.2.2.2.2.1)], Obj.sli 89 false (Seg.rows [.i .i64, .i .i64, .i .i64, .b, .i .i8, .i .i8] (z.2.2.2.2.2.2.2.2.1) (z.2.2.2.2.2.2.2.2.2))])) = some r) :
    ∃ p v objs', K p v objs' = some r ∧ AnyOK Try.prog 27 vs objs p v objs' := by
  subst hv
  subst ho
  obtain ⟨t, h1, h2⟩ := ob_ok h
  refine anyOK_by mixed deed_Game_Backc_ok (objs := [Obj.cells 63 [Seg.one [S.ptr 1 0 none 0, S.i IntKind.u64 x0, S.sl 2 0 x1 true]], Obj.cells 69 [Seg.arr IntKind.i8 81 x2, Seg.arr IntKind.i8 16 x3, Seg.one [S.i IntKind.i8 x4], Seg.rows [.i .u64, .i .u64] 32 x5, Seg.rows [.i .u64, .i .u64] 2 x6], Obj.sli 89 false (Seg.rows [.i .i64, .i .i64, .i .i64, .b, .i .i8, .i .i8] x7 x8)]) (fn := Try.f27) (b := (Try.f27).body.getD .skip) (by kernel_rfl) (by kernel_rfl) (by kernel_rfl) (AllP.of (l' := []) (by kernel_rfl) trivial) ((deed_Game_Back_eq x0 x1 x2 x3 x4 x5 x6 x7 x8).trans h1) fun v objs' hd => ?_
  unfold deed_Game_Backd at hd
  split at hd
  · skip
    cases hd
    exact h2
  · cases hd

theorem deed_Game_Backo_ok (o : Orc) (ho : OSound Try.prog o) : OSound Try.prog (deed_Game_Backo o) := by
  intro R f vs objs K r h
  replace h : (bif Nat.beq f 27 then deed_Game_Backa o vs objs K else o f vs objs K) = some r := h
  cases hf : Nat.beq f 27 with
  | false => rw [hf] at h; exact ho f vs objs K r h
  | true =>
    rw [hf] at h
    have e := Nat.eq_of_beq_eq_true hf
    subst e
    replace h : deed_Game_Backa o vs objs K = some r := h
    unfold deed_Game_Backa at h
    split at h
    · skip
      exact deed_Game_Back_ok _ _ _ _ _ _ _ _ _ rfl rfl h
    · exact ho _ _ _ _ _ h

def law09_makeslp : {R : Type} → Nat → List V → List Obj → (Ex → List V → List Obj → Option R) → Option R := fun _ _ _ _ => none

def law09_makesoo : Orc := (deed_Game_Backo (deed_Game_Leno (board_Ato (deed_Game_Makeo (deed_Newo (board_Starto oNil))))))

theorem law09_makesoo_ok : OSound Try.prog law09_makesoo := (deed_Game_Backo_ok _ (deed_Game_Leno_ok _ (board_Ato_ok _ (deed_Game_Makeo_ok _ (deed_Newo_ok _ (board_Starto_ok _ oNil_ok))))))

def law09_makesc : Ctx := { tab := tab, eqs := eqs, bytes := bytes, nt := 44, orc := law09_makesoo, keeps := [], lp := law09_makeslp }

theorem law09_makesc_ok : CtxOK Try.prog law09_makesc := ⟨tab_ok, law09_makesoo_ok, eqs_ok, bytes_ok⟩

def law09_makesd : V → List Obj → Option (Bool) := fun v objs => match v, objs with
  | V.s (S.b y0), [] => some (y0)
  | _, _ => none

theorem law09_makes_eq : fnE law09_makesc Try.f17 ([]) ([]) law09_makesd = law09_makes  := by kernel_rfl

def law09_makesa {R : Type} (o : Orc) (vs : List V) (objs : List Obj) (K : Bool → V → List Obj → Option R) : Option R := match vs, objs with
  | [], [] => ob (law09_makes ) fun y0 => K false (V.s (S.b y0)) ([])
  | _, _ => o 17 vs objs K

def law09_makeso (o : Orc) : Orc := fun f vs objs K => bif Nat.beq f 17 then law09_makesa o vs objs K else o f vs objs K

theorem law09_makes_ok {vs : List V} {objs : List Obj} {R : Type} {K : Bool → V → List Obj → Option R} {r : R} (hv : vs = []) (ho : objs = []) (h : ob (law09_makes ) (fun y0 => K false (V.s (S.b y0)) ([])) = some r) :
    ∃ p v objs', K p v objs' = some r ∧ AnyOK Try.prog 17 vs objs p v objs' := by
  subst hv
  subst ho
  obtain ⟨t, h1, h2⟩ := ob_ok h
  refine anyOK_by mixed law09_makesc_ok (objs := []) (fn := Try.f17) (b := (Try.f17).body.getD .skip) (by kernel_rfl) (by kernel_rfl) (by kernel_rfl) (AllP.of (l' := []) (by kernel_rfl) trivial) ((law09_makes_eq ).trans h1) fun v objs' hd => ?_
  unfold law09_makesd at hd
  split at hd
  · skip
    cases hd
    exact h2
  · cases hd

theorem law09_makeso_ok (o : Orc) (ho : OSound Try.prog o) : OSound Try.prog (law09_makeso o) := by
  intro R f vs objs K r h
  replace h : (bif Nat.beq f 17 then law09_makesa o vs objs K else o f vs objs K) = some r := h
  cases hf : Nat.beq f 17 with
  | false => rw [hf] at h; exact ho f vs objs K r h
  | true =>
    rw [hf] at h
    have e := Nat.eq_of_beq_eq_true hf
    subst e
    replace h : law09_makesa o vs objs K = some r := h
    unfold law09_makesa at h
    split at h
    · skip
      exact law09_makes_ok rfl rfl h
    · exact ho _ _ _ _ _ h

def ref02_Kindlp : {R : Type} → Nat → List V → List Obj → (Ex → List V → List Obj → Option R) → Option R := fun _ _ _ _ => none

def ref02_Kindoo : Orc := oNil

theorem ref02_Kindoo_ok : OSound Try.prog ref02_Kindoo := oNil_ok

def ref02_Kindc : Ctx := { tab := tab, eqs := eqs, bytes := bytes, nt := 23, orc := ref02_Kindoo, keeps := [], lp := ref02_Kindlp }

theorem ref02_Kindc_ok : CtxOK Try.prog ref02_Kindc := ⟨tab_ok, ref02_Kindoo_ok, eqs_ok, bytes_ok⟩

def ref02_Kindd : V → List Obj → Option (Int) := fun v objs => match v, objs with
  | V.s (S.i IntKind.i64 y0), [] => some (y0)
  | _, _ => none

theorem ref02_Kind_eq (x0 : Int) : fnE ref02_Kindc Try.f33 ([V.s (S.i IntKind.i64 x0)]) ([]) ref02_Kindd = ref02_Kind x0 := by kernel_rfl

def ref02_Kinda {R : Type} (o : Orc) (vs : List V) (objs : List Obj) (K : Bool → V → List Obj → Option R) : Option R := match vs, objs with
  | [V.s (S.i IntKind.i64 x0)], [] => ob (ref02_Kind x0) fun y0 => K false (V.s (S.i IntKind.i64 y0)) ([])
  | _, _ => o 33 vs objs K

def ref02_Kindo (o : Orc) : Orc := fun f vs objs K => bif Nat.beq f 33 then ref02_Kinda o vs objs K else o f vs objs K

theorem ref02_Kind_ok {vs : List V} {objs : List Obj} (x0 : Int) {R : Type} {K : Bool → V → List Obj → Option R} {r : R} (hv : vs = [V.s (S.i IntKind.i64 x0)]) (ho : objs = []) (h : ob (ref02_Kind x0) (fun y0 => K false (V.s (S.i IntKind.i64 y0)) ([])) = some r) :
    ∃ p v objs', K p v objs' = some r ∧ AnyOK Try.prog 33 vs objs p v objs' := by
  subst hv
  subst ho
  obtain ⟨t, h1, h2⟩ := ob_ok h
  refine anyOK_by mixed ref02_Kindc_ok (objs := []) (fn := Try.f33) (b := (Try.f33).body.getD .skip) (by kernel_rfl) (by kernel_rfl) (by kernel_rfl) (AllP.of (l' := []) (by kernel_rfl) trivial) ((ref02_Kind_eq x0).trans h1) fun v objs' hd => ?_
  unfold ref02_Kindd at hd
  split at hd
  · skip
    cases hd
    exact h2
  · cases hd

theorem ref02_Kindo_ok (o : Orc) (ho : OSound Try.prog o) : OSound Try.prog (ref02_Kindo o) := by
  intro R f vs objs K r h
  replace h : (bif Nat.beq f 33 then ref02_Kinda o vs objs K else o f vs objs K) = some r := h
  cases hf : Nat.beq f 33 with
  | false => rw [hf] at h; exact ho f vs objs K r h
  | true =>
    rw [hf] at h
    have e := Nat.eq_of_beq_eq_true hf
    subst e
    replace h : ref02_Kinda o vs objs K = some r := h
    unfold ref02_Kinda at h
    split at h
    · skip
      exact ref02_Kind_ok _ rfl rfl h
    · exact ho _ _ _ _ _ h

def ref09_Cleanl2d : Ex → List V → List Obj → Option (List Int × List Int × Int × List Int × List Int × Int) := fun e vs objs => match e, vs, objs with
  | Ex.exit 0, [V.s (S.ptr 0 0 none 0), V.s (S.ptr 1 0 none 0)], [Obj.cells 34 [Seg.arr IntKind.i8 81 y0, Seg.arr IntKind.i8 16 y1, Seg.one [S.i IntKind.i8 y2]], Obj.cells 34 [Seg.arr IntKind.i8 81 y3, Seg.arr IntKind.i8 16 y4, Seg.one [S.i IntKind.i8 y5]]] => some (y0, y1, y2, y3, y4, y5)
  | _, _, _ => none

def ref09_Cleanp2 {R : Type} (vs : List V) (objs : List Obj) (K : Ex → List V → List Obj → Option R) : Option R := match vs, objs with
  | [V.s (S.ptr 0 0 none 0), V.s (S.ptr 1 0 none 0), V.s (S.i IntKind.i64 x0)], [Obj.cells 34 [Seg.arr IntKind.i8 81 x1, Seg.arr IntKind.i8 16 x2, Seg.one [S.i IntKind.i8 x3]], Obj.cells 34 [Seg.arr IntKind.i8 81 x4, Seg.arr IntKind.i8 16 x5, Seg.one [S.i IntKind.i8 x6]]] => ob (ref09_Cleanl2 many x0 x1 x2 x3 x4 x5 x6) fun z => K (Ex.exit 0) ([V.s (S.ptr 0 0 none 0), V.s (S.ptr 1 0 none 0)]) ([Obj.cells 34 [Seg.arr IntKind.i8 81 (z.1), Seg.arr IntKind.i8 16 (z.2.1), Seg.one [S.i IntKind.i8 (z.2.2.1)]], Obj.cells 34 [Seg.arr IntKind.i8 81 (z.2.2.2.1), Seg.arr IntKind.i8 16 (z.2.2.2.2.1), Seg.one [S.i IntKind.i8 (z.2.2.2.2.2)]]])
  | _, _ => none

def ref09_Cleanlp : {R : Type} → Nat → List V → List Obj → (Ex → List V → List Obj → Option R) → Option R := fun q vs objs K => bif Nat.beq q 2 then ref09_Cleanp2 vs objs K else none

def ref09_Cleanoo : Orc := (ref02_Kindo oNil)

theorem ref09_Cleanoo_ok : OSound Try.prog ref09_Cleanoo := (ref02_Kindo_ok _ oNil_ok)

def ref09_Cleanc : Ctx := { tab := tab, eqs := eqs, bytes := bytes, nt := 19, orc := ref09_Cleanoo, keeps := [(2, [1, 2, 3], [1, 2])], lp := ref09_Cleanlp }

theorem ref09_Cleanc_ok : CtxOK Try.prog ref09_Cleanc := ⟨tab_ok, ref09_Cleanoo_ok, eqs_ok, bytes_ok⟩

theorem ref09_Cleanl2_step (f : Nat) (x0 : Int) (x1 : List Int) (x2 : List Int) (x3 : Int) (x4 : List Int) (x5 : List Int) (x6 : Int) : lrun ref09_Cleanc 0 [1, 2, 3] [1, 2] (loopOf Try.f18 2) (f + 1) ([V.s (S.ptr 0 0 none 0), V.s (S.ptr 1 0 none 0), V.s (S.i IntKind.i64 x0)]) ([Obj.cells 34 [Seg.arr IntKind.i8 81 x1, Seg.arr IntKind.i8 16 x2, Seg.one [S.i IntKind.i8 x3]], Obj.cells 34 [Seg.arr IntKind.i8 81 x4, Seg.arr IntKind.i8 16 x5, Seg.one [S.i IntKind.i8 x6]]]) ref09_Cleanl2d = ref09_Cleanl2s (fun x0 x1 x2 x3 x4 x5 x6 => lrun ref09_Cleanc 0 [1, 2, 3] [1, 2] (loopOf Try.f18 2) f ([V.s (S.ptr 0 0 none 0), V.s (S.ptr 1 0 none 0), V.s (S.i IntKind.i64 x0)]) ([Obj.cells 34 [Seg.arr IntKind.i8 81 x1, Seg.arr IntKind.i8 16 x2, Seg.one [S.i IntKind.i8 x3]], Obj.cells 34 [Seg.arr IntKind.i8 81 x4, Seg.arr IntKind.i8 16 x5, Seg.one [S.i IntKind.i8 x6]]]) ref09_Cleanl2d) x0 x1 x2 x3 x4 x5 x6 := by kernel_rfl

theorem ref09_Cleanl2_eq (f : Nat) : ∀ (x0 : Int) (x1 : List Int) (x2 : List Int) (x3 : Int) (x4 : List Int) (x5 : List Int) (x6 : Int), lrun ref09_Cleanc 0 [1, 2, 3] [1, 2] (loopOf Try.f18 2) f ([V.s (S.ptr 0 0 none 0), V.s (S.ptr 1 0 none 0), V.s (S.i IntKind.i64 x0)]) ([Obj.cells 34 [Seg.arr IntKind.i8 81 x1, Seg.arr IntKind.i8 16 x2, Seg.one [S.i IntKind.i8 x3]], Obj.cells 34 [Seg.arr IntKind.i8 81 x4, Seg.arr IntKind.i8 16 x5, Seg.one [S.i IntKind.i8 x6]]]) ref09_Cleanl2d = ref09_Cleanl2 f x0 x1 x2 x3 x4 x5 x6 := by
  induction f with
  | zero => intros; rfl
  | succ f ih =>
    intro x0 x1 x2 x3 x4 x5 x6
    rw [ref09_Cleanl2_step]
    have e : (fun x0 x1 x2 x3 x4 x5 x6 => lrun ref09_Cleanc 0 [1, 2, 3] [1, 2] (loopOf Try.f18 2) f ([V.s (S.ptr 0 0 none 0), V.s (S.ptr 1 0 none 0), V.s (S.i IntKind.i64 x0)]) ([Obj.cells 34 [Seg.arr IntKind.i8 81 x1, Seg.arr IntKind.i8 16 x2, Seg.one [S.i IntKind.i8 x3]], Obj.cells 34 [Seg.arr IntKind.i8 81 x4, Seg.arr IntKind.i8 16 x5, Seg.one [S.i IntKind.i8 x6]]]) ref09_Cleanl2d) = ref09_Cleanl2 f := by
      funext x0 x1 x2 x3 x4 x5 x6
      exact ih x0 x1 x2 x3 x4 x5 x6
    rw [e]
    rfl

theorem ref09_Cleans2 : LoopSound Try.prog ref09_Cleanc 0 (loopOf Try.f18 2) :=
  loopSound_by mixed ref09_Cleanc_ok (AllP.of (l' := []) (by kernel_rfl) trivial) (q := 2) (kin := [1, 2, 3]) (kout := [1, 2]) (by kernel_rfl) (by kernel_rfl) fun vs objs K r h => by
    replace h : ref09_Cleanp2 vs objs K = some r := h
    unfold ref09_Cleanp2 at h
    split at h
    · skip
      obtain ⟨t, h1, h2⟩ := ob_ok h
      refine ⟨_, ref09_Cleanl2d, t, many, (ref09_Cleanl2_eq many _ _ _ _ _ _ _).trans h1, fun e vs' objs' hd => ?_⟩
      unfold ref09_Cleanl2d at hd
      split at hd
      · skip
        cases hd
        exact h2
      · cases hd
    · cases h

def ref09_Cleand : V → List Obj → Option (List Int × List Int × Int) := fun v objs => match v, objs with
  | V.agg [Seg.arr IntKind.i8 81 y0, Seg.arr IntKind.i8 16 y1, Seg.one [S.i IntKind.i8 y2]], [] => some (y0, y1, y2)
  | _, _ => none

theorem ref09_Clean_eq (x0 : List Int) (x1 : List Int) (x2 : Int) : fnE ref09_Cleanc Try.f18 ([V.agg [Seg.arr IntKind.i8 81 x0, Seg.arr IntKind.i8 16 x1, Seg.one [S.i IntKind.i8 x2]]]) ([]) ref09_Cleand = ref09_Clean x0 x1 x2 := by kernel_rfl

def ref09_Cleana {R : Type} (o : Orc) (vs : List V) (objs : List Obj) (K : Bool → V → List Obj → Option R) : Option R := match vs, objs with
  | [V.agg [Seg.arr IntKind.i8 81 x0, Seg.arr IntKind.i8 16 x1, Seg.one [S.i IntKind.i8 x2]]], [] => ob (ref09_Clean x0 x1 x2) fun z => K false (V.agg [Seg.arr IntKind.i8 81 (z.1), Seg.arr IntKind.i8 16 (z.2.1), Seg.one [S.i IntKind.i8 (z.2.2)]]) ([])
  | _, _ => o 18 vs objs K

def ref09_Cleano (o : Orc) : Orc := fun f vs objs K => bif Nat.beq f 18 then ref09_Cleana o vs objs K else o f vs objs K

theorem ref09_Clean_ok {vs : List V} {objs : List Obj} (x0 : List Int) (x1 : List Int) (x2 : Int) {R : Type} {K : Bool → V → List Obj → Option R} {r : R} (hv : vs = [V.agg [Seg.arr IntKind.i8 81 x0, Seg.arr IntKind.i8 16 x1, Seg.one [S.i IntKind.i8 x2]]]) (ho : objs = []) (h : ob (ref09_Clean x0 x1 x2) (fun z => K false (V.agg [Seg.arr IntKind.i8 81 (z.1), Seg.arr IntKind.i8 16 (z.2.1), Seg.one [S.i IntKind.i8 (z.2.2)]]) ([])) = some r) :
    ∃ p v objs', K p v objs' = some r ∧ AnyOK Try.prog 18 vs objs p v objs' := by
  subst hv
  subst ho
  obtain ⟨t, h1, h2⟩ := ob_ok h
  refine anyOK_by mixed ref09_Cleanc_ok (objs := []) (fn := Try.f18) (b := (Try.f18).body.getD .skip) (by kernel_rfl) (by kernel_rfl) (by kernel_rfl) (AllP.of (l' := [loopOf Try.f18 2]) (by kernel_rfl) ⟨ref09_Cleans2, trivial⟩) ((ref09_Clean_eq x0 x1 x2).trans h1) fun v objs' hd => ?_
  unfold ref09_Cleand at hd
  split at hd
  · skip
    cases hd
    exact h2
  · cases hd

theorem ref09_Cleano_ok (o : Orc) (ho : OSound Try.prog o) : OSound Try.prog (ref09_Cleano o) := by
  intro R f vs objs K r h
  replace h : (bif Nat.beq f 18 then ref09_Cleana o vs objs K else o f vs objs K) = some r := h
  cases hf : Nat.beq f 18 with
  | false => rw [hf] at h; exact ho f vs objs K r h
  | true =>
    rw [hf] at h
    have e := Nat.eq_of_beq_eq_true hf
    subst e
    replace h : ref09_Cleana o vs objs K = some r := h
    unfold ref09_Cleana at h
    split at h
    · skip
      exact ref09_Clean_ok _ _ _ rfl rfl h
    · exact ho _ _ _ _ _ h

def ref05_Onl3d : Ex → List V → List Obj → Option (Int) := fun e vs objs => match e, vs, objs with
  | Ex.exit 0, [V.s (S.i IntKind.i64 y0)], [] => some (y0)
  | _, _, _ => none

def ref05_Onp3 {R : Type} (vs : List V) (objs : List Obj) (K : Ex → List V → List Obj → Option R) : Option R := match vs, objs with
  | [V.s (S.i IntKind.i64 x0), V.s (S.i IntKind.i64 x1), V.s (S.ptr 0 0 none 0), V.s (S.i IntKind.i64 x2), V.s (S.i IntKind.i64 x3)], [Obj.cells 34 [Seg.arr IntKind.i8 81 x4, Seg.arr IntKind.i8 16 x5, Seg.one [S.i IntKind.i8 x6]]] => ob (ref05_Onl3 many x0 x1 x2 x3 x4 x5 x6) fun y0 => K (Ex.exit 0) ([V.s (S.i IntKind.i64 y0)]) ([])
  | _, _ => none

def ref05_Onlp : {R : Type} → Nat → List V → List Obj → (Ex → List V → List Obj → Option R) → Option R := fun q vs objs K => bif Nat.beq q 3 then ref05_Onp3 vs objs K else none

def ref05_Onoo : Orc := oNil

theorem ref05_Onoo_ok : OSound Try.prog ref05_Onoo := oNil_ok

def ref05_Onc : Ctx := { tab := tab, eqs := eqs, bytes := bytes, nt := 26, orc := ref05_Onoo, keeps := [(3, [1, 2, 3, 7, 8], [7])], lp := ref05_Onlp }

theorem ref05_Onc_ok : CtxOK Try.prog ref05_Onc := ⟨tab_ok, ref05_Onoo_ok, eqs_ok, bytes_ok⟩

theorem ref05_Onl3_step (f : Nat) (x0 : Int) (x1 : Int) (x2 : Int) (x3 : Int) (x4 : List Int) (x5 : List Int) (x6 : Int) : lrun ref05_Onc 0 [1, 2, 3, 7, 8] [7] (loopOf Try.f37 3) (f + 1) ([V.s (S.i IntKind.i64 x0), V.s (S.i IntKind.i64 x1), V.s (S.ptr 0 0 none 0), V.s (S.i IntKind.i64 x2), V.s (S.i IntKind.i64 x3)]) ([Obj.cells 34 [Seg.arr IntKind.i8 81 x4, Seg.arr IntKind.i8 16 x5, Seg.one [S.i IntKind.i8 x6]]]) ref05_Onl3d = ref05_Onl3s (fun x0 x1 x2 x3 x4 x5 x6 => lrun ref05_Onc 0 [1, 2, 3, 7, 8] [7] (loopOf Try.f37 3) f ([V.s (S.i IntKind.i64 x0), V.s (S.i IntKind.i64 x1), V.s (S.ptr 0 0 none 0), V.s (S.i IntKind.i64 x2), V.s (S.i IntKind.i64 x3)]) ([Obj.cells 34 [Seg.arr IntKind.i8 81 x4, Seg.arr IntKind.i8 16 x5, Seg.one [S.i IntKind.i8 x6]]]) ref05_Onl3d) x0 x1 x2 x3 x4 x5 x6 := by kernel_rfl

theorem ref05_Onl3_eq (f : Nat) : ∀ (x0 : Int) (x1 : Int) (x2 : Int) (x3 : Int) (x4 : List Int) (x5 : List Int) (x6 : Int), lrun ref05_Onc 0 [1, 2, 3, 7, 8] [7] (loopOf Try.f37 3) f ([V.s (S.i IntKind.i64 x0), V.s (S.i IntKind.i64 x1), V.s (S.ptr 0 0 none 0), V.s (S.i IntKind.i64 x2), V.s (S.i IntKind.i64 x3)]) ([Obj.cells 34 [Seg.arr IntKind.i8 81 x4, Seg.arr IntKind.i8 16 x5, Seg.one [S.i IntKind.i8 x6]]]) ref05_Onl3d = ref05_Onl3 f x0 x1 x2 x3 x4 x5 x6 := by
  induction f with
  | zero => intros; rfl
  | succ f ih =>
    intro x0 x1 x2 x3 x4 x5 x6
    rw [ref05_Onl3_step]
    have e : (fun x0 x1 x2 x3 x4 x5 x6 => lrun ref05_Onc 0 [1, 2, 3, 7, 8] [7] (loopOf Try.f37 3) f ([V.s (S.i IntKind.i64 x0), V.s (S.i IntKind.i64 x1), V.s (S.ptr 0 0 none 0), V.s (S.i IntKind.i64 x2), V.s (S.i IntKind.i64 x3)]) ([Obj.cells 34 [Seg.arr IntKind.i8 81 x4, Seg.arr IntKind.i8 16 x5, Seg.one [S.i IntKind.i8 x6]]]) ref05_Onl3d) = ref05_Onl3 f := by
      funext x0 x1 x2 x3 x4 x5 x6
      exact ih x0 x1 x2 x3 x4 x5 x6
    rw [e]
    rfl

theorem ref05_Ons3 : LoopSound Try.prog ref05_Onc 0 (loopOf Try.f37 3) :=
  loopSound_by mixed ref05_Onc_ok (AllP.of (l' := []) (by kernel_rfl) trivial) (q := 3) (kin := [1, 2, 3, 7, 8]) (kout := [7]) (by kernel_rfl) (by kernel_rfl) fun vs objs K r h => by
    replace h : ref05_Onp3 vs objs K = some r := h
    unfold ref05_Onp3 at h
    split at h
    · skip
      obtain ⟨t, h1, h2⟩ := ob_ok h
      refine ⟨_, ref05_Onl3d, t, many, (ref05_Onl3_eq many _ _ _ _ _ _ _).trans h1, fun e vs' objs' hd => ?_⟩
      unfold ref05_Onl3d at hd
      split at hd
      · skip
        cases hd
        exact h2
      · cases hd
    · cases h

def ref05_Ond : V → List Obj → Option (Int) := fun v objs => match v, objs with
  | V.s (S.i IntKind.i64 y0), [] => some (y0)
  | _, _ => none

theorem ref05_On_eq (x0 : List Int) (x1 : List Int) (x2 : Int) (x3 : Int) (x4 : Int) : fnE ref05_Onc Try.f37 ([V.agg [Seg.arr IntKind.i8 81 x0, Seg.arr IntKind.i8 16 x1, Seg.one [S.i IntKind.i8 x2]], V.s (S.i IntKind.i64 x3), V.s (S.i IntKind.i64 x4)]) ([]) ref05_Ond = ref05_On x0 x1 x2 x3 x4 := by kernel_rfl

def ref05_Ona {R : Type} (o : Orc) (vs : List V) (objs : List Obj) (K : Bool → V → List Obj → Option R) : Option R := match vs, objs with
  | [V.agg [Seg.arr IntKind.i8 81 x0, Seg.arr IntKind.i8 16 x1, Seg.one [S.i IntKind.i8 x2]], V.s (S.i IntKind.i64 x3), V.s (S.i IntKind.i64 x4)], [] => ob (ref05_On x0 x1 x2 x3 x4) fun y0 => K false (V.s (S.i IntKind.i64 y0)) ([])
  | _, _ => o 37 vs objs K

def ref05_Ono (o : Orc) : Orc := fun f vs objs K => bif Nat.beq f 37 then ref05_Ona o vs objs K else o f vs objs K

theorem ref05_On_ok {vs : List V} {objs : List Obj} (x0 : List Int) (x1 : List Int) (x2 : Int) (x3 : Int) (x4 : Int) {R : Type} {K : Bool → V → List Obj → Option R} {r : R} (hv : vs = [V.agg [Seg.arr IntKind.i8 81 x0, Seg.arr IntKind.i8 16 x1, Seg.one [S.i IntKind.i8 x2]], V.s (S.i IntKind.i64 x3), V.s (S.i IntKind.i64 x4)]) (ho : objs = []) (h : ob (ref05_On x0 x1 x2 x3 x4) (fun y0 => K false (V.s (S.i IntKind.i64 y0)) ([])) = some r) :
    ∃ p v objs', K p v objs' = some r ∧ AnyOK Try.prog 37 vs objs p v objs' := by
  subst hv
  subst ho
  obtain ⟨t, h1, h2⟩ := ob_ok h
  refine anyOK_by mixed ref05_Onc_ok (objs := []) (fn := Try.f37) (b := (Try.f37).body.getD .skip) (by kernel_rfl) (by kernel_rfl) (by kernel_rfl) (AllP.of (l' := [loopOf Try.f37 3]) (by kernel_rfl) ⟨ref05_Ons3, trivial⟩) ((ref05_On_eq x0 x1 x2 x3 x4).trans h1) fun v objs' hd => ?_
  unfold ref05_Ond at hd
  split at hd
  · skip
    cases hd
    exact h2
  · cases hd

theorem ref05_Ono_ok (o : Orc) (ho : OSound Try.prog o) : OSound Try.prog (ref05_Ono o) := by
  intro R f vs objs K r h
  replace h : (bif Nat.beq f 37 then ref05_Ona o vs objs K else o f vs objs K) = some r := h
  cases hf : Nat.beq f 37 with
  | false => rw [hf] at h; exact ho f vs objs K r h
  | true =>
    rw [hf] at h
    have e := Nat.eq_of_beq_eq_true hf
    subst e
    replace h : ref05_Ona o vs objs K = some r := h
    unfold ref05_Ona at h
    split at h
    · skip
      exact ref05_On_ok _ _ _ _ _ rfl rfl h
    · exact ho _ _ _ _ _ h

def ref05_alll3d : Ex → List V → List Obj → Option (Int) := fun e vs objs => match e, vs, objs with
  | Ex.exit 0, [V.s (S.i IntKind.i64 y0)], [] => some (y0)
  | _, _, _ => none

def ref05_allp3 {R : Type} (vs : List V) (objs : List Obj) (K : Ex → List V → List Obj → Option R) : Option R := match vs, objs with
  | [V.s (S.i IntKind.i64 x0), V.s (S.ptr 0 0 none 0), V.s (S.i IntKind.i64 x1), V.s (S.i IntKind.i64 x2)], [Obj.cells 34 [Seg.arr IntKind.i8 81 x3, Seg.arr IntKind.i8 16 x4, Seg.one [S.i IntKind.i8 x5]]] => ob (ref05_alll3 many x0 x1 x2 x3 x4 x5) fun y0 => K (Ex.exit 0) ([V.s (S.i IntKind.i64 y0)]) ([])
  | _, _ => none

def ref05_alllp : {R : Type} → Nat → List V → List Obj → (Ex → List V → List Obj → Option R) → Option R := fun q vs objs K => bif Nat.beq q 3 then ref05_allp3 vs objs K else none

def ref05_alloo : Orc := (ref05_Ono oNil)

theorem ref05_alloo_ok : OSound Try.prog ref05_alloo := (ref05_Ono_ok _ oNil_ok)

def ref05_allc : Ctx := { tab := tab, eqs := eqs, bytes := bytes, nt := 18, orc := ref05_alloo, keeps := [(3, [1, 2, 5, 6], [5])], lp := ref05_alllp }

theorem ref05_allc_ok : CtxOK Try.prog ref05_allc := ⟨tab_ok, ref05_alloo_ok, eqs_ok, bytes_ok⟩

theorem ref05_alll3_step (f : Nat) (x0 : Int) (x1 : Int) (x2 : Int) (x3 : List Int) (x4 : List Int) (x5 : Int) : lrun ref05_allc 0 [1, 2, 5, 6] [5] (loopOf Try.f34 3) (f + 1) ([V.s (S.i IntKind.i64 x0), V.s (S.ptr 0 0 none 0), V.s (S.i IntKind.i64 x1), V.s (S.i IntKind.i64 x2)]) ([Obj.cells 34 [Seg.arr IntKind.i8 81 x3, Seg.arr IntKind.i8 16 x4, Seg.one [S.i IntKind.i8 x5]]]) ref05_alll3d = ref05_alll3s (fun x0 x1 x2 x3 x4 x5 => lrun ref05_allc 0 [1, 2, 5, 6] [5] (loopOf Try.f34 3) f ([V.s (S.i IntKind.i64 x0), V.s (S.ptr 0 0 none 0), V.s (S.i IntKind.i64 x1), V.s (S.i IntKind.i64 x2)]) ([Obj.cells 34 [Seg.arr IntKind.i8 81 x3, Seg.arr IntKind.i8 16 x4, Seg.one [S.i IntKind.i8 x5]]]) ref05_alll3d) x0 x1 x2 x3 x4 x5 := by kernel_rfl

theorem ref05_alll3_eq (f : Nat) : ∀ (x0 : Int) (x1 : Int) (x2 : Int) (x3 : List Int) (x4 : List Int) (x5 : Int), lrun ref05_allc 0 [1, 2, 5, 6] [5] (loopOf Try.f34 3) f ([V.s (S.i IntKind.i64 x0), V.s (S.ptr 0 0 none 0), V.s (S.i IntKind.i64 x1), V.s (S.i IntKind.i64 x2)]) ([Obj.cells 34 [Seg.arr IntKind.i8 81 x3, Seg.arr IntKind.i8 16 x4, Seg.one [S.i IntKind.i8 x5]]]) ref05_alll3d = ref05_alll3 f x0 x1 x2 x3 x4 x5 := by
  induction f with
  | zero => intros; rfl
  | succ f ih =>
    intro x0 x1 x2 x3 x4 x5
    rw [ref05_alll3_step]
    have e : (fun x0 x1 x2 x3 x4 x5 => lrun ref05_allc 0 [1, 2, 5, 6] [5] (loopOf Try.f34 3) f ([V.s (S.i IntKind.i64 x0), V.s (S.ptr 0 0 none 0), V.s (S.i IntKind.i64 x1), V.s (S.i IntKind.i64 x2)]) ([Obj.cells 34 [Seg.arr IntKind.i8 81 x3, Seg.arr IntKind.i8 16 x4, Seg.one [S.i IntKind.i8 x5]]]) ref05_alll3d) = ref05_alll3 f := by
      funext x0 x1 x2 x3 x4 x5
      exact ih x0 x1 x2 x3 x4 x5
    rw [e]
    rfl

theorem ref05_alls3 : LoopSound Try.prog ref05_allc 0 (loopOf Try.f34 3) :=
  loopSound_by mixed ref05_allc_ok (AllP.of (l' := []) (by kernel_rfl) trivial) (q := 3) (kin := [1, 2, 5, 6]) (kout := [5]) (by kernel_rfl) (by kernel_rfl) fun vs objs K r h => by
    replace h : ref05_allp3 vs objs K = some r := h
    unfold ref05_allp3 at h
    split at h
    · skip
      obtain ⟨t, h1, h2⟩ := ob_ok h
      refine ⟨_, ref05_alll3d, t, many, (ref05_alll3_eq many _ _ _ _ _ _).trans h1, fun e vs' objs' hd => ?_⟩
      unfold ref05_alll3d at hd
      split at hd
      · skip
        cases hd
        exact h2
      · cases hd
    · cases h

def ref05_alld : V → List Obj → Option (Int) := fun v objs => match v, objs with
  | V.s (S.i IntKind.i64 y0), [] => some (y0)
  | _, _ => none

theorem ref05_all_eq (x0 : List Int) (x1 : List Int) (x2 : Int) (x3 : Int) : fnE ref05_allc Try.f34 ([V.agg [Seg.arr IntKind.i8 81 x0, Seg.arr IntKind.i8 16 x1, Seg.one [S.i IntKind.i8 x2]], V.s (S.i IntKind.i64 x3)]) ([]) ref05_alld = ref05_all x0 x1 x2 x3 := by kernel_rfl

def ref05_alla {R : Type} (o : Orc) (vs : List V) (objs : List Obj) (K : Bool → V → List Obj → Option R) : Option R := match vs, objs with
  | [V.agg [Seg.arr IntKind.i8 81 x0, Seg.arr IntKind.i8 16 x1, Seg.one [S.i IntKind.i8 x2]], V.s (S.i IntKind.i64 x3)], [] => ob (ref05_all x0 x1 x2 x3) fun y0 => K false (V.s (S.i IntKind.i64 y0)) ([])
  | _, _ => o 34 vs objs K

def ref05_allo (o : Orc) : Orc := fun f vs objs K => bif Nat.beq f 34 then ref05_alla o vs objs K else o f vs objs K

theorem ref05_all_ok {vs : List V} {objs : List Obj} (x0 : List Int) (x1 : List Int) (x2 : Int) (x3 : Int) {R : Type} {K : Bool → V → List Obj → Option R} {r : R} (hv : vs = [V.agg [Seg.arr IntKind.i8 81 x0, Seg.arr IntKind.i8 16 x1, Seg.one [S.i IntKind.i8 x2]], V.s (S.i IntKind.i64 x3)]) (ho : objs = []) (h : ob (ref05_all x0 x1 x2 x3) (fun y0 => K false (V.s (S.i IntKind.i64 y0)) ([])) = some r) :
    ∃ p v objs', K p v objs' = some r ∧ AnyOK Try.prog 34 vs objs p v objs' := by
  subst hv
  subst ho
  obtain ⟨t, h1, h2⟩ := ob_ok h
  refine anyOK_by mixed ref05_allc_ok (objs := []) (fn := Try.f34) (b := (Try.f34).body.getD .skip) (by kernel_rfl) (by kernel_rfl) (by kernel_rfl) (AllP.of (l' := [loopOf Try.f34 3]) (by kernel_rfl) ⟨ref05_alls3, trivial⟩) ((ref05_all_eq x0 x1 x2 x3).trans h1) fun v objs' hd => ?_
  unfold ref05_alld at hd
  split at hd
  · skip
    cases hd
    exact h2
  · cases hd

theorem ref05_allo_ok (o : Orc) (ho : OSound Try.prog o) : OSound Try.prog (ref05_allo o) := by
  intro R f vs objs K r h
  replace h : (bif Nat.beq f 34 then ref05_alla o vs objs K else o f vs objs K) = some r := h
  cases hf : Nat.beq f 34 with
  | false => rw [hf] at h; exact ho f vs objs K r h
  | true =>
    rw [hf] at h
    have e := Nat.eq_of_beq_eq_true hf
    subst e
    replace h : ref05_alla o vs objs K = some r := h
    unfold ref05_alla at h
    split at h
    · skip
      exact ref05_all_ok _ _ _ _ rfl rfl h
    · exact ho _ _ _ _ _ h

def ref02_Rawlp : {R : Type} → Nat → List V → List Obj → (Ex → List V → List Obj → Option R) → Option R := fun _ _ _ _ => none

def ref02_Rawoo : Orc := oNil

theorem ref02_Rawoo_ok : OSound Try.prog ref02_Rawoo := oNil_ok

def ref02_Rawc : Ctx := { tab := tab, eqs := eqs, bytes := bytes, nt := 18, orc := ref02_Rawoo, keeps := [], lp := ref02_Rawlp }

theorem ref02_Rawc_ok : CtxOK Try.prog ref02_Rawc := ⟨tab_ok, ref02_Rawoo_ok, eqs_ok, bytes_ok⟩

def ref02_Rawd : V → List Obj → Option (Int) := fun v objs => match v, objs with
  | V.s (S.i IntKind.i64 y0), [] => some (y0)
  | _, _ => none

theorem ref02_Raw_eq (x0 : Int) : fnE ref02_Rawc Try.f52 ([V.s (S.i IntKind.i64 x0)]) ([]) ref02_Rawd = ref02_Raw x0 := by kernel_rfl

def ref02_Rawa {R : Type} (o : Orc) (vs : List V) (objs : List Obj) (K : Bool → V → List Obj → Option R) : Option R := match vs, objs with
  | [V.s (S.i IntKind.i64 x0)], [] => ob (ref02_Raw x0) fun y0 => K false (V.s (S.i IntKind.i64 y0)) ([])
  | _, _ => o 52 vs objs K

def ref02_Rawo (o : Orc) : Orc := fun f vs objs K => bif Nat.beq f 52 then ref02_Rawa o vs objs K else o f vs objs K

theorem ref02_Raw_ok {vs : List V} {objs : List Obj} (x0 : Int) {R : Type} {K : Bool → V → List Obj → Option R} {r : R} (hv : vs = [V.s (S.i IntKind.i64 x0)]) (ho : objs = []) (h : ob (ref02_Raw x0) (fun y0 => K false (V.s (S.i IntKind.i64 y0)) ([])) = some r) :
    ∃ p v objs', K p v objs' = some r ∧ AnyOK Try.prog 52 vs objs p v objs' := by
  subst hv
  subst ho
  obtain ⟨t, h1, h2⟩ := ob_ok h
  refine anyOK_by mixed ref02_Rawc_ok (objs := []) (fn := Try.f52) (b := (Try.f52).body.getD .skip) (by kernel_rfl) (by kernel_rfl) (by kernel_rfl) (AllP.of (l' := []) (by kernel_rfl) trivial) ((ref02_Raw_eq x0).trans h1) fun v objs' hd => ?_
  unfold ref02_Rawd at hd
  split at hd
  · skip
    cases hd
    exact h2
  · cases hd

theorem ref02_Rawo_ok (o : Orc) (ho : OSound Try.prog o) : OSound Try.prog (ref02_Rawo o) := by
  intro R f vs objs K r h
  replace h : (bif Nat.beq f 52 then ref02_Rawa o vs objs K else o f vs objs K) = some r := h
  cases hf : Nat.beq f 52 with
  | false => rw [hf] at h; exact ho f vs objs K r h
  | true =>
    rw [hf] at h
    have e := Nat.eq_of_beq_eq_true hf
    subst e
    replace h : ref02_Rawa o vs objs K = some r := h
    unfold ref02_Rawa at h
    split at h
    · skip
      exact ref02_Raw_ok _ rfl rfl h
    · exact ho _ _ _ _ _ h

def ref05_Countl3d : Ex → List V → List Obj → Option (Int × Int × List Int × List Int × Int) := fun e vs objs => match e, vs, objs with
  | Ex.exit 0, [V.s (S.i IntKind.i64 y0), V.s (S.ptr 0 0 none 0), V.s (S.i IntKind.i64 y1)], [Obj.cells 34 [Seg.arr IntKind.i8 81 y2, Seg.arr IntKind.i8 16 y3, Seg.one [S.i IntKind.i8 y4]]] => some (y0, y1, y2, y3, y4)
  | _, _, _ => none

def ref05_Countp3 {R : Type} (vs : List V) (objs : List Obj) (K : Ex → List V → List Obj → Option R) : Option R := match vs, objs with
  | [V.s (S.i IntKind.i64 x0), V.s (S.ptr 0 0 none 0), V.s (S.i IntKind.i64 x1), V.s (S.i IntKind.i64 x2)], [Obj.cells 34 [Seg.arr IntKind.i8 81 x3, Seg.arr IntKind.i8 16 x4, Seg.one [S.i IntKind.i8 x5]]] => ob (ref05_Countl3 many x0 x1 x2 x3 x4 x5) fun z => K (Ex.exit 0) ([V.s (S.i IntKind.i64 (z.1)), V.s (S.ptr 0 0 none 0), V.s (S.i IntKind.i64 (z.2.1))]) ([Obj.cells 34 [Seg.arr IntKind.i8 81 (z.2.2.1), Seg.arr IntKind.i8 16 (z.2.2.2.1), Seg.one [S.i IntKind.i8 (z.2.2.2.2)]]])
  | _, _ => none

def ref05_Countlp : {R : Type} → Nat → List V → List Obj → (Ex → List V → List Obj → Option R) → Option R := fun q vs objs K => bif Nat.beq q 3 then ref05_Countp3 vs objs K else none

def ref05_Countoo : Orc := (ref02_Rawo (ref02_Kindo oNil))

theorem ref05_Countoo_ok : OSound Try.prog ref05_Countoo := (ref02_Rawo_ok _ (ref02_Kindo_ok _ oNil_ok))

def ref05_Countc : Ctx := { tab := tab, eqs := eqs, bytes := bytes, nt := 37, orc := ref05_Countoo, keeps := [(3, [1, 2, 5, 6], [1, 2, 5])], lp := ref05_Countlp }

theorem ref05_Countc_ok : CtxOK Try.prog ref05_Countc := ⟨tab_ok, ref05_Countoo_ok, eqs_ok, bytes_ok⟩

theorem ref05_Countl3_step (f : Nat) (x0 : Int) (x1 : Int) (x2 : Int) (x3 : List Int) (x4 : List Int) (x5 : Int) : lrun ref05_Countc 0 [1, 2, 5, 6] [1, 2, 5] (loopOf Try.f29 3) (f + 1) ([V.s (S.i IntKind.i64 x0), V.s (S.ptr 0 0 none 0), V.s (S.i IntKind.i64 x1), V.s (S.i IntKind.i64 x2)]) ([Obj.cells 34 [Seg.arr IntKind.i8 81 x3, Seg.arr IntKind.i8 16 x4, Seg.one [S.i IntKind.i8 x5]]]) ref05_Countl3d = ref05_Countl3s (fun x0 x1 x2 x3 x4 x5 => lrun ref05_Countc 0 [1, 2, 5, 6] [1, 2, 5] (loopOf Try.f29 3) f ([V.s (S.i IntKind.i64 x0), V.s (S.ptr 0 0 none 0), V.s (S.i IntKind.i64 x1), V.s (S.i IntKind.i64 x2)]) ([Obj.cells 34 [Seg.arr IntKind.i8 81 x3, Seg.arr IntKind.i8 16 x4, Seg.one [S.i IntKind.i8 x5]]]) ref05_Countl3d) x0 x1 x2 x3 x4 x5 := by kernel_rfl

theorem ref05_Countl3_eq (f : Nat) : ∀ (x0 : Int) (x1 : Int) (x2 : Int) (x3 : List Int) (x4 : List Int) (x5 : Int), lrun ref05_Countc 0 [1, 2, 5, 6] [1, 2, 5] (loopOf Try.f29 3) f ([V.s (S.i IntKind.i64 x0), V.s (S.ptr 0 0 none 0), V.s (S.i IntKind.i64 x1), V.s (S.i IntKind.i64 x2)]) ([Obj.cells 34 [Seg.arr IntKind.i8 81 x3, Seg.arr IntKind.i8 16 x4, Seg.one [S.i IntKind.i8 x5]]]) ref05_Countl3d = ref05_Countl3 f x0 x1 x2 x3 x4 x5 := by
  induction f with
  | zero => intros; rfl
  | succ f ih =>
    intro x0 x1 x2 x3 x4 x5
    rw [ref05_Countl3_step]
    have e : (fun x0 x1 x2 x3 x4 x5 => lrun ref05_Countc 0 [1, 2, 5, 6] [1, 2, 5] (loopOf Try.f29 3) f ([V.s (S.i IntKind.i64 x0), V.s (S.ptr 0 0 none 0), V.s (S.i IntKind.i64 x1), V.s (S.i IntKind.i64 x2)]) ([Obj.cells 34 [Seg.arr IntKind.i8 81 x3, Seg.arr IntKind.i8 16 x4, Seg.one [S.i IntKind.i8 x5]]]) ref05_Countl3d) = ref05_Countl3 f := by
      funext x0 x1 x2 x3 x4 x5
      exact ih x0 x1 x2 x3 x4 x5
    rw [e]
    rfl

theorem ref05_Counts3 : LoopSound Try.prog ref05_Countc 0 (loopOf Try.f29 3) :=
  loopSound_by mixed ref05_Countc_ok (AllP.of (l' := []) (by kernel_rfl) trivial) (q := 3) (kin := [1, 2, 5, 6]) (kout := [1, 2, 5]) (by kernel_rfl) (by kernel_rfl) fun vs objs K r h => by
    replace h : ref05_Countp3 vs objs K = some r := h
    unfold ref05_Countp3 at h
    split at h
    · skip
      obtain ⟨t, h1, h2⟩ := ob_ok h
      refine ⟨_, ref05_Countl3d, t, many, (ref05_Countl3_eq many _ _ _ _ _ _).trans h1, fun e vs' objs' hd => ?_⟩
      unfold ref05_Countl3d at hd
      split at hd
      · skip
        cases hd
        exact h2
      · cases hd
    · cases h

def ref05_Countd : V → List Obj → Option (Int) := fun v objs => match v, objs with
  | V.s (S.i IntKind.i64 y0), [] => some (y0)
  | _, _ => none

theorem ref05_Count_eq (x0 : List Int) (x1 : List Int) (x2 : Int) (x3 : Int) : fnE ref05_Countc Try.f29 ([V.agg [Seg.arr IntKind.i8 81 x0, Seg.arr IntKind.i8 16 x1, Seg.one [S.i IntKind.i8 x2]], V.s (S.i IntKind.i64 x3)]) ([]) ref05_Countd = ref05_Count x0 x1 x2 x3 := by kernel_rfl

def ref05_Counta {R : Type} (o : Orc) (vs : List V) (objs : List Obj) (K : Bool → V → List Obj → Option R) : Option R := match vs, objs with
  | [V.agg [Seg.arr IntKind.i8 81 x0, Seg.arr IntKind.i8 16 x1, Seg.one [S.i IntKind.i8 x2]], V.s (S.i IntKind.i64 x3)], [] => ob (ref05_Count x0 x1 x2 x3) fun y0 => K false (V.s (S.i IntKind.i64 y0)) ([])
  | _, _ => o 29 vs objs K

def ref05_Counto (o : Orc) : Orc := fun f vs objs K => bif Nat.beq f 29 then ref05_Counta o vs objs K else o f vs objs K

theorem ref05_Count_ok {vs : List V} {objs : List Obj} (x0 : List Int) (x1 : List Int) (x2 : Int) (x3 : Int) {R : Type} {K : Bool → V → List Obj → Option R} {r : R} (hv : vs = [V.agg [Seg.arr IntKind.i8 81 x0, Seg.arr IntKind.i8 16 x1, Seg.one [S.i IntKind.i8 x2]], V.s (S.i IntKind.i64 x3)]) (ho : objs = []) (h : ob (ref05_Count x0 x1 x2 x3) (fun y0 => K false (V.s (S.i IntKind.i64 y0)) ([])) = some r) :
    ∃ p v objs', K p v objs' = some r ∧ AnyOK Try.prog 29 vs objs p v objs' := by
  subst hv
  subst ho
  obtain ⟨t, h1, h2⟩ := ob_ok h
  refine anyOK_by mixed ref05_Countc_ok (objs := []) (fn := Try.f29) (b := (Try.f29).body.getD .skip) (by kernel_rfl) (by kernel_rfl) (by kernel_rfl) (AllP.of (l' := [loopOf Try.f29 3]) (by kernel_rfl) ⟨ref05_Counts3, trivial⟩) ((ref05_Count_eq x0 x1 x2 x3).trans h1) fun v objs' hd => ?_
  unfold ref05_Countd at hd
  split at hd
  · skip
    cases hd
    exact h2
  · cases hd

theorem ref05_Counto_ok (o : Orc) (ho : OSound Try.prog o) : OSound Try.prog (ref05_Counto o) := by
  intro R f vs objs K r h
  replace h : (bif Nat.beq f 29 then ref05_Counta o vs objs K else o f vs objs K) = some r := h
  cases hf : Nat.beq f 29 with
  | false => rw [hf] at h; exact ho f vs objs K r h
  | true =>
    rw [hf] at h
    have e := Nat.eq_of_beq_eq_true hf
    subst e
    replace h : ref05_Counta o vs objs K = some r := h
    unfold ref05_Counta at h
    split at h
    · skip
      exact ref05_Count_ok _ _ _ _ rfl rfl h
    · exact ho _ _ _ _ _ h

def ref02_Totallp : {R : Type} → Nat → List V → List Obj → (Ex → List V → List Obj → Option R) → Option R := fun _ _ _ _ => none

def ref02_Totaloo : Orc := oNil

theorem ref02_Totaloo_ok : OSound Try.prog ref02_Totaloo := oNil_ok

def ref02_Totalc : Ctx := { tab := tab, eqs := eqs, bytes := bytes, nt := 15, orc := ref02_Totaloo, keeps := [], lp := ref02_Totallp }

theorem ref02_Totalc_ok : CtxOK Try.prog ref02_Totalc := ⟨tab_ok, ref02_Totaloo_ok, eqs_ok, bytes_ok⟩

def ref02_Totald : V → List Obj → Option (Int) := fun v objs => match v, objs with
  | V.s (S.i IntKind.i64 y0), [] => some (y0)
  | _, _ => none

theorem ref02_Total_eq (x0 : Int) : fnE ref02_Totalc Try.f35 ([V.s (S.i IntKind.i64 x0)]) ([]) ref02_Totald = ref02_Total x0 := by kernel_rfl

def ref02_Totala {R : Type} (o : Orc) (vs : List V) (objs : List Obj) (K : Bool → V → List Obj → Option R) : Option R := match vs, objs with
  | [V.s (S.i IntKind.i64 x0)], [] => ob (ref02_Total x0) fun y0 => K false (V.s (S.i IntKind.i64 y0)) ([])
  | _, _ => o 35 vs objs K

def ref02_Totalo (o : Orc) : Orc := fun f vs objs K => bif Nat.beq f 35 then ref02_Totala o vs objs K else o f vs objs K

theorem ref02_Total_ok {vs : List V} {objs : List Obj} (x0 : Int) {R : Type} {K : Bool → V → List Obj → Option R} {r : R} (hv : vs = [V.s (S.i IntKind.i64 x0)]) (ho : objs = []) (h : ob (ref02_Total x0) (fun y0 => K false (V.s (S.i IntKind.i64 y0)) ([])) = some r) :
    ∃ p v objs', K p v objs' = some r ∧ AnyOK Try.prog 35 vs objs p v objs' := by
  subst hv
  subst ho
  obtain ⟨t, h1, h2⟩ := ob_ok h
  refine anyOK_by mixed ref02_Totalc_ok (objs := []) (fn := Try.f35) (b := (Try.f35).body.getD .skip) (by kernel_rfl) (by kernel_rfl) (by kernel_rfl) (AllP.of (l' := []) (by kernel_rfl) trivial) ((ref02_Total_eq x0).trans h1) fun v objs' hd => ?_
  unfold ref02_Totald at hd
  split at hd
  · skip
    cases hd
    exact h2
  · cases hd

theorem ref02_Totalo_ok (o : Orc) (ho : OSound Try.prog o) : OSound Try.prog (ref02_Totalo o) := by
  intro R f vs objs K r h
  replace h : (bif Nat.beq f 35 then ref02_Totala o vs objs K else o f vs objs K) = some r := h
  cases hf : Nat.beq f 35 with
  | false => rw [hf] at h; exact ho f vs objs K r h
  | true =>
    rw [hf] at h
    have e := Nat.eq_of_beq_eq_true hf
    subst e
    replace h : ref02_Totala o vs objs K = some r := h
    unfold ref02_Totala at h
    split at h
    · skip
      exact ref02_Total_ok _ rfl rfl h
    · exact ho _ _ _ _ _ h

def ref02_Sidelp : {R : Type} → Nat → List V → List Obj → (Ex → List V → List Obj → Option R) → Option R := fun _ _ _ _ => none

def ref02_Sideoo : Orc := (ref02_Kindo oNil)

theorem ref02_Sideoo_ok : OSound Try.prog ref02_Sideoo := (ref02_Kindo_ok _ oNil_ok)

def ref02_Sidec : Ctx := { tab := tab, eqs := eqs, bytes := bytes, nt := 8, orc := ref02_Sideoo, keeps := [], lp := ref02_Sidelp }

theorem ref02_Sidec_ok : CtxOK Try.prog ref02_Sidec := ⟨tab_ok, ref02_Sideoo_ok, eqs_ok, bytes_ok⟩

def ref02_Sided : V → List Obj → Option (Int) := fun v objs => match v, objs with
  | V.s (S.i IntKind.i64 y0), [] => some (y0)
  | _, _ => none

theorem ref02_Side_eq (x0 : Int) : fnE ref02_Sidec Try.f56 ([V.s (S.i IntKind.i64 x0)]) ([]) ref02_Sided = ref02_Side x0 := by kernel_rfl

def ref02_Sidea {R : Type} (o : Orc) (vs : List V) (objs : List Obj) (K : Bool → V → List Obj → Option R) : Option R := match vs, objs with
  | [V.s (S.i IntKind.i64 x0)], [] => ob (ref02_Side x0) fun y0 => K false (V.s (S.i IntKind.i64 y0)) ([])
  | _, _ => o 56 vs objs K

def ref02_Sideo (o : Orc) : Orc := fun f vs objs K => bif Nat.beq f 56 then ref02_Sidea o vs objs K else o f vs objs K

theorem ref02_Side_ok {vs : List V} {objs : List Obj} (x0 : Int) {R : Type} {K : Bool → V → List Obj → Option R} {r : R} (hv : vs = [V.s (S.i IntKind.i64 x0)]) (ho : objs = []) (h : ob (ref02_Side x0) (fun y0 => K false (V.s (S.i IntKind.i64 y0)) ([])) = some r) :
    ∃ p v objs', K p v objs' = some r ∧ AnyOK Try.prog 56 vs objs p v objs' := by
  subst hv
  subst ho
  obtain ⟨t, h1, h2⟩ := ob_ok h
  refine anyOK_by mixed ref02_Sidec_ok (objs := []) (fn := Try.f56) (b := (Try.f56).body.getD .skip) (by kernel_rfl) (by kernel_rfl) (by kernel_rfl) (AllP.of (l' := []) (by kernel_rfl) trivial) ((ref02_Side_eq x0).trans h1) fun v objs' hd => ?_
  unfold ref02_Sided at hd
  split at hd
  · skip
    cases hd
    exact h2
  · cases hd

theorem ref02_Sideo_ok (o : Orc) (ho : OSound Try.prog o) : OSound Try.prog (ref02_Sideo o) := by
  intro R f vs objs K r h
  replace h : (bif Nat.beq f 56 then ref02_Sidea o vs objs K else o f vs objs K) = some r := h
  cases hf : Nat.beq f 56 with
  | false => rw [hf] at h; exact ho f vs objs K r h
  | true =>
    rw [hf] at h
    have e := Nat.eq_of_beq_eq_true hf
    subst e
    replace h : ref02_Sidea o vs objs K = some r := h
    unfold ref02_Sidea at h
    split at h
    · skip
      exact ref02_Side_ok _ rfl rfl h
    · exact ho _ _ _ _ _ h

def ref03_Farlp : {R : Type} → Nat → List V → List Obj → (Ex → List V → List Obj → Option R) → Option R := fun _ _ _ _ => none

def ref03_Faroo : Orc := oNil

theorem ref03_Faroo_ok : OSound Try.prog ref03_Faroo := oNil_ok

def ref03_Farc : Ctx := { tab := tab, eqs := eqs, bytes := bytes, nt := 26, orc := ref03_Faroo, keeps := [], lp := ref03_Farlp }

theorem ref03_Farc_ok : CtxOK Try.prog ref03_Farc := ⟨tab_ok, ref03_Faroo_ok, eqs_ok, bytes_ok⟩

def ref03_Fard : V → List Obj → Option (Int) := fun v objs => match v, objs with
  | V.s (S.i IntKind.i64 y0), [] => some (y0)
  | _, _ => none

theorem ref03_Far_eq (x0 : Int) (x1 : Int) : fnE ref03_Farc Try.f55 ([V.s (S.i IntKind.i64 x0), V.s (S.i IntKind.i64 x1)]) ([]) ref03_Fard = ref03_Far x0 x1 := by kernel_rfl

def ref03_Fara {R : Type} (o : Orc) (vs : List V) (objs : List Obj) (K : Bool → V → List Obj → Option R) : Option R := match vs, objs with
  | [V.s (S.i IntKind.i64 x0), V.s (S.i IntKind.i64 x1)], [] => ob (ref03_Far x0 x1) fun y0 => K false (V.s (S.i IntKind.i64 y0)) ([])
  | _, _ => o 55 vs objs K

def ref03_Faro (o : Orc) : Orc := fun f vs objs K => bif Nat.beq f 55 then ref03_Fara o vs objs K else o f vs objs K

theorem ref03_Far_ok {vs : List V} {objs : List Obj} (x0 : Int) (x1 : Int) {R : Type} {K : Bool → V → List Obj → Option R} {r : R} (hv : vs = [V.s (S.i IntKind.i64 x0), V.s (S.i IntKind.i64 x1)]) (ho : objs = []) (h : ob (ref03_Far x0 x1) (fun y0 => K false (V.s (S.i IntKind.i64 y0)) ([])) = some r) :
    ∃ p v objs', K p v objs' = some r ∧ AnyOK Try.prog 55 vs objs p v objs' := by
  subst hv
  subst ho
  obtain ⟨t, h1, h2⟩ := ob_ok h
  refine anyOK_by mixed ref03_Farc_ok (objs := []) (fn := Try.f55) (b := (Try.f55).body.getD .skip) (by kernel_rfl) (by kernel_rfl) (by kernel_rfl) (AllP.of (l' := []) (by kernel_rfl) trivial) ((ref03_Far_eq x0 x1).trans h1) fun v objs' hd => ?_
  unfold ref03_Fard at hd
  split at hd
  · skip
    cases hd
    exact h2
  · cases hd

theorem ref03_Faro_ok (o : Orc) (ho : OSound Try.prog o) : OSound Try.prog (ref03_Faro o) := by
  intro R f vs objs K r h
  replace h : (bif Nat.beq f 55 then ref03_Fara o vs objs K else o f vs objs K) = some r := h
  cases hf : Nat.beq f 55 with
  | false => rw [hf] at h; exact ho f vs objs K r h
  | true =>
    rw [hf] at h
    have e := Nat.eq_of_beq_eq_true hf
    subst e
    replace h : ref03_Fara o vs objs K = some r := h
    unfold ref03_Fara at h
    split at h
    · skip
      exact ref03_Far_ok _ _ rfl rfl h
    · exact ho _ _ _ _ _ h

def ref03_Deadlp : {R : Type} → Nat → List V → List Obj → (Ex → List V → List Obj → Option R) → Option R := fun _ _ _ _ => none

def ref03_Deadoo : Orc := (ref02_Kindo (ref03_Faro (ref02_Sideo oNil)))

theorem ref03_Deadoo_ok : OSound Try.prog ref03_Deadoo := (ref02_Kindo_ok _ (ref03_Faro_ok _ (ref02_Sideo_ok _ oNil_ok)))

def ref03_Deadc : Ctx := { tab := tab, eqs := eqs, bytes := bytes, nt := 35, orc := ref03_Deadoo, keeps := [], lp := ref03_Deadlp }

theorem ref03_Deadc_ok : CtxOK Try.prog ref03_Deadc := ⟨tab_ok, ref03_Deadoo_ok, eqs_ok, bytes_ok⟩

def ref03_Deadd : V → List Obj → Option (Bool) := fun v objs => match v, objs with
  | V.s (S.b y0), [] => some (y0)
  | _, _ => none

theorem ref03_Dead_eq (x0 : Int) (x1 : Int) : fnE ref03_Deadc Try.f36 ([V.s (S.i IntKind.i64 x0), V.s (S.i IntKind.i64 x1)]) ([]) ref03_Deadd = ref03_Dead x0 x1 := by kernel_rfl

def ref03_Deada {R : Type} (o : Orc) (vs : List V) (objs : List Obj) (K : Bool → V → List Obj → Option R) : Option R := match vs, objs with
  | [V.s (S.i IntKind.i64 x0), V.s (S.i IntKind.i64 x1)], [] => ob (ref03_Dead x0 x1) fun y0 => K false (V.s (S.b y0)) ([])
  | _, _ => o 36 vs objs K

def ref03_Deado (o : Orc) : Orc := fun f vs objs K => bif Nat.beq f 36 then ref03_Deada o vs objs K else o f vs objs K

theorem ref03_Dead_ok {vs : List V} {objs : List Obj} (x0 : Int) (x1 : Int) {R : Type} {K : Bool → V → List Obj → Option R} {r : R} (hv : vs = [V.s (S.i IntKind.i64 x0), V.s (S.i IntKind.i64 x1)]) (ho : objs = []) (h : ob (ref03_Dead x0 x1) (fun y0 => K false (V.s (S.b y0)) ([])) = some r) :
    ∃ p v objs', K p v objs' = some r ∧ AnyOK Try.prog 36 vs objs p v objs' := by
  subst hv
  subst ho
  obtain ⟨t, h1, h2⟩ := ob_ok h
  refine anyOK_by mixed ref03_Deadc_ok (objs := []) (fn := Try.f36) (b := (Try.f36).body.getD .skip) (by kernel_rfl) (by kernel_rfl) (by kernel_rfl) (AllP.of (l' := []) (by kernel_rfl) trivial) ((ref03_Dead_eq x0 x1).trans h1) fun v objs' hd => ?_
  unfold ref03_Deadd at hd
  split at hd
  · skip
    cases hd
    exact h2
  · cases hd

theorem ref03_Deado_ok (o : Orc) (ho : OSound Try.prog o) : OSound Try.prog (ref03_Deado o) := by
  intro R f vs objs K r h
  replace h : (bif Nat.beq f 36 then ref03_Deada o vs objs K else o f vs objs K) = some r := h
  cases hf : Nat.beq f 36 with
  | false => rw [hf] at h; exact ho f vs objs K r h
  | true =>
    rw [hf] at h
    have e := Nat.eq_of_beq_eq_true hf
    subst e
    replace h : ref03_Deada o vs objs K = some r := h
    unfold ref03_Deada at h
    split at h
    · skip
      exact ref03_Dead_ok _ _ rfl rfl h
    · exact ho _ _ _ _ _ h

def ref05_Checkl4d : Ex → List V → List Obj → Option ((Int × List Int × List Int × Int) ⊕ (List Int × List Int × Int)) := fun e vs objs => match e, vs, objs with
  | Ex.ret, [V.s (S.ptr 0 0 none 0), V.s (S.i IntKind.i64 y0)], [Obj.cells 34 [Seg.arr IntKind.i8 81 y1, Seg.arr IntKind.i8 16 y2, Seg.one [S.i IntKind.i8 y3]]] => some (Sum.inl (y0, y1, y2, y3))
  | Ex.exit 0, [V.s (S.ptr 0 0 none 0), V.s S.bad], [Obj.cells 34 [Seg.arr IntKind.i8 81 y0, Seg.arr IntKind.i8 16 y1, Seg.one [S.i IntKind.i8 y2]]] => some (Sum.inr (y0, y1, y2))
  | _, _, _ => none

def ref05_Checkl12d : Ex → List V → List Obj → Option ((Int × Int × List Int × List Int × Int) ⊕ (Int × List Int × List Int × Int)) := fun e vs objs => match e, vs, objs with
  | Ex.ret, [V.s (S.ptr 0 0 none 0), V.s (S.i IntKind.i64 y0), V.s (S.i IntKind.i64 y1)], [Obj.cells 34 [Seg.arr IntKind.i8 81 y2, Seg.arr IntKind.i8 16 y3, Seg.one [S.i IntKind.i8 y4]]] => some (Sum.inl (y0, y1, y2, y3, y4))
  | Ex.exit 4, [V.s (S.ptr 0 0 none 0), V.s S.bad, V.s (S.i IntKind.i64 y0)], [Obj.cells 34 [Seg.arr IntKind.i8 81 y1, Seg.arr IntKind.i8 16 y2, Seg.one [S.i IntKind.i8 y3]]] => some (Sum.inr (y0, y1, y2, y3))
  | _, _, _ => none

def ref05_Checkl9d : Ex → List V → List Obj → Option ((Int × List Int × List Int × Int) ⊕ (List Int × List Int × Int)) := fun e vs objs => match e, vs, objs with
  | Ex.ret, [V.s (S.ptr 0 0 none 0), V.s (S.i IntKind.i64 y0)], [Obj.cells 34 [Seg.arr IntKind.i8 81 y1, Seg.arr IntKind.i8 16 y2, Seg.one [S.i IntKind.i8 y3]]] => some (Sum.inl (y0, y1, y2, y3))
  | Ex.exit 2, [V.s (S.ptr 0 0 none 0), V.s S.bad], [Obj.cells 34 [Seg.arr IntKind.i8 81 y0, Seg.arr IntKind.i8 16 y1, Seg.one [S.i IntKind.i8 y2]]] => some (Sum.inr (y0, y1, y2))
  | _, _, _ => none

def ref05_Checkl20d : Ex → List V → List Obj → Option ((Int × List Int × List Int × Int) ⊕ (List Int × List Int × Int)) := fun e vs objs => match e, vs, objs with
  | Ex.ret, [V.s (S.ptr 0 0 none 0), V.s (S.i IntKind.i64 y0)], [Obj.cells 34 [Seg.arr IntKind.i8 81 y1, Seg.arr IntKind.i8 16 y2, Seg.one [S.i IntKind.i8 y3]]] => some (Sum.inl (y0, y1, y2, y3))
  | Ex.exit 6, [V.s (S.ptr 0 0 none 0), V.s S.bad], [Obj.cells 34 [Seg.arr IntKind.i8 81 y0, Seg.arr IntKind.i8 16 y1, Seg.one [S.i IntKind.i8 y2]]] => some (Sum.inr (y0, y1, y2))
  | _, _, _ => none

def ref05_Checkl25d : Ex → List V → List Obj → Option ((Int × List Int × List Int × Int) ⊕ (List Int × List Int × Int)) := fun e vs objs => match e, vs, objs with
  | Ex.ret, [V.s (S.ptr 0 0 none 0), V.s (S.i IntKind.i64 y0)], [Obj.cells 34 [Seg.arr IntKind.i8 81 y1, Seg.arr IntKind.i8 16 y2, Seg.one [S.i IntKind.i8 y3]]] => some (Sum.inl (y0, y1, y2, y3))
  | Ex.exit 8, [V.s (S.ptr 0 0 none 0), V.s S.bad], [Obj.cells 34 [Seg.arr IntKind.i8 81 y0, Seg.arr IntKind.i8 16 y1, Seg.one [S.i IntKind.i8 y2]]] => some (Sum.inr (y0, y1, y2))
  | _, _, _ => none

def ref05_Checkl30d : Ex → List V → List Obj → Option ((Int) ⊕ (Unit)) := fun e vs objs => match e, vs, objs with
  | Ex.ret, [V.s (S.i IntKind.i64 y0)], [] => some (Sum.inl (y0))
  | Ex.exit 10, [V.s S.bad], [] => some (Sum.inr ())
  | _, _, _ => none

def ref05_Checkp4 {R : Type} (vs : List V) (objs : List Obj) (K : Ex → List V → List Obj → Option R) : Option R := match vs, objs with
  | [V.s (S.ptr 0 0 none 0), V.s (S.i IntKind.i64 x0)], [Obj.cells 34 [Seg.arr IntKind.i8 81 x1, Seg.arr IntKind.i8 16 x2, Seg.one [S.i IntKind.i8 x3]]] => ob (ref05_Checkl4 many x0 x1 x2 x3) fun t0 => sw t0 (fun z => K (Ex.ret) ([V.s (S.ptr 0 0 none 0), V.s (S.i IntKind.i64 (z.1))]) ([Obj.cells 34 [Seg.arr IntKind.i8 81 (z.2.1), Seg.arr IntKind.i8 16 (z.2.2.1), Seg.one [S.i IntKind.i8 (z.2.2.2)]]])) (fun z => K (Ex.exit 0) ([V.s (S.ptr 0 0 none 0), V.s S.bad]) ([Obj.cells 34 [Seg.arr IntKind.i8 81 (z.1), Seg.arr IntKind.i8 16 (z.2.1), Seg.one [S.i IntKind.i8 (z.2.2)]]]))
  | _, _ => none

def ref05_Checkp12 {R : Type} (vs : List V) (objs : List Obj) (K : Ex → List V → List Obj → Option R) : Option R := match vs, objs with
  | [V.s (S.ptr 0 0 none 0), V.s (S.i IntKind.i64 x0), V.s (S.i IntKind.i64 x1)], [Obj.cells 34 [Seg.arr IntKind.i8 81 x2, Seg.arr IntKind.i8 16 x3, Seg.one [S.i IntKind.i8 x4]]] => ob (ref05_Checkl12 many x0 x1 x2 x3 x4) fun t0 => sw t0 (fun z => K (Ex.ret) ([V.s (S.ptr 0 0 none 0), V.s (S.i IntKind.i64 (z.1)), V.s (S.i IntKind.i64 (z.2.1))]) ([Obj.cells 34 [Seg.arr IntKind.i8 81 (z.2.2.1), Seg.arr IntKind.i8 16 (z.2.2.2.1), Seg.one [S.i IntKind.i8 (z.2.2.2.2)]]])) (fun z => K (Ex.exit 4) ([V.s (S.ptr 0 0 none 0), V.s S.bad, V.s (S.i IntKind.i64 (z.1))]) ([Obj.cells 34 [Seg.arr IntKind.i8 81 (z.2.1), Seg.arr IntKind.i8 16 (z.2.2.1), Seg.one [S.i IntKind.i8 (z.2.2.2)]]]))
  | _, _ => none

def ref05_Checkp9 {R : Type} (vs : List V) (objs : List Obj) (K : Ex → List V → List Obj → Option R) : Option R := match vs, objs with
  | [V.s (S.ptr 0 0 none 0), V.s (S.i IntKind.i64 x0)], [Obj.cells 34 [Seg.arr IntKind.i8 81 x1, Seg.arr IntKind.i8 16 x2, Seg.one [S.i IntKind.i8 x3]]] => ob (ref05_Checkl9 many x0 x1 x2 x3) fun t0 => sw t0 (fun z => K (Ex.ret) ([V.s (S.ptr 0 0 none 0), V.s (S.i IntKind.i64 (z.1))]) ([Obj.cells 34 [Seg.arr IntKind.i8 81 (z.2.1), Seg.arr IntKind.i8 16 (z.2.2.1), Seg.one [S.i IntKind.i8 (z.2.2.2)]]])) (fun z => K (Ex.exit 2) ([V.s (S.ptr 0 0 none 0), V.s S.bad]) ([Obj.cells 34 [Seg.arr IntKind.i8 81 (z.1), Seg.arr IntKind.i8 16 (z.2.1), Seg.one [S.i IntKind.i8 (z.2.2)]]]))
  | _, _ => none

def ref05_Checkp20 {R : Type} (vs : List V) (objs : List Obj) (K : Ex → List V → List Obj → Option R) : Option R := match vs, objs with
  | [V.s (S.ptr 0 0 none 0), V.s (S.i IntKind.i64 x0)], [Obj.cells 34 [Seg.arr IntKind.i8 81 x1, Seg.arr IntKind.i8 16 x2, Seg.one [S.i IntKind.i8 x3]]] => ob (ref05_Checkl20 many x0 x1 x2 x3) fun t0 => sw t0 (fun z => K (Ex.ret) ([V.s (S.ptr 0 0 none 0), V.s (S.i IntKind.i64 (z.1))]) ([Obj.cells 34 [Seg.arr IntKind.i8 81 (z.2.1), Seg.arr IntKind.i8 16 (z.2.2.1), Seg.one [S.i IntKind.i8 (z.2.2.2)]]])) (fun z => K (Ex.exit 6) ([V.s (S.ptr 0 0 none 0), V.s S.bad]) ([Obj.cells 34 [Seg.arr IntKind.i8 81 (z.1), Seg.arr IntKind.i8 16 (z.2.1), Seg.one [S.i IntKind.i8 (z.2.2)]]]))
  | _, _ => none

def ref05_Checkp25 {R : Type} (vs : List V) (objs : List Obj) (K : Ex → List V → List Obj → Option R) : Option R := match vs, objs with
  | [V.s (S.ptr 0 0 none 0), V.s (S.i IntKind.i64 x0)], [Obj.cells 34 [Seg.arr IntKind.i8 81 x1, Seg.arr IntKind.i8 16 x2, Seg.one [S.i IntKind.i8 x3]]] => ob (ref05_Checkl25 many x0 x1 x2 x3) fun t0 => sw t0 (fun z => K (Ex.ret) ([V.s (S.ptr 0 0 none 0), V.s (S.i IntKind.i64 (z.1))]) ([Obj.cells 34 [Seg.arr IntKind.i8 81 (z.2.1), Seg.arr IntKind.i8 16 (z.2.2.1), Seg.one [S.i IntKind.i8 (z.2.2.2)]]])) (fun z => K (Ex.exit 8) ([V.s (S.ptr 0 0 none 0), V.s S.bad]) ([Obj.cells 34 [Seg.arr IntKind.i8 81 (z.1), Seg.arr IntKind.i8 16 (z.2.1), Seg.one [S.i IntKind.i8 (z.2.2)]]]))
  | _, _ => none

def ref05_Checkp30 {R : Type} (vs : List V) (objs : List Obj) (K : Ex → List V → List Obj → Option R) : Option R := match vs, objs with
  | [V.s (S.ptr 0 0 none 0), V.s (S.i IntKind.i64 x0)], [Obj.cells 34 [Seg.arr IntKind.i8 81 x1, Seg.arr IntKind.i8 16 x2, Seg.one [S.i IntKind.i8 x3]]] => ob (ref05_Checkl30 many x0 x1 x2 x3) fun t0 => sw t0 (fun y0 => K (Ex.ret) ([V.s (S.i IntKind.i64 y0)]) ([])) (fun _ => K (Ex.exit 10) ([V.s S.bad]) ([]))
  | _, _ => none

def ref05_Checklp : {R : Type} → Nat → List V → List Obj → (Ex → List V → List Obj → Option R) → Option R := fun q vs objs K => bif Nat.beq q 4 then ref05_Checkp4 vs objs K else bif Nat.beq q 12 then ref05_Checkp12 vs objs K else bif Nat.beq q 9 then ref05_Checkp9 vs objs K else bif Nat.beq q 20 then ref05_Checkp20 vs objs K else bif Nat.beq q 25 then ref05_Checkp25 vs objs K else bif Nat.beq q 30 then ref05_Checkp30 vs objs K else none

def ref05_Checkoo : Orc := (ref05_Ono (ref03_Deado (ref02_Totalo (ref05_Counto (ref05_allo (ref02_Kindo oNil))))))

theorem ref05_Checkoo_ok : OSound Try.prog ref05_Checkoo := (ref05_Ono_ok _ (ref03_Deado_ok _ (ref02_Totalo_ok _ (ref05_Counto_ok _ (ref05_allo_ok _ (ref02_Kindo_ok _ oNil_ok))))))

def ref05_Checkc : Ctx := { tab := tab, eqs := eqs, bytes := bytes, nt := 103, orc := ref05_Checkoo, keeps := [(4, [1, 3], [1, 2]), (9, [1, 4], [1, 2]), (12, [1, 4, 5], [1, 2, 4]), (20, [1, 7], [1, 2]), (25, [1, 8], [1, 2]), (30, [1, 9], [2])], lp := ref05_Checklp }

theorem ref05_Checkc_ok : CtxOK Try.prog ref05_Checkc := ⟨tab_ok, ref05_Checkoo_ok, eqs_ok, bytes_ok⟩

theorem ref05_Checkl4_step (f : Nat) (x0 : Int) (x1 : List Int) (x2 : List Int) (x3 : Int) : lrun ref05_Checkc 0 [1, 3] [1, 2] (loopOf Try.f19 4) (f + 1) ([V.s (S.ptr 0 0 none 0), V.s (S.i IntKind.i64 x0)]) ([Obj.cells 34 [Seg.arr IntKind.i8 81 x1, Seg.arr IntKind.i8 16 x2, Seg.one [S.i IntKind.i8 x3]]]) ref05_Checkl4d = ref05_Checkl4s (fun x0 x1 x2 x3 => lrun ref05_Checkc 0 [1, 3] [1, 2] (loopOf Try.f19 4) f ([V.s (S.ptr 0 0 none 0), V.s (S.i IntKind.i64 x0)]) ([Obj.cells 34 [Seg.arr IntKind.i8 81 x1, Seg.arr IntKind.i8 16 x2, Seg.one [S.i IntKind.i8 x3]]]) ref05_Checkl4d) x0 x1 x2 x3 := by kernel_rfl

theorem ref05_Checkl4_eq (f : Nat) : ∀ (x0 : Int) (x1 : List Int) (x2 : List Int) (x3 : Int), lrun ref05_Checkc 0 [1, 3] [1, 2] (loopOf Try.f19 4) f ([V.s (S.ptr 0 0 none 0), V.s (S.i IntKind.i64 x0)]) ([Obj.cells 34 [Seg.arr IntKind.i8 81 x1, Seg.arr IntKind.i8 16 x2, Seg.one [S.i IntKind.i8 x3]]]) ref05_Checkl4d = ref05_Checkl4 f x0 x1 x2 x3 := by
  induction f with
  | zero => intros; rfl
  | succ f ih =>
    intro x0 x1 x2 x3
    rw [ref05_Checkl4_step]
    have e : (fun x0 x1 x2 x3 => lrun ref05_Checkc 0 [1, 3] [1, 2] (loopOf Try.f19 4) f ([V.s (S.ptr 0 0 none 0), V.s (S.i IntKind.i64 x0)]) ([Obj.cells 34 [Seg.arr IntKind.i8 81 x1, Seg.arr IntKind.i8 16 x2, Seg.one [S.i IntKind.i8 x3]]]) ref05_Checkl4d) = ref05_Checkl4 f := by
      funext x0 x1 x2 x3
      exact ih x0 x1 x2 x3
    rw [e]
    rfl

theorem ref05_Checkl12_step (f : Nat) (x0 : Int) (x1 : Int) (x2 : List Int) (x3 : List Int) (x4 : Int) : lrun ref05_Checkc 0 [1, 4, 5] [1, 2, 4] (loopOf Try.f19 12) (f + 1) ([V.s (S.ptr 0 0 none 0), V.s (S.i IntKind.i64 x0), V.s (S.i IntKind.i64 x1)]) ([Obj.cells 34 [Seg.arr IntKind.i8 81 x2, Seg.arr IntKind.i8 16 x3, Seg.one [S.i IntKind.i8 x4]]]) ref05_Checkl12d = ref05_Checkl12s (fun x0 x1 x2 x3 x4 => lrun ref05_Checkc 0 [1, 4, 5] [1, 2, 4] (loopOf Try.f19 12) f ([V.s (S.ptr 0 0 none 0), V.s (S.i IntKind.i64 x0), V.s (S.i IntKind.i64 x1)]) ([Obj.cells 34 [Seg.arr IntKind.i8 81 x2, Seg.arr IntKind.i8 16 x3, Seg.one [S.i IntKind.i8 x4]]]) ref05_Checkl12d) x0 x1 x2 x3 x4 := by kernel_rfl

theorem ref05_Checkl12_eq (f : Nat) : ∀ (x0 : Int) (x1 : Int) (x2 : List Int) (x3 : List Int) (x4 : Int), lrun ref05_Checkc 0 [1, 4, 5] [1, 2, 4] (loopOf Try.f19 12) f ([V.s (S.ptr 0 0 none 0), V.s (S.i IntKind.i64 x0), V.s (S.i IntKind.i64 x1)]) ([Obj.cells 34 [Seg.arr IntKind.i8 81 x2, Seg.arr IntKind.i8 16 x3, Seg.one [S.i IntKind.i8 x4]]]) ref05_Checkl12d = ref05_Checkl12 f x0 x1 x2 x3 x4 := by
  induction f with
  | zero => intros; rfl
  | succ f ih =>
    intro x0 x1 x2 x3 x4
    rw [ref05_Checkl12_step]
    have e : (fun x0 x1 x2 x3 x4 => lrun ref05_Checkc 0 [1, 4, 5] [1, 2, 4] (loopOf Try.f19 12) f ([V.s (S.ptr 0 0 none 0), V.s (S.i IntKind.i64 x0), V.s (S.i IntKind.i64 x1)]) ([Obj.cells 34 [Seg.arr IntKind.i8 81 x2, Seg.arr IntKind.i8 16 x3, Seg.one [S.i IntKind.i8 x4]]]) ref05_Checkl12d) = ref05_Checkl12 f := by
      funext x0 x1 x2 x3 x4
      exact ih x0 x1 x2 x3 x4
    rw [e]
    rfl

theorem ref05_Checkl9_step (f : Nat) (x0 : Int) (x1 : List Int) (x2 : List Int) (x3 : Int) : lrun ref05_Checkc 0 [1, 4] [1, 2] (loopOf Try.f19 9) (f + 1) ([V.s (S.ptr 0 0 none 0), V.s (S.i IntKind.i64 x0)]) ([Obj.cells 34 [Seg.arr IntKind.i8 81 x1, Seg.arr IntKind.i8 16 x2, Seg.one [S.i IntKind.i8 x3]]]) ref05_Checkl9d = ref05_Checkl9s (fun x0 x1 x2 x3 => lrun ref05_Checkc 0 [1, 4] [1, 2] (loopOf Try.f19 9) f ([V.s (S.ptr 0 0 none 0), V.s (S.i IntKind.i64 x0)]) ([Obj.cells 34 [Seg.arr IntKind.i8 81 x1, Seg.arr IntKind.i8 16 x2, Seg.one [S.i IntKind.i8 x3]]]) ref05_Checkl9d) x0 x1 x2 x3 := by kernel_rfl

theorem ref05_Checkl9_eq (f : Nat) : ∀ (x0 : Int) (x1 : List Int) (x2 : List Int) (x3 : Int), lrun ref05_Checkc 0 [1, 4] [1, 2] (loopOf Try.f19 9) f ([V.s (S.ptr 0 0 none 0), V.s (S.i IntKind.i64 x0)]) ([Obj.cells 34 [Seg.arr IntKind.i8 81 x1, Seg.arr IntKind.i8 16 x2, Seg.one [S.i IntKind.i8 x3]]]) ref05_Checkl9d = ref05_Checkl9 f x0 x1 x2 x3 := by
  induction f with
  | zero => intros; rfl
  | succ f ih =>
    intro x0 x1 x2 x3
    rw [ref05_Checkl9_step]
    have e : (fun x0 x1 x2 x3 => lrun ref05_Checkc 0 [1, 4] [1, 2] (loopOf Try.f19 9) f ([V.s (S.ptr 0 0 none 0), V.s (S.i IntKind.i64 x0)]) ([Obj.cells 34 [Seg.arr IntKind.i8 81 x1, Seg.arr IntKind.i8 16 x2, Seg.one [S.i IntKind.i8 x3]]]) ref05_Checkl9d) = ref05_Checkl9 f := by
      funext x0 x1 x2 x3
      exact ih x0 x1 x2 x3
    rw [e]
    rfl

theorem ref05_Checkl20_step (f : Nat) (x0 : Int) (x1 : List Int) (x2 : List Int) (x3 : Int) : lrun ref05_Checkc 0 [1, 7] [1, 2] (loopOf Try.f19 20) (f + 1) ([V.s (S.ptr 0 0 none 0), V.s (S.i IntKind.i64 x0)]) ([Obj.cells 34 [Seg.arr IntKind.i8 81 x1, Seg.arr IntKind.i8 16 x2, Seg.one [S.i IntKind.i8 x3]]]) ref05_Checkl20d = ref05_Checkl20s (fun x0 x1 x2 x3 => lrun ref05_Checkc 0 [1, 7] [1, 2] (loopOf Try.f19 20) f ([V.s (S.ptr 0 0 none 0), V.s (S.i IntKind.i64 x0)]) ([Obj.cells 34 [Seg.arr IntKind.i8 81 x1, Seg.arr IntKind.i8 16 x2, Seg.one [S.i IntKind.i8 x3]]]) ref05_Checkl20d) x0 x1 x2 x3 := by kernel_rfl

theorem ref05_Checkl20_eq (f : Nat) : ∀ (x0 : Int) (x1 : List Int) (x2 : List Int) (x3 : Int), lrun ref05_Checkc 0 [1, 7] [1, 2] (loopOf Try.f19 20) f ([V.s (S.ptr 0 0 none 0), V.s (S.i IntKind.i64 x0)]) ([Obj.cells 34 [Seg.arr IntKind.i8 81 x1, Seg.arr IntKind.i8 16 x2, Seg.one [S.i IntKind.i8 x3]]]) ref05_Checkl20d = ref05_Checkl20 f x0 x1 x2 x3 := by
  induction f with
  | zero => intros; rfl
  | succ f ih =>
    intro x0 x1 x2 x3
    rw [ref05_Checkl20_step]
    have e : (fun x0 x1 x2 x3 => lrun ref05_Checkc 0 [1, 7] [1, 2] (loopOf Try.f19 20) f ([V.s (S.ptr 0 0 none 0), V.s (S.i IntKind.i64 x0)]) ([Obj.cells 34 [Seg.arr IntKind.i8 81 x1, Seg.arr IntKind.i8 16 x2, Seg.one [S.i IntKind.i8 x3]]]) ref05_Checkl20d) = ref05_Checkl20 f := by
      funext x0 x1 x2 x3
      exact ih x0 x1 x2 x3
    rw [e]
    rfl

theorem ref05_Checkl25_step (f : Nat) (x0 : Int) (x1 : List Int) (x2 : List Int) (x3 : Int) : lrun ref05_Checkc 0 [1, 8] [1, 2] (loopOf Try.f19 25) (f + 1) ([V.s (S.ptr 0 0 none 0), V.s (S.i IntKind.i64 x0)]) ([Obj.cells 34 [Seg.arr IntKind.i8 81 x1, Seg.arr IntKind.i8 16 x2, Seg.one [S.i IntKind.i8 x3]]]) ref05_Checkl25d = ref05_Checkl25s (fun x0 x1 x2 x3 => lrun ref05_Checkc 0 [1, 8] [1, 2] (loopOf Try.f19 25) f ([V.s (S.ptr 0 0 none 0), V.s (S.i IntKind.i64 x0)]) ([Obj.cells 34 [Seg.arr IntKind.i8 81 x1, Seg.arr IntKind.i8 16 x2, Seg.one [S.i IntKind.i8 x3]]]) ref05_Checkl25d) x0 x1 x2 x3 := by kernel_rfl

theorem ref05_Checkl25_eq (f : Nat) : ∀ (x0 : Int) (x1 : List Int) (x2 : List Int) (x3 : Int), lrun ref05_Checkc 0 [1, 8] [1, 2] (loopOf Try.f19 25) f ([V.s (S.ptr 0 0 none 0), V.s (S.i IntKind.i64 x0)]) ([Obj.cells 34 [Seg.arr IntKind.i8 81 x1, Seg.arr IntKind.i8 16 x2, Seg.one [S.i IntKind.i8 x3]]]) ref05_Checkl25d = ref05_Checkl25 f x0 x1 x2 x3 := by
  induction f with
  | zero => intros; rfl
  | succ f ih =>
    intro x0 x1 x2 x3
    rw [ref05_Checkl25_step]
    have e : (fun x0 x1 x2 x3 => lrun ref05_Checkc 0 [1, 8] [1, 2] (loopOf Try.f19 25) f ([V.s (S.ptr 0 0 none 0), V.s (S.i IntKind.i64 x0)]) ([Obj.cells 34 [Seg.arr IntKind.i8 81 x1, Seg.arr IntKind.i8 16 x2, Seg.one [S.i IntKind.i8 x3]]]) ref05_Checkl25d) = ref05_Checkl25 f := by
      funext x0 x1 x2 x3
      exact ih x0 x1 x2 x3
    rw [e]
    rfl

theorem ref05_Checkl30_step (f : Nat) (x0 : Int) (x1 : List Int) (x2 : List Int) (x3 : Int) : lrun ref05_Checkc 0 [1, 9] [2] (loopOf Try.f19 30) (f + 1) ([V.s (S.ptr 0 0 none 0), V.s (S.i IntKind.i64 x0)]) ([Obj.cells 34 [Seg.arr IntKind.i8 81 x1, Seg.arr IntKind.i8 16 x2, Seg.one [S.i IntKind.i8 x3]]]) ref05_Checkl30d = ref05_Checkl30s (fun x0 x1 x2 x3 => lrun ref05_Checkc 0 [1, 9] [2] (loopOf Try.f19 30) f ([V.s (S.ptr 0 0 none 0), V.s (S.i IntKind.i64 x0)]) ([Obj.cells 34 [Seg.arr IntKind.i8 81 x1, Seg.arr IntKind.i8 16 x2, Seg.one [S.i IntKind.i8 x3]]]) ref05_Checkl30d) x0 x1 x2 x3 := by kernel_rfl

theorem ref05_Checkl30_eq (f : Nat) : ∀ (x0 : Int) (x1 : List Int) (x2 : List Int) (x3 : Int), lrun ref05_Checkc 0 [1, 9] [2] (loopOf Try.f19 30) f ([V.s (S.ptr 0 0 none 0), V.s (S.i IntKind.i64 x0)]) ([Obj.cells 34 [Seg.arr IntKind.i8 81 x1, Seg.arr IntKind.i8 16 x2, Seg.one [S.i IntKind.i8 x3]]]) ref05_Checkl30d = ref05_Checkl30 f x0 x1 x2 x3 := by
  induction f with
  | zero => intros; rfl
  | succ f ih =>
    intro x0 x1 x2 x3
    rw [ref05_Checkl30_step]
    have e : (fun x0 x1 x2 x3 => lrun ref05_Checkc 0 [1, 9] [2] (loopOf Try.f19 30) f ([V.s (S.ptr 0 0 none 0), V.s (S.i IntKind.i64 x0)]) ([Obj.cells 34 [Seg.arr IntKind.i8 81 x1, Seg.arr IntKind.i8 16 x2, Seg.one [S.i IntKind.i8 x3]]]) ref05_Checkl30d) = ref05_Checkl30 f := by
      funext x0 x1 x2 x3
      exact ih x0 x1 x2 x3
    rw [e]
    rfl

theorem ref05_Checks4 : LoopSound Try.prog ref05_Checkc 0 (loopOf Try.f19 4) :=
  loopSound_by mixed ref05_Checkc_ok (AllP.of (l' := []) (by kernel_rfl) trivial) (q := 4) (kin := [1, 3]) (kout := [1, 2]) (by kernel_rfl) (by kernel_rfl) fun vs objs K r h => by
    replace h : ref05_Checkp4 vs objs K = some r := h
    unfold ref05_Checkp4 at h
    split at h
    · skip
      obtain ⟨t, h1, h2⟩ := ob_ok h
      refine ⟨_, ref05_Checkl4d, t, many, (ref05_Checkl4_eq many _ _ _ _).trans h1, fun e vs' objs' hd => ?_⟩
      unfold ref05_Checkl4d at hd
      split at hd
      · skip
        cases hd
        exact h2
      · skip
        cases hd
        exact h2
      · cases hd
    · cases h

theorem ref05_Checks12 : LoopSound Try.prog ref05_Checkc 0 (loopOf Try.f19 12) :=
  loopSound_by mixed ref05_Checkc_ok (AllP.of (l' := []) (by kernel_rfl) trivial) (q := 12) (kin := [1, 4, 5]) (kout := [1, 2, 4]) (by kernel_rfl) (by kernel_rfl) fun vs objs K r h => by
    replace h : ref05_Checkp12 vs objs K = some r := h
    unfold ref05_Checkp12 at h
    split at h
    · skip
      obtain ⟨t, h1, h2⟩ := ob_ok h
      refine ⟨_, ref05_Checkl12d, t, many, (ref05_Checkl12_eq many _ _ _ _ _).trans h1, fun e vs' objs' hd => ?_⟩
      unfold ref05_Checkl12d at hd
      split at hd
      · skip
        cases hd
        exact h2
      · skip
        cases hd
        exact h2
      · cases hd
    · cases h

theorem ref05_Checks20 : LoopSound Try.prog ref05_Checkc 0 (loopOf Try.f19 20) :=
  loopSound_by mixed ref05_Checkc_ok (AllP.of (l' := []) (by kernel_rfl) trivial) (q := 20) (kin := [1, 7]) (kout := [1, 2]) (by kernel_rfl) (by kernel_rfl) fun vs objs K r h => by
    replace h : ref05_Checkp20 vs objs K = some r := h
    unfold ref05_Checkp20 at h
    split at h
    · skip
      obtain ⟨t, h1, h2⟩ := ob_ok h
      refine ⟨_, ref05_Checkl20d, t, many, (ref05_Checkl20_eq many _ _ _ _).trans h1, fun e vs' objs' hd => ?_⟩
      unfold ref05_Checkl20d at hd
      split at hd
      · skip
        cases hd
        exact h2
      · skip
        cases hd
        exact h2
      · cases hd
    · cases h

theorem ref05_Checks25 : LoopSound Try.prog ref05_Checkc 0 (loopOf Try.f19 25) :=
  loopSound_by mixed ref05_Checkc_ok (AllP.of (l' := []) (by kernel_rfl) trivial) (q := 25) (kin := [1, 8]) (kout := [1, 2]) (by kernel_rfl) (by kernel_rfl) fun vs objs K r h => by
    replace h : ref05_Checkp25 vs objs K = some r := h
    unfold ref05_Checkp25 at h
    split at h
    · skip
      obtain ⟨t, h1, h2⟩ := ob_ok h
      refine ⟨_, ref05_Checkl25d, t, many, (ref05_Checkl25_eq many _ _ _ _).trans h1, fun e vs' objs' hd => ?_⟩
      unfold ref05_Checkl25d at hd
      split at hd
      · skip
        cases hd
        exact h2
      · skip
        cases hd
        exact h2
      · cases hd
    · cases h

theorem ref05_Checks30 : LoopSound Try.prog ref05_Checkc 0 (loopOf Try.f19 30) :=
  loopSound_by mixed ref05_Checkc_ok (AllP.of (l' := []) (by kernel_rfl) trivial) (q := 30) (kin := [1, 9]) (kout := [2]) (by kernel_rfl) (by kernel_rfl) fun vs objs K r h => by
    replace h : ref05_Checkp30 vs objs K = some r := h
    unfold ref05_Checkp30 at h
    split at h
    · skip
      obtain ⟨t, h1, h2⟩ := ob_ok h
      refine ⟨_, ref05_Checkl30d, t, many, (ref05_Checkl30_eq many _ _ _ _).trans h1, fun e vs' objs' hd => ?_⟩
      unfold ref05_Checkl30d at hd
      split at hd
      · skip
        cases hd
        exact h2
      · skip
        cases hd
        exact h2
      · cases hd
    · cases h

theorem ref05_Checks9 : LoopSound Try.prog ref05_Checkc 0 (loopOf Try.f19 9) :=
  loopSound_by mixed ref05_Checkc_ok (AllP.of (l' := [loopOf Try.f19 12]) (by kernel_rfl) ⟨ref05_Checks12, trivial⟩) (q := 9) (kin := [1, 4]) (kout := [1, 2]) (by kernel_rfl) (by kernel_rfl) fun vs objs K r h => by
    replace h : ref05_Checkp9 vs objs K = some r := h
    unfold ref05_Checkp9 at h
    split at h
    · skip
      obtain ⟨t, h1, h2⟩ := ob_ok h
      refine ⟨_, ref05_Checkl9d, t, many, (ref05_Checkl9_eq many _ _ _ _).trans h1, fun e vs' objs' hd => ?_⟩
      unfold ref05_Checkl9d at hd
      split at hd
      · skip
        cases hd
        exact h2
      · skip
        cases hd
        exact h2
      · cases hd
    · cases h

def ref05_Checkd : V → List Obj → Option (Int) := fun v objs => match v, objs with
  | V.s (S.i IntKind.i64 y0), [] => some (y0)
  | _, _ => none

theorem ref05_Check_eq (x0 : List Int) (x1 : List Int) (x2 : Int) : fnE ref05_Checkc Try.f19 ([V.agg [Seg.arr IntKind.i8 81 x0, Seg.arr IntKind.i8 16 x1, Seg.one [S.i IntKind.i8 x2]]]) ([]) ref05_Checkd = ref05_Check x0 x1 x2 := by kernel_rfl

def ref05_Checka {R : Type} (o : Orc) (vs : List V) (objs : List Obj) (K : Bool → V → List Obj → Option R) : Option R := match vs, objs with
  | [V.agg [Seg.arr IntKind.i8 81 x0, Seg.arr IntKind.i8 16 x1, Seg.one [S.i IntKind.i8 x2]]], [] => ob (ref05_Check x0 x1 x2) fun y0 => K false (V.s (S.i IntKind.i64 y0)) ([])
  | _, _ => o 19 vs objs K

def ref05_Checko (o : Orc) : Orc := fun f vs objs K => bif Nat.beq f 19 then ref05_Checka o vs objs K else o f vs objs K

theorem ref05_Check_ok {vs : List V} {objs : List Obj} (x0 : List Int) (x1 : List Int) (x2 : Int) {R : Type} {K : Bool → V → List Obj → Option R} {r : R} (hv : vs = [V.agg [Seg.arr IntKind.i8 81 x0, Seg.arr IntKind.i8 16 x1, Seg.one [S.i IntKind.i8 x2]]]) (ho : objs = []) (h : ob (ref05_Check x0 x1 x2) (fun y0 => K false (V.s (S.i IntKind.i64 y0)) ([])) = some r) :
    ∃ p v objs', K p v objs' = some r ∧ AnyOK Try.prog 19 vs objs p v objs' := by
  subst hv
  subst ho
  obtain ⟨t, h1, h2⟩ := ob_ok h
  refine anyOK_by mixed ref05_Checkc_ok (objs := []) (fn := Try.f19) (b := (Try.f19).body.getD .skip) (by kernel_rfl) (by kernel_rfl) (by kernel_rfl) (AllP.of (l' := [loopOf Try.f19 4, loopOf Try.f19 9, loopOf Try.f19 20, loopOf Try.f19 25, loopOf Try.f19 30]) (by kernel_rfl) ⟨ref05_Checks4, ref05_Checks9, ref05_Checks20, ref05_Checks25, ref05_Checks30, trivial⟩) ((ref05_Check_eq x0 x1 x2).trans h1) fun v objs' hd => ?_
  unfold ref05_Checkd at hd
  split at hd
  · skip
    cases hd
    exact h2
  · cases hd

theorem ref05_Checko_ok (o : Orc) (ho : OSound Try.prog o) : OSound Try.prog (ref05_Checko o) := by
  intro R f vs objs K r h
  replace h : (bif Nat.beq f 19 then ref05_Checka o vs objs K else o f vs objs K) = some r := h
  cases hf : Nat.beq f 19 with
  | false => rw [hf] at h; exact ho f vs objs K r h
  | true =>
    rw [hf] at h
    have e := Nat.eq_of_beq_eq_true hf
    subst e
    replace h : ref05_Checka o vs objs K = some r := h
    unfold ref05_Checka at h
    split at h
    · skip
      exact ref05_Check_ok _ _ _ rfl rfl h
    · exact ho _ _ _ _ _ h

def deed_Game_Keylp : {R : Type} → Nat → List V → List Obj → (Ex → List V → List Obj → Option R) → Option R := fun _ _ _ _ => none

def deed_Game_Keyoo : Orc := oNil

theorem deed_Game_Keyoo_ok : OSound Try.prog deed_Game_Keyoo := oNil_ok

def deed_Game_Keyc : Ctx := { tab := tab, eqs := eqs, bytes := bytes, nt := 7, orc := deed_Game_Keyoo, keeps := [], lp := deed_Game_Keylp }

theorem deed_Game_Keyc_ok : CtxOK Try.prog deed_Game_Keyc := ⟨tab_ok, deed_Game_Keyoo_ok, eqs_ok, bytes_ok⟩

def deed_Game_Keyd : V → List Obj → Option (Int) := fun v objs => match v, objs with
  | V.s (S.i IntKind.u64 y0), [] => some (y0)
  | _, _ => none

theorem deed_Game_Key_eq (x0 : Int) (x1 : Nat) (x2 : List Int) (x3 : List Int) (x4 : Int) (x5 : List (List Int)) (x6 : List (List Int)) (x7 : Nat) (x8 : List (List Int)) : fnE deed_Game_Keyc Try.f22 ([V.s (S.ptr 0 0 none 0)]) ([Obj.rcells 63 [Seg.one [S.ptr 1 0 none 0, S.i IntKind.u64 x0, S.sl 2 0 x1 true]], Obj.rcells 69 [Seg.arr IntKind.i8 81 x2, Seg.arr IntKind.i8 16 x3, Seg.one [S.i IntKind.i8 x4], Seg.rows [.i .u64, .i .u64] 32 x5, Seg.rows [.i .u64, .i .u64] 2 x6], Obj.sli 89 true (Seg.rows [.i .i64, .i .i64, .i .i64, .b, .i .i8, .i .i8] x7 x8)]) (pureD 3 deed_Game_Keyd) = deed_Game_Key x0 x1 x2 x3 x4 x5 x6 x7 x8 := by kernel_rfl

def deed_Game_Keya {R : Type} (o : Orc) (vs : List V) (objs : List Obj) (K : Bool → V → List Obj → Option R) : Option R := match vs, List.map Obj.toRO objs with
  | [V.s (S.ptr 0 0 none 0)], [Obj.rcells 63 [Seg.one [S.ptr 1 0 none 0, S.i IntKind.u64 x0, S.sl 2 0 x1 true]], Obj.rcells 69 [Seg.arr IntKind.i8 81 x2, Seg.arr IntKind.i8 16 x3, Seg.one [S.i IntKind.i8 x4], Seg.rows [.i .u64, .i .u64] 32 x5, Seg.rows [.i .u64, .i .u64] 2 x6], Obj.sli 89 true (Seg.rows [.i .i64, .i .i64, .i .i64, .b, .i .i8, .i .i8] x7 x8)] => ob (deed_Game_Key x0 x1 x2 x3 x4 x5 x6 x7 x8) fun y0 => K true (V.s (S.i IntKind.u64 y0)) ([])
  | _, _ => o 22 vs objs K

def deed_Game_Keyo (o : Orc) : Orc := fun f vs objs K => bif Nat.beq f 22 then deed_Game_Keya o vs objs K else o f vs objs K

theorem deed_Game_Key_ok {vs : List V} {objs : List Obj} (x0 : Int) (x1 : Nat) (x2 : List Int) (x3 : List Int) (x4 : Int) (x5 : List (List Int)) (x6 : List (List Int)) (x7 : Nat) (x8 : List (List Int)) {R : Type} {K : Bool → V → List Obj → Option R} {r : R} (hv : vs = [V.s (S.ptr 0 0 none 0)]) (ho : List.map Obj.toRO objs = [Obj.rcells 63 [Seg.one [S.ptr 1 0 none 0, S.i IntKind.u64 x0, S.sl 2 0 x1 true]], Obj.rcells 69 [Seg.arr IntKind.i8 81 x2, Seg.arr IntKind.i8 16 x3, Seg.one [S.i IntKind.i8 x4], Seg.rows [.i .u64, .i .u64] 32 x5, Seg.rows [.i .u64, .i .u64] 2 x6], Obj.sli 89 true (Seg.rows [.i .i64, .i .i64, .i .i64, .b, .i .i8, .i .i8] x7 x8)]) (h : ob (deed_Game_Key x0 x1 x2 x3 x4 x5 x6 x7 x8) (fun y0 => K true (V.s (S.i IntKind.u64 y0)) ([])) = some r) :
    ∃ p v objs', K p v objs' = some r ∧ AnyOK Try.prog 22 vs objs p v objs' := by
  subst hv
  obtain ⟨t, h1, h2⟩ := ob_ok h
  refine purOK_by mixed deed_Game_Keyc_ok (m := 3) (fn := Try.f22) (b := (Try.f22).body.getD .skip) (by kernel_rfl) (by kernel_rfl) (by kernel_rfl) ho (by kernel_rfl) (by kernel_rfl) (AllP.of (l' := []) (by kernel_rfl) trivial) ((deed_Game_Key_eq x0 x1 x2 x3 x4 x5 x6 x7 x8).trans h1) fun v objs' hd => ?_
  unfold deed_Game_Keyd at hd
  split at hd
  · skip
    cases hd
    exact h2
  · cases hd

theorem deed_Game_Keyo_ok (o : Orc) (ho : OSound Try.prog o) : OSound Try.prog (deed_Game_Keyo o) := by
  intro R f vs objs K r h
  replace h : (bif Nat.beq f 22 then deed_Game_Keya o vs objs K else o f vs objs K) = some r := h
  cases hf : Nat.beq f 22 with
  | false => rw [hf] at h; exact ho f vs objs K r h
  | true =>
    rw [hf] at h
    have e := Nat.eq_of_beq_eq_true hf
    subst e
    replace h : deed_Game_Keya o vs objs K = some r := h
    unfold deed_Game_Keya at h
    split at h
    · skip
      exact deed_Game_Key_ok _ _ _ _ _ _ _ _ _ rfl (by rename_i hq; first | exact hq | assumption) h
    · exact ho _ _ _ _ _ h

def law09_DeedTwicel8d : Ex → List V → List Obj → Option ((Nat × Nat × Bool × Nat × List (List Int) × List Int × List Int × Int × Int × Nat × Int × Nat × List Int × List Int × Int × List (List Int) × List (List Int) × Nat × List (List Int) × List Int × List Int × Int × List (List Int) × List (List Int) × Nat × List (List Int)) ⊕ (Nat × Nat × Nat × List (List Int) × List Int × List Int × Int × Int × Nat × Int × Nat × List Int × List Int × Int × List (List Int) × List (List Int) × Nat × List (List Int) × List Int × List Int × Int × List (List Int) × List (List Int) × Nat × List (List Int))) := fun e vs objs => match e, vs, objs with
  | Ex.ret, [V.s (S.sl 0 y0 y1 false), V.s (S.ptr 1 0 none 0), V.s (S.b y2), V.s (S.ptr 2 0 none 0), V.s (S.ptr 3 0 none 0)], [Obj.sli 37 true (Seg.rows [.i .i64, .i .i64, .i .i64, .b] y3 y4), Obj.cells 34 [Seg.arr IntKind.i8 81 y5, Seg.arr IntKind.i8 16 y6, Seg.one [S.i IntKind.i8 y7]], Obj.cells 63 [Seg.one [S.ptr 4 0 none 0, S.i IntKind.u64 y8, S.sl 5 0 y9 true]], Obj.cells 63 [Seg.one [S.ptr 6 0 none 0, S.i IntKind.u64 y10, S.sl 7 0 y11 true]], Obj.cells 69 [Seg.arr IntKind.i8 81 y12, Seg.arr IntKind.i8 16 y13, Seg.one [S.i IntKind.i8 y14], Seg.rows [.i .u64, .i .u64] 32 y15, Seg.rows [.i .u64, .i .u64] 2 y16], Obj.sli 89 false (Seg.rows [.i .i64, .i .i64, .i .i64, .b, .i .i8, .i .i8] y17 y18), Obj.cells 69 [Seg.arr IntKind.i8 81 y19, Seg.arr IntKind.i8 16 y20, Seg.one [S.i IntKind.i8 y21], Seg.rows [.i .u64, .i .u64] 32 y22, Seg.rows [.i .u64, .i .u64] 2 y23], Obj.sli 89 false (Seg.rows [.i .i64, .i .i64, .i .i64, .b, .i .i8, .i .i8] y24 y25)] => some (Sum.inl (y0, y1, y2, y3, y4, y5, y6, y7, y8, y9, y10, y11, y12, y13, y14, y15, y16, y17, y18, y19, y20, y21, y22, y23, y24, y25))
  | Ex.exit 0, [V.s (S.sl 0 y0 y1 false), V.s (S.ptr 1 0 none 0), V.s S.bad, V.s (S.ptr 2 0 none 0), V.s (S.ptr 3 0 none 0)], [Obj.sli 37 true (Seg.rows [.i .i64, .i .i64, .i .i64, .b] y2 y3), Obj.cells 34 [Seg.arr IntKind.i8 81 y4, Seg.arr IntKind.i8 16 y5, Seg.one [S.i IntKind.i8 y6]], Obj.cells 63 [Seg.one [S.ptr 4 0 none 0, S.i IntKind.u64 y7, S.sl 5 0 y8 true]], Obj.cells 63 [Seg.one [S.ptr 6 0 none 0, S.i IntKind.u64 y9, S.sl 7 0 y10 true]], Obj.cells 69 [Seg.arr IntKind.i8 81 y11, Seg.arr IntKind.i8 16 y12, Seg.one [S.i IntKind.i8 y13], Seg.rows [.i .u64, .i .u64] 32 y14, Seg.rows [.i .u64, .i .u64] 2 y15], Obj.sli 89 false (Seg.rows [.i .i64, .i .i64, .i .i64, .b, .i .i8, .i .i8] y16 y17), Obj.cells 69 [Seg.arr IntKind.i8 81 y18, Seg.arr IntKind.i8 16 y19, Seg.one [S.i IntKind.i8 y20], Seg.rows [.i .u64, .i .u64] 32 y21, Seg.rows [.i .u64, .i .u64] 2 y22], Obj.sli 89 false (Seg.rows [.i .i64, .i .i64, .i .i64, .b, .i .i8, .i .i8] y23 y24)] => some (Sum.inr (y0, y1, y2, y3, y4, y5, y6, y7, y8, y9, y10, y11, y12, y13, y14, y15, y16, y17, y18, y19, y20, y21, y22, y23, y24))
  | _, _, _ => none

def law09_DeedTwicel16d : Ex → List V → List Obj → Option (Nat × Nat × Nat × List (List Int) × List Int × List Int × Int × Int × Nat × Int × Nat × List Int × List Int × Int × List (List Int) × List (List Int) × Nat × List (List Int) × List Int × List Int × Int × List (List Int) × List (List Int) × Nat × List (List Int)) := fun e vs objs => match e, vs, objs with
  | Ex.exit 2, [V.s (S.sl 0 y0 y1 false), V.s (S.ptr 1 0 none 0), V.s (S.ptr 2 0 none 0), V.s (S.ptr 3 0 none 0)], [Obj.sli 37 true (Seg.rows [.i .i64, .i .i64, .i .i64, .b] y2 y3), Obj.cells 34 [Seg.arr IntKind.i8 81 y4, Seg.arr IntKind.i8 16 y5, Seg.one [S.i IntKind.i8 y6]], Obj.cells 63 [Seg.one [S.ptr 4 0 none 0, S.i IntKind.u64 y7, S.sl 5 0 y8 true]], Obj.cells 63 [Seg.one [S.ptr 6 0 none 0, S.i IntKind.u64 y9, S.sl 7 0 y10 true]], Obj.cells 69 [Seg.arr IntKind.i8 81 y11, Seg.arr IntKind.i8 16 y12, Seg.one [S.i IntKind.i8 y13], Seg.rows [.i .u64, .i .u64] 32 y14, Seg.rows [.i .u64, .i .u64] 2 y15], Obj.sli 89 false (Seg.rows [.i .i64, .i .i64, .i .i64, .b, .i .i8, .i .i8] y16 y17), Obj.cells 69 [Seg.arr IntKind.i8 81 y18, Seg.arr IntKind.i8 16 y19, Seg.one [S.i IntKind.i8 y20], Seg.rows [.i .u64, .i .u64] 32 y21, Seg.rows [.i .u64, .i .u64] 2 y22], Obj.sli 89 false (Seg.rows [.i .i64, .i .i64, .i .i64, .b, .i .i8, .i .i8] y23 y24)] => some (y0, y1, y2, y3, y4, y5, y6, y7, y8, y9, y10, y11, y12, y13, y14, y15, y16, y17, y18, y19, y20, y21, y22, y23, y24)
  | _, _, _ => none

def law09_DeedTwicep8 {R : Type} (vs : List V) (objs : List Obj) (K : Ex → List V → List Obj → Option R) : Option R := match vs, objs with
  | [V.s (S.sl 0 x0 x1 false), V.s (S.ptr 1 0 none 0), V.s (S.ptr 2 0 none 0), V.s (S.ptr 3 0 none 0), V.s (S.sl 0 x2 x3 false), V.s (S.i IntKind.i64 x4), V.s (S.i IntKind.i64 x5)], [Obj.sli 37 true (Seg.rows [.i .i64, .i .i64, .i .i64, .b] x6 x7), Obj.cells 34 [Seg.arr IntKind.i8 81 x8, Seg.arr IntKind.i8 16 x9, Seg.one [S.i IntKind.i8 x10]], Obj.cells 63 [Seg.one [S.ptr 4 0 none 0, S.i IntKind.u64 x11, S.sl 5 0 x12 true]], Obj.cells 63 [Seg.one [S.ptr 6 0 none 0, S.i IntKind.u64 x13, S.sl 7 0 x14 true]], Obj.cells 69 [Seg.arr IntKind.i8 81 x15, Seg.arr IntKind.i8 16 x16, Seg.one [S.i IntKind.i8 x17], Seg.rows [.i .u64, .i .u64] 32 x18, Seg.rows [.i .u64, .i .u64] 2 x19], Obj.sli 89 false (Seg.rows [.i .i64, .i .i64, .i .i64, .b, .i .i8, .i .i8] x20 x21), Obj.cells 69 [Seg.arr IntKind.i8 81 x22, Seg.arr IntKind.i8 16 x23, Seg.one [S.i IntKind.i8 x24], Seg.rows [.i .u64, .i .u64] 32 x25, Seg.rows [.i .u64, .i .u64] 2 x26], Obj.sli 89 false (Seg.rows [.i .i64, .i .i64, .i .i64, .b, .i .i8, .i .i8] x27 x28)] => ob (law09_DeedTwicel8 many x0 x1 x2 x3 x4 x5 x6 x7 x8 x9 x10 x11 x12 x13 x14 x15 x16 x17 x18 x19 x20 x21 x22 x23 x24 x25 x26 x27 x28) fun t0 => sw t0 (fun z => K (Ex.ret) ([V.s (S.sl 0 (z.1) (z.2.1) false), V.s (S.ptr 1 0 none 0), V.s (S.b (z.2.2.1)), V.s (S.ptr 2 0 none 0), V.s (S.ptr 3 0 none 0)]) ([Obj.sli 37 true (Seg.rows [.i .i64, .i .i64, .i .i64, .b] (z.2.2.2.1) (z.2.2.2.2.1)), Obj.cells 34 [Seg.arr IntKind.i8 81 (z.2.2.2.2.2.1), Seg.arr IntKind.i8 16 (z.2.2.2.2.2.2.1), Seg.one [S.i IntKind.i8 (z.2.2.2.2.2.2.2.1)]], Obj.cells 63 [Seg.one [S.ptr 4 0 none 0, S.i IntKind.u64 (z.2.2.2.2.2.2.2.2.1), S.sl 5 0 (z.2.2.2.2.2.2.2.2.2.1) true]], Obj.cells 63 [Seg.one [S.ptr 6 0 none 0, S.i IntKind.u64 (z.2.2.2.2.2.2.2.2.2.2.1), S.sl 7 0 (z.2.2.2.2.2.2.2.2.2.2.2.1) true]], Obj.cells 69 [Seg.arr IntKind.i8 81 (z.2.2.2.2.2.2.2.2.2.2.2.2.1), Seg.arr IntKind.i8 16 (z.2.2.2.2.2.2.2.2.2.2.2.2.2.1), Seg.one [S.i IntKind.i8 (z.2.2.2.2.2.2.2.2.2.2.2.2.2.2.1)], Seg.rows [.i .u64, .i .u64] 32 (z.2.2.2.2.2.2.2.2.2.2.2.2.2.2.2.1), Seg.rows [.i .u64, .i .u64] 2 (z.2.2.2.2.2.2.2.2.2.2.2.2.2.2.2.2.1)], Obj.sli 89 false (Seg.rows [.i .i64, .i .i64, .i .i64, .b, .i .i8, .i .i8] (z.2.2.2.2.2.2.2.2.2.2.2.2.2.2.2.2.2.1) (z.2.2.2.2.2.2.2.2.2.2.2.2.2.2.2.2.2.2.1)), Obj.cells 69 [Seg.arr IntKind.i8 81 (z.2.2.2.2.2.2.2.2.2.2.2.2.2.2.2.2.2.2.2.1), Seg.arr IntKind.i8 16 (z.2.2.2.2.2.2.2.2.2.2.2.2.2.2.2.2.2.2.2.2.1), Seg.one [S.i IntKind.i8 (z.2.2.2.2.2.2.2.2.2.2.2.2.2.2.2.2.2.2.2.2.2.1)], Seg.rows [.i .u64, .i .u64] 32 (z.2.2.2.2.2.2.2.2.2.2.2.2.2.2.2.2.2.2.2.2.2.2.1), Seg.rows [.i .u64, .i .u64] 2 (z.2.2.2.2.2.2.2.2.2.2.2.2.2.2.2.2.2.2.2.2.2.2.2.1)], Obj.sli 89 false (Seg.rows [.i .i64, .i .i64, .i .i64, .b, .i .i8, .i .i8] (z.2.2.2.2.2.2.2.2.2.2.2.2.2.2.2.2.2.2.2.2.2.2.2.2.1) (z.2.2.2.2.2.2.2.2.2.2.2.2.2.2.2.2.2.2.2.2.2.2.2.2.2))])) (fun z => K (Ex.exit 0) ([V.s (S.sl 0 (z.1) (z.2.1) false), V.s (S.ptr 1 0 none 0), V.s S.bad, V.s (S.ptr 2 0 none 0), V.s (S.ptr 3 0 none 0)]) ([Obj.sli 37 true (Seg.rows [.i .i64, .i .i64, .i .i64, .b] (z.2.2.1) (z.2.2.2.1)), Obj.cells 34 [Seg.arr IntKind.i8 81 (z.2.2.2.2.1), Seg.arr IntKind.i8 16 (z.2.2.2.2.2.1), Seg.one [S.i IntKind.i8 (z.2.2.2.2.2.2.1)]], Obj.cells 63 [Seg.one [S.ptr 4 0 none 0, S.i IntKind.u64 (z.2.2.2.2.2.2.2.1), S.sl 5 0 (z.2.2.2.2.2.2.2.2.1) true]], Obj.cells 63 [Seg.one [S.ptr 6 0 none 0, S.i IntKind.u64 (z.2.2.2.2.2.2.2.2.2.1), S.sl 7 0 (z.2.2.2.2.2.2.2.2.2.2.1) true]], Obj.cells 69 [Seg.arr IntKind.i8 81 (z.2.2.2.2.2.2.2.2.2.2.2.1), Seg.arr IntKind.i8 16 (z.2.2.2.2.2.2.2.2.2.2.2.2.1), Seg.one [S.i IntKind.i8 (z.2.2.2.2.2.2.2.2.2.2.2.2.2.1)], Seg.rows [.i .u64, .i .u64] 32 (z.2.2.2.2.2.2.2.2.2.2.2.2.2.2.1), Seg.rows [.i .u64, .i .u64] 2 (z.2.2.2.2.2.2.2.2.2.2.2.2.2.2.2.1)], Obj.sli 89 false (Seg.rows [.i .i64, .i .i64, .i .i64, .b, .i .i8, .i .i8] (z.2.2.2.2.2.2.2.2.2.2.2.2.2.2.2.2.1) (z.2.2.2.2.2.2.2.2.2.2.2.2.2.2.2.2.2.1)), Obj.cells 69 [Seg.arr IntKind.i8 81 (z.2.2.2.2.2.2.2.2.2.2.2.2.2.2.2.2.2.2.1), Seg.arr IntKind.i8 16 (z.2.2.2.2.2.2.2.2.2.2.2.2.2.2.2.2.2.2.2.1), Seg.one [S.i IntKind.i8 (z.2.2.2.2.2.2.2.2.2.2.2.2.2.2.2.2.2.2.2.2.1)], Seg.rows [.i .u64, .i .u64] 32 (z.2.2.2.2.2.2.2.2.2.2.2.2.2.2.2.2.2.2.2.2.2.1), Seg.rows [.i .u64, .i .u64] 2 (z.2.2.2.2.2.2.2.2.2.2.2.2.2.2.2.2.2.2.2.2.2.2.1)], Obj.sli 89 false (Seg.rows [.i .i64, .i .i64, .i .i64, .b, .i .i8, .i .i8] (z.2.2.2.2.2.2.2.2.2.2.2.2.2.2.2.2.2.2.2.2.2.2.2.1) (z.2.2.2.2.2.2.2.2.2.2.2.2.2.2.2.2.2.2.2.2.2.2.2.2))]))
  | _, _ => none

def law09_DeedTwicep16 {R : Type} (vs : List V) (objs : List Obj) (K : Ex → List V → List Obj → Option R) : Option R := match vs, objs with
  | [V.s (S.sl 0 x0 x1 false), V.s (S.ptr 1 0 none 0), V.s (S.ptr 2 0 none 0), V.s (S.ptr 3 0 none 0)], [Obj.sli 37 true (Seg.rows [.i .i64, .i .i64, .i .i64, .b] x2 x3), Obj.cells 34 [Seg.arr IntKind.i8 81 x4, Seg.arr IntKind.i8 16 x5, Seg.one [S.i IntKind.i8 x6]], Obj.cells 63 [Seg.one [S.ptr 4 0 none 0, S.i IntKind.u64 x7, S.sl 5 0 x8 true]], Obj.cells 63 [Seg.one [S.ptr 6 0 none 0, S.i IntKind.u64 x9, S.sl 7 0 x10 true]], Obj.cells 69 [Seg.arr IntKind.i8 81 x11, Seg.arr IntKind.i8 16 x12, Seg.one [S.i IntKind.i8 x13], Seg.rows [.i .u64, .i .u64] 32 x14, Seg.rows [.i .u64, .i .u64] 2 x15], Obj.sli 89 false (Seg.rows [.i .i64, .i .i64, .i .i64, .b, .i .i8, .i .i8] x16 x17), Obj.cells 69 [Seg.arr IntKind.i8 81 x18, Seg.arr IntKind.i8 16 x19, Seg.one [S.i IntKind.i8 x20], Seg.rows [.i .u64, .i .u64] 32 x21, Seg.rows [.i .u64, .i .u64] 2 x22], Obj.sli 89 false (Seg.rows [.i .i64, .i .i64, .i .i64, .b, .i .i8, .i .i8] x23 x24)] => ob (law09_DeedTwicel16 many x0 x1 x2 x3 x4 x5 x6 x7 x8 x9 x10 x11 x12 x13 x14 x15 x16 x17 x18 x19 x20 x21 x22 x23 x24) fun z => K (Ex.exit 2) ([V.s (S.sl 0 (z.1) (z.2.1) false), V.s (S.ptr 1 0 none 0), V.s (S.ptr 2 0 none 0), V.s (S.ptr 3 0 none 0)]) ([Obj.sli 37 true (Seg.rows [.i .i64, .i .i64, .i .i64, .b] (z.2.2.1) (z.2.2.2.1)), Obj.cells 34 [Seg.arr IntKind.i8 81 (z.2.2.2.2.1), Seg.arr IntKind.i8 16 (z.2.2.2.2.2.1), Seg.one [S.i IntKind.i8 (z.2.2.2.2.2.2.1)]], Obj.cells 63 [Seg.one [S.ptr 4 0 none 0, S.i IntKind.u64 (z.2.2.2.2.2.2.2.1), S.sl 5 0 (z.2.2.2.2.2.2.2.2.1) true]], Obj.cells 63 [Seg.one [S.ptr 6 0 none 0, S.i IntKind.u64 (z.2.2.2.2.2.2.2.2.2.1), S.sl 7 0 (z.2.2.2.2.2.2.2.2.2.2.1) true]], Obj.cells 69 [Seg.arr IntKind.i8 81 (z.2.2.2.2.2.2.2.2.2.2.2.1), Seg.arr IntKind.i8 16 (z.2.2.2.2.2.2.2.2.2.2.2.2.1), Seg.one [S.i IntKind.i8 (z.2.2.2.2.2.2.2.2.2.2.2.2.2.1)], Seg.rows [.i .u64, .i .u64] 32 (z.2.2.2.2.2.2.2.2.2.2.2.2.2.2.1), Seg.rows [.i .u64, .i .u64] 2 (z.2.2.2.2.2.2.2.2.2.2.2.2.2.2.2.1)], Obj.sli 89 false (Seg.rows [.i .i64, .i .i64, .i .i64, .b, .i .i8, .i .i8] (z.2.2.2.2.2.2.2.2.2.2.2.2.2.2.2.2.1) (z.2.2.2.2.2.2.2.2.2.2.2.2.2.2.2.2.2.1)), Obj.cells 69 [Seg.arr IntKind.i8 81 (z.2.2.2.2.2.2.2.2.2.2.2.2.2.2.2.2.2.2.1), Seg.arr IntKind.i8 16 (z.2.2.2.2.2.2.2.2.2.2.2.2.2.2.2.2.2.2.2.1), Seg.one [S.i IntKind.i8 (z.2.2.2.2.2.2.2.2.2.2.2.2.2.2.2.2.2.2.2.2.1)], Seg.rows [.i .u64, .i .u64] 32 (z.2.2.2.2.2.2.2.2.2.2.2.2.2.2.2.2.2.2.2.2.2.1), Seg.rows [.i .u64, .i .u64] 2 (z.2.2.2.2.2.2.2.2.2.2.2.2.2.2.2.2.2.2.2.2.2.2.1)], Obj.sli 89 false (Seg.rows [.i .i64, .i .i64, .i .i64, .b, .i .i8, .i .i8] (z.2.2.2.2.2.2.2.2.2.2.2.2.2.2.2.2.2.2.2.2.2.2.2.1) (z.2.2.2.2.2.2.2.2.2.2.2.2.2.2.2.2.2.2.2.2.2.2.2.2))])
  | _, _ => none

def law09_DeedTwicelp : {R : Type} → Nat → List V → List Obj → (Ex → List V → List Obj → Option R) → Option R := fun q vs objs K => bif Nat.beq q 8 then law09_DeedTwicep8 vs objs K else bif Nat.beq q 16 then law09_DeedTwicep16 vs objs K else none

def law09_DeedTwiceoo : Orc := (deed_Game_Backo (deed_Game_Leno (deed_Game_Keyo (deed_Game_Makeo (deed_Game_Cano (deed_Newo (ref05_Checko (ref09_Cleano (law09_makeso oNil)))))))))

theorem law09_DeedTwiceoo_ok : OSound Try.prog law09_DeedTwiceoo := (deed_Game_Backo_ok _ (deed_Game_Leno_ok _ (deed_Game_Keyo_ok _ (deed_Game_Makeo_ok _ (deed_Game_Cano_ok _ (deed_Newo_ok _ (ref05_Checko_ok _ (ref09_Cleano_ok _ (law09_makeso_ok _ oNil_ok)))))))))

def law09_DeedTwicec : Ctx := { tab := tab, eqs := eqs, bytes := bytes, nt := 120, orc := law09_DeedTwiceoo, keeps := [(8, [1, 2, 5, 6, 26, 27, 28], [1, 2, 4, 5, 6]), (16, [1, 2, 5, 6], [1, 2, 5, 6])], lp := law09_DeedTwicelp }

theorem law09_DeedTwicec_ok : CtxOK Try.prog law09_DeedTwicec := ⟨tab_ok, law09_DeedTwiceoo_ok, eqs_ok, bytes_ok⟩

theorem law09_DeedTwicel8_step (f : Nat) (x0 : Nat) (x1 : Nat) (x2 : Nat) (x3 : Nat) (x4 : Int) (x5 : Int) (x6 : Nat) (x7 : List (List Int)) (x8 : List Int) (x9 : List Int) (x10 : Int) (x11 : Int) (x12 : Nat) (x13 : Int) (x14 : Nat) (x15 : List Int) (x16 : List Int) (x17 : Int) (x18 : List (List Int)) (x19 : List (List Int)) (x20 : Nat) (x21 : List (List Int)) (x22 : List Int) (x23 : List Int) (x24 : Int) (x25 : List (List Int)) (x26 : List (List Int)) (x27 : Nat) (x28 : List (List Int)) : lrun law09_DeedTwicec 1 [1, 2, 5, 6, 26, 27, 28] [1, 2, 4, 5, 6] (loopOf Try.f8 8) (f + 1) ([V.s (S.sl 0 x0 x1 false), V.s (S.ptr 1 0 none 0), V.s (S.ptr 2 0 none 0), V.s (S.ptr 3 0 none 0), V.s (S.sl 0 x2 x3 false), V.s (S.i IntKind.i64 x4), V.s (S.i IntKind.i64 x5)]) ([Obj.sli 37 true (Seg.rows [.i .i64, .i .i64, .i .i64, .b] x6 x7), Obj.cells 34 [Seg.arr IntKind.i8 81 x8, Seg.arr IntKind.i8 16 x9, Seg.one [S.i IntKind.i8 x10]], Obj.cells 63 [Seg.one [S.ptr 4 0 none 0, S.i IntKind.u64 x11, S.sl 5 0 x12 true]], Obj.cells 63 [Seg.one [S.ptr 6 0 none 0, S.i IntKind.u64 x13, S.sl 7 0 x14 true]], Obj.cells 69 [Seg.arr IntKind.i8 81 x15, Seg.arr IntKind.i8 16 x16, Seg.one [S.i IntKind.i8 x17], Seg.rows [.i .u64, .i .u64] 32 x18, Seg.rows [.i .u64, .i .u64] 2 x19], Obj.sli 89 false (Seg.rows [.i .i64, .i .i64, .i .i64, .b, .i .i8, .i .i8] x20 x21), Obj.cells 69 [Seg.arr IntKind.i8 81 x22, Seg.arr IntKind.i8 16 x23, Seg.one [S.i IntKind.i8 x24], Seg.rows [.i .u64, .i .u64] 32 x25, Seg.rows [.i .u64, .i .u64] 2 x26], Obj.sli 89 false (Seg.rows [.i .i64, .i .i64, .i .i64, .b, .i .i8, .i .i8] x27 x28)]) law09_DeedTwicel8d = law09_DeedTwicel8s (fun x0 x1 x2 x3 x4 x5 x6 x7 x8 x9 x10 x11 x12 x13 x14 x15 x16 x17 x18 x19 x20 x21 x22 x23 x24 x25 x26 x27 x28 => lrun law09_DeedTwicec 1 [1, 2, 5, 6, 26, 27, 28] [1, 2, 4, 5, 6] (loopOf Try.f8 8) f ([V.s (S.sl 0 x0 x1 false), V.s (S.ptr 1 0 none 0), V.s (S.ptr 2 0 none 0), V.s (S.ptr 3 0 none 0), V.s (S.sl 0 x2 x3 false), V.s (S.i IntKind.i64 x4), V.s (S.i IntKind.i64 x5)]) ([Obj.sli 37 true (Seg.rows [.i .i64, .i .i64, .i .i64, .b] x6 x7), Obj.cells 34 [Seg.arr IntKind.i8 81 x8, Seg.arr IntKind.i8 16 x9, Seg.one [S.i IntKind.i8 x10]], Obj.cells 63 [Seg.one [S.ptr 4 0 none 0, S.i IntKind.u64 x11, S.sl 5 0 x12 true]], Obj.cells 63 [Seg.one [S.ptr 6 0 none 0, S.i IntKind.u64 x13, S.sl 7 0 x14 true]], Obj.cells 69 [Seg.arr IntKind.i8 81 x15, Seg.arr IntKind.i8 16 x16, Seg.one [S.i IntKind.i8 x17], Seg.rows [.i .u64, .i .u64] 32 x18, Seg.rows [.i .u64, .i .u64] 2 x19], Obj.sli 89 false (Seg.rows [.i .i64, .i .i64, .i .i64, .b, .i .i8, .i .i8] x20 x21), Obj.cells 69 [Seg.arr IntKind.i8 81 x22, Seg.arr IntKind.i8 16 x23, Seg.one [S.i IntKind.i8 x24], Seg.rows [.i .u64, .i .u64] 32 x25, Seg.rows [.i .u64, .i .u64] 2 x26], Obj.sli 89 false (Seg.rows [.i .i64, .i .i64, .i .i64, .b, .i .i8, .i .i8] x27 x28)]) law09_DeedTwicel8d) x0 x1 x2 x3 x4 x5 x6 x7 x8 x9 x10 x11 x12 x13 x14 x15 x16 x17 x18 x19 x20 x21 x22 x23 x24 x25 x26 x27 x28 := by kernel_rfl

theorem law09_DeedTwicel8_eq (f : Nat) : ∀ (x0 : Nat) (x1 : Nat) (x2 : Nat) (x3 : Nat) (x4 : Int) (x5 : Int) (x6 : Nat) (x7 : List (List Int)) (x8 : List Int) (x9 : List Int) (x10 : Int) (x11 : Int) (x12 : Nat) (x13 : Int) (x14 : Nat) (x15 : List Int) (x16 : List Int) (x17 : Int) (x18 : List (List Int)) (x19 : List (List Int)) (x20 : Nat) (x21 : List (List Int)) (x22 : List Int) (x23 : List Int) (x24 : Int) (x25 : List (List Int)) (x26 : List (List Int)) (x27 : Nat) (x28 : List (List Int)), lrun law09_DeedTwicec 1 [1, 2, 5, 6, 26, 27, 28] [1, 2, 4, 5, 6] (loopOf Try.f8 8) f ([V.s (S.sl 0 x0 x1 false), V.s (S.ptr 1 0 none 0), V.s (S.ptr 2 0 none 0), V.s (S.ptr 3 0 none 0), V.s (S.sl 0 x2 x3 false), V.s (S.i IntKind.i64 x4), V.s (S.i IntKind.i64 x5)]) ([Obj.sli 37 true (Seg.rows [.i .i64, .i .i64, .i .i64, .b] x6 x7), Obj.cells 34 [Seg.arr IntKind.i8 81 x8, Seg.arr IntKind.i8 16 x9, Seg.one [S.i IntKind.i8 x10]], Obj.cells 63 [Seg.one [S.ptr 4 0 none 0, S.i IntKind.u64 x11, S.sl 5 0 x12 true]], Obj.cells 63 [Seg.one [S.ptr 6 0 none 0, S.i IntKind.u64 x13, S.sl 7 0 x14 true]], Obj.cells 69 [Seg.arr IntKind.i8 81 x15, Seg.arr IntKind.i8 16 x16, Seg.one [S.i IntKind.i8 x17], Seg.rows [.i .u64, .i .u64] 32 x18, Seg.rows [.i .u64, .i .u64] 2 x19], Obj.sli 89 false (Seg.rows [.i .i64, .i .i64, .i .i64, .b, .i .i8, .i .i8] x20 x21), Obj.cells 69 [Seg.arr IntKind.i8 81 x22, Seg.arr IntKind.i8 16 x23, Seg.one [S.i IntKind.i8 x24], Seg.rows [.i .u64, .i .u64] 32 x25, Seg.rows [.i .u64, .i .u64] 2 x26], Obj.sli 89 false (Seg.rows [.i .i64, .i .i64, .i .i64, .b, .i .i8, .i .i8] x27 x28)]) law09_DeedTwicel8d = law09_DeedTwicel8 f x0 x1 x2 x3 x4 x5 x6 x7 x8 x9 x10 x11 x12 x13 x14 x15 x16 x17 x18 x19 x20 x21 x22 x23 x24 x25 x26 x27 x28 := by
  induction f with
  | zero => intros; rfl
  | succ f ih =>
    intro x0 x1 x2 x3 x4 x5 x6 x7 x8 x9 x10 x11 x12 x13 x14 x15 x16 x17 x18 x19 x20 x21 x22 x23 x24 x25 x26 x27 x28
    rw [law09_DeedTwicel8_step]
    have e : (fun x0 x1 x2 x3 x4 x5 x6 x7 x8 x9 x10 x11 x12 x13 x14 x15 x16 x17 x18 x19 x20 x21 x22 x23 x24 x25 x26 x27 x28 => lrun law09_DeedTwicec 1 [1, 2, 5, 6, 26, 27, 28] [1, 2, 4, 5, 6] (loopOf Try.f8 8) f ([V.s (S.sl 0 x0 x1 false), V.s (S.ptr 1 0 none 0), V.s (S.ptr 2 0 none 0), V.s (S.ptr 3 0 none 0), V.s (S.sl 0 x2 x3 false), V.s (S.i IntKind.i64 x4), V.s (S.i IntKind.i64 x5)]) ([Obj.sli 37 true (Seg.rows [.i .i64, .i .i64, .i .i64, .b] x6 x7), Obj.cells 34 [Seg.arr IntKind.i8 81 x8, Seg.arr IntKind.i8 16 x9, Seg.one [S.i IntKind.i8 x10]], Obj.cells 63 [Seg.one [S.ptr 4 0 none 0, S.i IntKind.u64 x11, S.sl 5 0 x12 true]], Obj.cells 63 [Seg.one [S.ptr 6 0 none 0, S.i IntKind.u64 x13, S.sl 7 0 x14 true]], Obj.cells 69 [Seg.arr IntKind.i8 81 x15, Seg.arr IntKind.i8 16 x16, Seg.one [S.i IntKind.i8 x17], Seg.rows [.i .u64, .i .u64] 32 x18, Seg.rows [.i .u64, .i .u64] 2 x19], Obj.sli 89 false (Seg.rows [.i .i64, .i .i64, .i .i64, .b, .i .i8, .i .i8] x20 x21), Obj.cells 69 [Seg.arr IntKind.i8 81 x22, Seg.arr IntKind.i8 16 x23, Seg.one [S.i IntKind.i8 x24], Seg.rows [.i .u64, .i .u64] 32 x25, Seg.rows [.i .u64, .i .u64] 2 x26], Obj.sli 89 false (Seg.rows [.i .i64, .i .i64, .i .i64, .b, .i .i8, .i .i8] x27 x28)]) law09_DeedTwicel8d) = law09_DeedTwicel8 f := by
      funext x0 x1 x2 x3 x4 x5 x6 x7 x8 x9 x10 x11 x12 x13 x14 x15 x16 x17 x18 x19 x20 x21 x22 x23 x24 x25 x26 x27 x28
      exact ih x0 x1 x2 x3 x4 x5 x6 x7 x8 x9 x10 x11 x12 x13 x14 x15 x16 x17 x18 x19 x20 x21 x22 x23 x24 x25 x26 x27 x28
    rw [e]
    rfl

theorem law09_DeedTwicel16_step (f : Nat) (x0 : Nat) (x1 : Nat) (x2 : Nat) (x3 : List (List Int)) (x4 : List Int) (x5 : List Int) (x6 : Int) (x7 : Int) (x8 : Nat) (x9 : Int) (x10 : Nat) (x11 : List Int) (x12 : List Int) (x13 : Int) (x14 : List (List Int)) (x15 : List (List Int)) (x16 : Nat) (x17 : List (List Int)) (x18 : List Int) (x19 : List Int) (x20 : Int) (x21 : List (List Int)) (x22 : List (List Int)) (x23 : Nat) (x24 : List (List Int)) : lrun law09_DeedTwicec 1 [1, 2, 5, 6] [1, 2, 5, 6] (loopOf Try.f8 16) (f + 1) ([V.s (S.sl 0 x0 x1 false), V.s (S.ptr 1 0 none 0), V.s (S.ptr 2 0 none 0), V.s (S.ptr 3 0 none 0)]) ([Obj.sli 37 true (Seg.rows [.i .i64, .i .i64, .i .i64, .b] x2 x3), Obj.cells 34 [Seg.arr IntKind.i8 81 x4, Seg.arr IntKind.i8 16 x5, Seg.one [S.i IntKind.i8 x6]], Obj.cells 63 [Seg.one [S.ptr 4 0 none 0, S.i IntKind.u64 x7, S.sl 5 0 x8 true]], Obj.cells 63 [Seg.one [S.ptr 6 0 none 0, S.i IntKind.u64 x9, S.sl 7 0 x10 true]], Obj.cells 69 [Seg.arr IntKind.i8 81 x11, Seg.arr IntKind.i8 16 x12, Seg.one [S.i IntKind.i8 x13], Seg.rows [.i .u64, .i .u64] 32 x14, Seg.rows [.i .u64, .i .u64] 2 x15], Obj.sli 89 false (Seg.rows [.i .i64, .i .i64, .i .i64, .b, .i .i8, .i .i8] x16 x17), Obj.cells 69 [Seg.arr IntKind.i8 81 x18, Seg.arr IntKind.i8 16 x19, Seg.one [S.i IntKind.i8 x20], Seg.rows [.i .u64, .i .u64] 32 x21, Seg.rows [.i .u64, .i .u64] 2 x22], Obj.sli 89 false (Seg.rows [.i .i64, .i .i64, .i .i64, .b, .i .i8, .i .i8] x23 x24)]) law09_DeedTwicel16d = law09_DeedTwicel16s (fun x0 x1 x2 x3 x4 x5 x6 x7 x8 x9 x10 x11 x12 x13 x14 x15 x16 x17 x18 x19 x20 x21 x22 x23 x24 => lrun law09_DeedTwicec 1 [1, 2, 5, 6] [1, 2, 5, 6] (loopOf Try.f8 16) f ([V.s (S.sl 0 x0 x1 false), V.s (S.ptr 1 0 none 0), V.s (S.ptr 2 0 none 0), V.s (S.ptr 3 0 none 0)]) ([Obj.sli 37 true (Seg.rows [.i .i64, .i .i64, .i .i64, .b] x2 x3), Obj.cells 34 [Seg.arr IntKind.i8 81 x4, Seg.arr IntKind.i8 16 x5, Seg.one [S.i IntKind.i8 x6]], Obj.cells 63 [Seg.one [S.ptr 4 0 none 0, S.i IntKind.u64 x7, S.sl 5 0 x8 true]], Obj.cells 63 [Seg.one [S.ptr 6 0 none 0, S.i IntKind.u64 x9, S.sl 7 0 x10 true]], Obj.cells 69 [Seg.arr IntKind.i8 81 x11, Seg.arr IntKind.i8 16 x12, Seg.one [S.i IntKind.i8 x13], Seg.rows [.i .u64, .i .u64] 32 x14, Seg.rows [.i .u64, .i .u64] 2 x15], Obj.sli 89 false (Seg.rows [.i .i64, .i .i64, .i .i64, .b, .i .i8, .i .i8] x16 x17), Obj.cells 69 [Seg.arr IntKind.i8 81 x18, Seg.arr IntKind.i8 16 x19, Seg.one [S.i IntKind.i8 x20], Seg.rows [.i .u64, .i .u64] 32 x21, Seg.rows [.i .u64, .i .u64] 2 x22], Obj.sli 89 false (Seg.rows [.i .i64, .i .i64, .i .i64, .b, .i .i8, .i .i8] x23 x24)]) law09_DeedTwicel16d) x0 x1 x2 x3 x4 x5 x6 x7 x8 x9 x10 x11 x12 x13 x14 x15 x16 x17 x18 x19 x20 x21 x22 x23 x24 := by kernel_rfl

theorem law09_DeedTwicel16_eq (f : Nat) : ∀ (x0 : Nat) (x1 : Nat) (x2 : Nat) (x3 : List (List Int)) (x4 : List Int) (x5 : List Int) (x6 : Int) (x7 : Int) (x8 : Nat) (x9 : Int) (x10 : Nat) (x11 : List Int) (x12 : List Int) (x13 : Int) (x14 : List (List Int)) (x15 : List (List Int)) (x16 : Nat) (x17 : List (List Int)) (x18 : List Int) (x19 : List Int) (x20 : Int) (x21 : List (List Int)) (x22 : List (List Int)) (x23 : Nat) (x24 : List (List Int)), lrun law09_DeedTwicec 1 [1, 2, 5, 6] [1, 2, 5, 6] (loopOf Try.f8 16) f ([V.s (S.sl 0 x0 x1 false), V.s (S.ptr 1 0 none 0), V.s (S.ptr 2 0 none 0), V.s (S.ptr 3 0 none 0)]) ([Obj.sli 37 true (Seg.rows [.i .i64, .i .i64, .i .i64, .b] x2 x3), Obj.cells 34 [Seg.arr IntKind.i8 81 x4, Seg.arr IntKind.i8 16 x5, Seg.one [S.i IntKind.i8 x6]], Obj.cells 63 [Seg.one [S.ptr 4 0 none 0, S.i IntKind.u64 x7, S.sl 5 0 x8 true]], Obj.cells 63 [Seg.one [S.ptr 6 0 none 0, S.i IntKind.u64 x9, S.sl 7 0 x10 true]], Obj.cells 69 [Seg.arr IntKind.i8 81 x11, Seg.arr IntKind.i8 16 x12, Seg.one [S.i IntKind.i8 x13], Seg.rows [.i .u64, .i .u64] 32 x14, Seg.rows [.i .u64, .i .u64] 2 x15], Obj.sli 89 false (Seg.rows [.i .i64, .i .i64, .i .i64, .b, .i .i8, .i .i8] x16 x17), Obj.cells 69 [Seg.arr IntKind.i8 81 x18, Seg.arr IntKind.i8 16 x19, Seg.one [S.i IntKind.i8 x20], Seg.rows [.i .u64, .i .u64] 32 x21, Seg.rows [.i .u64, .i .u64] 2 x22], Obj.sli 89 false (Seg.rows [.i .i64, .i .i64, .i .i64, .b, .i .i8, .i .i8] x23 x24)]) law09_DeedTwicel16d = law09_DeedTwicel16 f x0 x1 x2 x3 x4 x5 x6 x7 x8 x9 x10 x11 x12 x13 x14 x15 x16 x17 x18 x19 x20 x21 x22 x23 x24 := by
  induction f with
  | zero => intros; rfl
  | succ f ih =>
    intro x0 x1 x2 x3 x4 x5 x6 x7 x8 x9 x10 x11 x12 x13 x14 x15 x16 x17 x18 x19 x20 x21 x22 x23 x24
    rw [law09_DeedTwicel16_step]
    have e : (fun x0 x1 x2 x3 x4 x5 x6 x7 x8 x9 x10 x11 x12 x13 x14 x15 x16 x17 x18 x19 x20 x21 x22 x23 x24 => lrun law09_DeedTwicec 1 [1, 2, 5, 6] [1, 2, 5, 6] (loopOf Try.f8 16) f ([V.s (S.sl 0 x0 x1 false), V.s (S.ptr 1 0 none 0), V.s (S.ptr 2 0 none 0), V.s (S.ptr 3 0 none 0)]) ([Obj.sli 37 true (Seg.rows [.i .i64, .i .i64, .i .i64, .b] x2 x3), Obj.cells 34 [Seg.arr IntKind.i8 81 x4, Seg.arr IntKind.i8 16 x5, Seg.one [S.i IntKind.i8 x6]], Obj.cells 63 [Seg.one [S.ptr 4 0 none 0, S.i IntKind.u64 x7, S.sl 5 0 x8 true]], Obj.cells 63 [Seg.one [S.ptr 6 0 none 0, S.i IntKind.u64 x9, S.sl 7 0 x10 true]], Obj.cells 69 [Seg.arr IntKind.i8 81 x11, Seg.arr IntKind.i8 16 x12, Seg.one [S.i IntKind.i8 x13], Seg.rows [.i .u64, .i .u64] 32 x14, Seg.rows [.i .u64, .i .u64] 2 x15], Obj.sli 89 false (Seg.rows [.i .i64, .i .i64, .i .i64, .b, .i .i8, .i .i8] x16 x17), Obj.cells 69 [Seg.arr IntKind.i8 81 x18, Seg.arr IntKind.i8 16 x19, Seg.one [S.i IntKind.i8 x20], Seg.rows [.i .u64, .i .u64] 32 x21, Seg.rows [.i .u64, .i .u64] 2 x22], Obj.sli 89 false (Seg.rows [.i .i64, .i .i64, .i .i64, .b, .i .i8, .i .i8] x23 x24)]) law09_DeedTwicel16d) = law09_DeedTwicel16 f := by
      funext x0 x1 x2 x3 x4 x5 x6 x7 x8 x9 x10 x11 x12 x13 x14 x15 x16 x17 x18 x19 x20 x21 x22 x23 x24
      exact ih x0 x1 x2 x3 x4 x5 x6 x7 x8 x9 x10 x11 x12 x13 x14 x15 x16 x17 x18 x19 x20 x21 x22 x23 x24
    rw [e]
    rfl

theorem law09_DeedTwices8 : LoopSound Try.prog law09_DeedTwicec 1 (loopOf Try.f8 8) :=
  loopSound_by mixed law09_DeedTwicec_ok (AllP.of (l' := []) (by kernel_rfl) trivial) (q := 8) (kin := [1, 2, 5, 6, 26, 27, 28]) (kout := [1, 2, 4, 5, 6]) (by kernel_rfl) (by kernel_rfl) fun vs objs K r h => by
    replace h : law09_DeedTwicep8 vs objs K = some r := h
    unfold law09_DeedTwicep8 at h
    split at h
    · skip
      obtain ⟨t, h1, h2⟩ := ob_ok h
      refine ⟨_, law09_DeedTwicel8d, t, many, (law09_DeedTwicel8_eq many _ _ _ _ _ _ _ _ _ _ _ _ _ _ _ _ _ _ _ _ _ _ _ _ _ _ _ _ _).trans h1, fun e vs' objs' hd => ?_⟩
      unfold law09_DeedTwicel8d at hd
      split at hd
      · skip
        cases hd
        exact h2
      · skip
        cases hd
        exact h2
      · cases hd
    · cases h

theorem law09_DeedTwices16 : LoopSound Try.prog law09_DeedTwicec 1 (loopOf Try.f8 16) :=
  loopSound_by mixed law09_DeedTwicec_ok (AllP.of (l' := []) (by kernel_rfl) trivial) (q := 16) (kin := [1, 2, 5, 6]) (kout := [1, 2, 5, 6]) (by kernel_rfl) (by kernel_rfl) fun vs objs K r h => by
    replace h : law09_DeedTwicep16 vs objs K = some r := h
    unfold law09_DeedTwicep16 at h
    split at h
    · skip
      obtain ⟨t, h1, h2⟩ := ob_ok h
      refine ⟨_, law09_DeedTwicel16d, t, many, (law09_DeedTwicel16_eq many _ _ _ _ _ _ _ _ _ _ _ _ _ _ _ _ _ _ _ _ _ _ _ _ _).trans h1, fun e vs' objs' hd => ?_⟩
      unfold law09_DeedTwicel16d at hd
      split at hd
      · skip
        cases hd
        exact h2
      · cases hd
    · cases h

def law09_DeedTwiced : V → List Obj → Option (Bool) := fun v objs => match v, objs with
  | V.s (S.b y0), [] => some (y0)
  | _, _ => none

theorem law09_DeedTwice_eq (x0 : List Int) (x1 : List Int) (x2 : Int) (x3 : Nat) (x4 : Nat) (x5 : Nat) (x6 : List (List Int)) : fnE law09_DeedTwicec Try.f8 ([V.agg [Seg.arr IntKind.i8 81 x0, Seg.arr IntKind.i8 16 x1, Seg.one [S.i IntKind.i8 x2]], V.s (S.sl 0 x3 x4 false)]) ([Obj.sli 37 true (Seg.rows [.i .i64, .i .i64, .i .i64, .b] x5 x6)]) (pureD 1 law09_DeedTwiced) = law09_DeedTwice x0 x1 x2 x3 x4 x5 x6 := by kernel_rfl

def law09_DeedTwicea {R : Type} (o : Orc) (vs : List V) (objs : List Obj) (K : Bool → V → List Obj → Option R) : Option R := match vs, List.map Obj.toRO objs with
  | [V.agg [Seg.arr IntKind.i8 81 x0, Seg.arr IntKind.i8 16 x1, Seg.one [S.i IntKind.i8 x2]], V.s (S.sl 0 x3 x4 false)], [Obj.sli 37 true (Seg.rows [.i .i64, .i .i64, .i .i64, .b] x5 x6)] => ob (law09_DeedTwice x0 x1 x2 x3 x4 x5 x6) fun y0 => K true (V.s (S.b y0)) ([])
  | _, _ => o 8 vs objs K

def law09_DeedTwiceo (o : Orc) : Orc := fun f vs objs K => bif Nat.beq f 8 then law09_DeedTwicea o vs objs K else o f vs objs K

theorem law09_DeedTwice_ok {vs : List V} {objs : List Obj} (x0 : List Int) (x1 : List Int) (x2 : Int) (x3 : Nat) (x4 : Nat) (x5 : Nat) (x6 : List (List Int)) {R : Type} {K : Bool → V → List Obj → Option R} {r : R} (hv : vs = [V.agg [Seg.arr IntKind.i8 81 x0, Seg.arr IntKind.i8 16 x1, Seg.one [S.i IntKind.i8 x2]], V.s (S.sl 0 x3 x4 false)]) (ho : List.map Obj.toRO objs = [Obj.sli 37 true (Seg.rows [.i .i64, .i .i64, .i .i64, .b] x5 x6)]) (h : ob (law09_DeedTwice x0 x1 x2 x3 x4 x5 x6) (fun y0 => K true (V.s (S.b y0)) ([])) = some r) :
    ∃ p v objs', K p v objs' = some r ∧ AnyOK Try.prog 8 vs objs p v objs' := by
  subst hv
  obtain ⟨t, h1, h2⟩ := ob_ok h
  refine purOK_by mixed law09_DeedTwicec_ok (m := 1) (fn := Try.f8) (b := (Try.f8).body.getD .skip) (by kernel_rfl) (by kernel_rfl) (by kernel_rfl) ho (by kernel_rfl) (by kernel_rfl) (AllP.of (l' := [loopOf Try.f8 8, loopOf Try.f8 16]) (by kernel_rfl) ⟨law09_DeedTwices8, law09_DeedTwices16, trivial⟩) ((law09_DeedTwice_eq x0 x1 x2 x3 x4 x5 x6).trans h1) fun v objs' hd => ?_
  unfold law09_DeedTwiced at hd
  split at hd
  · skip
    cases hd
    exact h2
  · cases hd

theorem law09_DeedTwiceo_ok (o : Orc) (ho : OSound Try.prog o) : OSound Try.prog (law09_DeedTwiceo o) := by
  intro R f vs objs K r h
  replace h : (bif Nat.beq f 8 then law09_DeedTwicea o vs objs K else o f vs objs K) = some r := h
  cases hf : Nat.beq f 8 with
  | false => rw [hf] at h; exact ho f vs objs K r h
  | true =>
    rw [hf] at h
    have e := Nat.eq_of_beq_eq_true hf
    subst e
    replace h : law09_DeedTwicea o vs objs K = some r := h
    unfold law09_DeedTwicea at h
    split at h
    · skip
      exact law09_DeedTwice_ok _ _ _ _ _ _ _ rfl (by rename_i hq; first | exact hq | assumption) h
    · exact ho _ _ _ _ _ h
end Go.Kk.KkD8
