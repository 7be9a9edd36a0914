/- Printed by a tool of this project (KkGen): the program's functions come to the plain ones. -/
import Derived.Test.YtjlgnglacdhflaaProg
import Derived.Test.YtjlgnglacdhflaaKkB
import Derived.Test.YtjlgnglacdhflaaKkPl
namespace Go.Kk.KkT4
open Go.Proofs Go.Kk.Pl
def tab : Tab := [(1, .sc (.f)),
  (2, .sc (.i .i64)),
  (3, .sc (.i .i64)),
  (4, .sc (.b)),
  (5, .sc (.i .u8)),
  (6, .sc (.i .u8)),
  (7, .st [.one [.i .i64, .i .i64, .b, .i .u8]] [(0, 0, 2), (0, 1, 3), (0, 2, 4), (0, 3, 6)]),
  (8, .st [.one [.i .i64, .i .i64, .b, .i .u8]] [(0, 0, 2), (0, 1, 3), (0, 2, 4), (0, 3, 6)]),
  (9, .sc (.str)),
  (10, .sc (.str)),
  (11, .sc (.str)),
  (12, .sc (.i .u64)),
  (13, .st [.one [.str, .i .u64]] [(0, 0, 9), (0, 1, 12)]),
  (14, .st [.one [.str, .i .u64]] [(0, 0, 9), (0, 1, 12)]),
  (15, .sc (.p)),
  (16, .sc (.p)),
  (17, .sc (.p)),
  (18, .st [.one [.p]] [(0, 0, 17)]),
  (19, .st [.one [.p]] [(0, 0, 17)]),
  (21, .sc (.i .i32)),
  (22, .sc (.sl 34)),
  (23, .sc (.f)),
  (24, .sc (.p)),
  (25, .sc (.i .i64)),
  (27, .sc (.f)),
  (28, .sc (.i .i8)),
  (29, .sc (.i .i8)),
  (30, .ar 81 1 29 (.arr .i8 81)),
  (31, .ar 8 1 28 (.arr .i8 8)),
  (32, .ar 2 8 31 (.arr .i8 16)),
  (33, .st [.arr .i8 81, .arr .i8 16, .one [.i .i8]] [(0, 0, 30), (1, 0, 32), (2, 0, 28)]),
  (34, .st [.arr .i8 81, .arr .i8 16, .one [.i .i8]] [(0, 0, 30), (1, 0, 32), (2, 0, 28)]),
  (35, .sc (.f)),
  (36, .st [.one [.i .i64, .i .i64, .i .i64, .b]] [(0, 0, 3), (0, 1, 3), (0, 2, 3), (0, 3, 4)]),
  (37, .st [.one [.i .i64, .i .i64, .i .i64, .b]] [(0, 0, 3), (0, 1, 3), (0, 2, 3), (0, 3, 4)]),
  (38, .st [.one [.i .i64, .i .i64, .i .i64, .i .i64, .i .i64, .i .i64, .b]] [(0, 0, 3), (0, 1, 3), (0, 2, 3), (0, 3, 37)]),
  (39, .st [.one [.i .i64, .i .i64, .i .i64, .i .i64, .i .i64, .i .i64, .b]] [(0, 0, 3), (0, 1, 3), (0, 2, 3), (0, 3, 37)]),
  (41, .sc (.f)),
  (42, .sc (.f)),
  (43, .sc (.f)),
  (44, .sc (.f)),
  (45, .sc (.sl 48)),
  (46, .sc (.m)),
  (47, .st [.one [.i .i64], .arr .i8 81, .arr .i8 16, .one [.i .i8], .one [.i .i64, .i .i64, .i .i64, .i .i64, .i .i64, .i .i64, .b]] [(0, 0, 3), (1, 0, 34), (4, 0, 39)]),
  (48, .st [.one [.i .i64], .arr .i8 81, .arr .i8 16, .one [.i .i8], .one [.i .i64, .i .i64, .i .i64, .i .i64, .i .i64, .i .i64, .b]] [(0, 0, 3), (1, 0, 34), (4, 0, 39)]),
  (49, .sc (.f)),
  (50, .sc (.sl 37)),
  (51, .sc (.f)),
  (52, .sc (.f)),
  (53, .sc (.p)),
  (54, .sc (.f)),
  (55, .sc (.f)),
  (56, .sc (.i .u64)),
  (57, .sc (.i .u64)),
  (58, .sc (.f)),
  (59, .sc (.f)),
  (60, .sc (.p)),
  (61, .sc (.sl 89)),
  (62, .st [.one [.p, .i .u64, .sl 89]] [(0, 0, 60), (0, 1, 57), (0, 2, 61)]),
  (63, .st [.one [.p, .i .u64, .sl 89]] [(0, 0, 60), (0, 1, 57), (0, 2, 61)]),
  (64, .st [.one [.i .u64, .i .u64]] [(0, 0, 56), (0, 1, 56)]),
  (65, .st [.one [.i .u64, .i .u64]] [(0, 0, 56), (0, 1, 56)]),
  (66, .ar 32 1 65 (.rows [.i .u64, .i .u64] 32)),
  (67, .ar 2 1 65 (.rows [.i .u64, .i .u64] 2)),
  (68, .st [.arr .i8 81, .arr .i8 16, .one [.i .i8], .rows [.i .u64, .i .u64] 32, .rows [.i .u64, .i .u64] 2] [(0, 0, 34), (3, 0, 66), (4, 0, 67)]),
  (69, .st [.arr .i8 81, .arr .i8 16, .one [.i .i8], .rows [.i .u64, .i .u64] 32, .rows [.i .u64, .i .u64] 2] [(0, 0, 34), (3, 0, 66), (4, 0, 67)]),
  (70, .sc (.f)),
  (71, .sc (.f)),
  (73, .sc (.f)),
  (74, .sc (.f)),
  (75, .sc (.f)),
  (76, .sc (.f)),
  (77, .sc (.sl 83)),
  (78, .st [.one [.sl 83, .i .i64]] [(0, 0, 77), (0, 1, 3)]),
  (79, .st [.one [.sl 83, .i .i64]] [(0, 0, 77), (0, 1, 3)]),
  (80, .sc (.p)),
  (81, .sc (.f)),
  (82, .st [.one [.b], .arr .i8 81, .arr .i8 16, .one [.i .i8], .one [.i .i64, .i .i64, .i .i64, .i .i64, .i .i64, .i .i64, .b]] [(0, 0, 4), (1, 0, 34), (4, 0, 39)]),
  (83, .st [.one [.b], .arr .i8 81, .arr .i8 16, .one [.i .i8], .one [.i .i64, .i .i64, .i .i64, .i .i64, .i .i64, .i .i64, .b]] [(0, 0, 4), (1, 0, 34), (4, 0, 39)]),
  (84, .sc (.f)),
  (85, .sc (.f)),
  (86, .sc (.f)),
  (87, .sc (.f)),
  (88, .st [.one [.i .i64, .i .i64, .i .i64, .b, .i .i8, .i .i8]] [(0, 0, 37), (0, 4, 29), (0, 5, 29)]),
  (89, .st [.one [.i .i64, .i .i64, .i .i64, .b, .i .i8, .i .i8]] [(0, 0, 37), (0, 4, 29), (0, 5, 29)]),
  (90, .sc (.f)),
  (91, .sc (.f)),
  (92, .sc (.f)),
  (93, .sc (.f)),
  (94, .sc (.f)),
  (95, .sc (.f)),
  (96, .sc (.f)),
  (97, .sc (.f)),
  (98, .ar 9 1 3 (.arr .i64 9)),
  (99, .sc (.sl 3)),
  (100, .sc (.f)),
  (101, .sc (.f)),
  (102, .sc (.i .u64)),
  (103, .sc (.f)),
  (104, .sc (.f)),
  (105, .st [.one [.p, .p, .p, .str]] [(0, 0, 17), (0, 1, 17), (0, 2, 17), (0, 3, 9)]),
  (106, .st [.one [.p, .p, .p, .str]] [(0, 0, 17), (0, 1, 17), (0, 2, 17), (0, 3, 9)]),
  (110, .sc (.i .u32)),
  (111, .sc (.i .u8)),
  (112, .sc (.i .u8)),
  (113, .sc (.f)),
  (114, .sc (.p)),
  (115, .sc (.i .i32)),
  (116, .sc (.i .i32)),
  (117, .st [.one [.i .u64, .i .u64, .i .u32, .i .u8, .i .u8, .i .u8, .i .u8, .f, .p, .i .i32, .i .i32]] [(0, 0, 12), (0, 1, 12), (0, 2, 110), (0, 3, 111), (0, 4, 5), (0, 5, 5), (0, 6, 112), (0, 7, 113), (0, 8, 114), (0, 9, 115), (0, 10, 116)]),
  (118, .st [.one [.i .u64, .i .u64, .i .u32, .i .u8, .i .u8, .i .u8, .i .u8, .f, .p, .i .i32, .i .i32]] [(0, 0, 12), (0, 1, 12), (0, 2, 110), (0, 3, 111), (0, 4, 5), (0, 5, 5), (0, 6, 112), (0, 7, 113), (0, 8, 114), (0, 9, 115), (0, 10, 116)])]

def eqs : List TypeId := [34, 32, 39, 37]
def bytes : List (TypeId × Nat) := [(34, 98), (48, 168), (37, 32), (89, 40), (83, 160), (3, 8)]
theorem mixed : Try.prog.follows .mixedOrders = true := by kernel_rfl
theorem tab_ok : ∀ t L, Tab.get tab t = some L → LayOK Try.prog tab t L := tabB_ok (P := Try.prog) (tab := tab) (l := tab) (by kernel_rfl)
theorem eqs_ok : ∀ t L, memT t eqs = true → Tab.get tab t = some L → ∃ f ck, f ≤ 10000 ∧ tyCK Try.prog f t = some ck ∧ cksOf L.segTs = some ck ∧ Try.prog.eqGuardType Try.prog.depth t = false := eqsB_ok (P := Try.prog) (tab := tab) (l := eqs) (by kernel_rfl)
theorem bytes_ok : ∀ t n, byN t bytes = some n → ∃ i, Try.prog.info? t = some i ∧ i.bytes = n := bytesB_ok (P := Try.prog) (l := bytes) (by kernel_rfl)

def kL0 : List CK := List.replicate 1 (.b) ++ List.replicate 98 (.i .i8) ++ List.replicate 6 (.i .i64) ++ List.replicate 1 (.b)
def kL1 : List CK := List.replicate 98 (.i .i8)

def table_Newlp : {R : Type} → Nat → List V → List Obj → (Ex → List V → List Obj → Option R) → Option R := fun _ _ _ _ => none

def table_Newoo : Orc := oNil

theorem table_Newoo_ok : OSound Try.prog table_Newoo := oNil_ok

def table_Newc : Ctx := { tab := tab, eqs := eqs, bytes := bytes, nt := 14, orc := table_Newoo, keeps := [], lp := table_Newlp }

theorem table_Newc_ok : CtxOK Try.prog table_Newc := ⟨tab_ok, table_Newoo_ok, eqs_ok, bytes_ok⟩

def table_Newd : V → List Obj → Option ((Int) ⊕ (Int × Nat × Int × Nat × List (List Int))) := fun v objs => match v, objs with
  | V.tup [W.s S.nilp, W.s (S.i IntKind.i64 y0)], [] => some (Sum.inl (y0))
  | V.tup [W.s (S.ptr 0 0 none 0), W.s (S.i IntKind.i64 y0)], [Obj.cells 79 [Seg.one [S.sl 1 0 y1 true, S.i IntKind.i64 y2]], Obj.sli 83 false (Seg.rows kk0 y3 y4)] => bif decide (kk0 = kL0) then some (Sum.inr (y0, y1, y2, y3, y4)) else none
  | _, _ => none

theorem table_New_eq (x0 : Int) : fnE table_Newc Try.f12 ([V.s (S.i IntKind.i64 x0)]) ([]) table_Newd = table_New x0 := by kernel_rfl

def table_Newa {R : Type} (o : Orc) (vs : List V) (objs : List Obj) (K : Bool → V → List Obj → Option R) : Option R := match vs, objs with
  | [V.s (S.i IntKind.i64 x0)], [] => ob (table_New x0) fun t0 => sw t0 (fun y0 => K false (V.tup [W.s S.nilp, W.s (S.i IntKind.i64 y0)]) ([])) (fun z => K false (V.tup [W.s (S.ptr 0 0 none 0), W.s (S.i IntKind.i64 (z.1))]) ([Obj.cells 79 [Seg.one [S.sl 1 0 (z.2.1) true, S.i IntKind.i64 (z.2.2.1)]], Obj.sli 83 false (Seg.rows kL0 (z.2.2.2.1) (z.2.2.2.2))]))
  | _, _ => o 12 vs objs K

def table_Newo (o : Orc) : Orc := fun f vs objs K => bif Nat.beq f 12 then table_Newa o vs objs K else o f vs objs K

theorem table_New_ok {vs : List V} {objs : List Obj} (x0 : Int) {R : Type} {K : Bool → V → List Obj → Option R} {r : R} (hv : vs = [V.s (S.i IntKind.i64 x0)]) (ho : objs = []) (h : ob (table_New x0) (fun t0 => sw t0 (fun y0 => K false (V.tup [W.s S.nilp, W.s (S.i IntKind.i64 y0)]) ([])) (fun z => K false (V.tup [W.s (S.ptr 0 0 none 0), W.s (S.i IntKind.i64 (z.1))]) ([Obj.cells 79 [Seg.one [S.sl 1 0 (z.2.1) true, S.i IntKind.i64 (z.2.2.1)]], Obj.sli 83 false (Seg.rows kL0 (z.2.2.2.1) (z.2.2.2.2))]))) = some r) :
    ∃ p v objs', K p v objs' = some r ∧ AnyOK Try.prog 12 vs objs p v objs' := by
  subst hv
  subst ho
  obtain ⟨t, h1, h2⟩ := ob_ok h
  refine anyOK_by mixed table_Newc_ok (objs := []) (fn := Try.f12) (b := (Try.f12).body.getD .skip) (by kernel_rfl) (by kernel_rfl) (by kernel_rfl) (AllP.of (l' := []) (by kernel_rfl) trivial) ((table_New_eq x0).trans h1) fun v objs' hd => ?_
  unfold table_Newd at hd
  split at hd
  · skip
    cases hd
    exact h2
  · skip
    have g := (bif_some hd).1
    replace hd := (bif_some hd).2
    obtain rfl := of_decide_eq_true g
    cases hd
    exact h2
  · cases hd

theorem table_Newo_ok (o : Orc) (ho : OSound Try.prog o) : OSound Try.prog (table_Newo o) := by
  intro R f vs objs K r h
  replace h : (bif Nat.beq f 12 then table_Newa o vs objs K else o f vs objs K) = some r := h
  cases hf : Nat.beq f 12 with
  | false => rw [hf] at h; exact ho f vs objs K r h
  | true =>
    rw [hf] at h
    have e := Nat.eq_of_beq_eq_true hf
    subst e
    replace h : table_Newa o vs objs K = some r := h
    unfold table_Newa at h
    split at h
    · skip
      exact table_New_ok _ rfl rfl h
    · exact ho _ _ _ _ _ h

def set_Squarelp : {R : Type} → Nat → List V → List Obj → (Ex → List V → List Obj → Option R) → Option R := fun _ _ _ _ => none

def set_Squareoo : Orc := oNil

theorem set_Squareoo_ok : OSound Try.prog set_Squareoo := oNil_ok

def set_Squarec : Ctx := { tab := tab, eqs := eqs, bytes := bytes, nt := 23, orc := set_Squareoo, keeps := [], lp := set_Squarelp }

theorem set_Squarec_ok : CtxOK Try.prog set_Squarec := ⟨tab_ok, set_Squareoo_ok, eqs_ok, bytes_ok⟩

def set_Squared : V → List Obj → Option (Int) := fun v objs => match v, objs with
  | V.s (S.i IntKind.i64 y0), [] => some (y0)
  | _, _ => none

theorem set_Square_eq (x0 : Int) (x1 : Int) : fnE set_Squarec Try.f54 ([V.s (S.i IntKind.i64 x0), V.s (S.i IntKind.i64 x1)]) ([]) set_Squared = set_Square x0 x1 := by kernel_rfl

def set_Squarea {R : Type} (o : Orc) (vs : List V) (objs : List Obj) (K : Bool → V → List Obj → Option R) : Option R := match vs, objs with
  | [V.s (S.i IntKind.i64 x0), V.s (S.i IntKind.i64 x1)], [] => ob (set_Square x0 x1) fun y0 => K false (V.s (S.i IntKind.i64 y0)) ([])
  | _, _ => o 54 vs objs K

def set_Squareo (o : Orc) : Orc := fun f vs objs K => bif Nat.beq f 54 then set_Squarea o vs objs K else o f vs objs K

theorem set_Square_ok {vs : List V} {objs : List Obj} (x0 : Int) (x1 : Int) {R : Type} {K : Bool → V → List Obj → Option R} {r : R} (hv : vs = [V.s (S.i IntKind.i64 x0), V.s (S.i IntKind.i64 x1)]) (ho : objs = []) (h : ob (set_Square x0 x1) (fun y0 => K false (V.s (S.i IntKind.i64 y0)) ([])) = some r) :
    ∃ p v objs', K p v objs' = some r ∧ AnyOK Try.prog 54 vs objs p v objs' := by
  subst hv
  subst ho
  obtain ⟨t, h1, h2⟩ := ob_ok h
  refine anyOK_by mixed set_Squarec_ok (objs := []) (fn := Try.f54) (b := (Try.f54).body.getD .skip) (by kernel_rfl) (by kernel_rfl) (by kernel_rfl) (AllP.of (l' := []) (by kernel_rfl) trivial) ((set_Square_eq x0 x1).trans h1) fun v objs' hd => ?_
  unfold set_Squared at hd
  split at hd
  · skip
    cases hd
    exact h2
  · cases hd

theorem set_Squareo_ok (o : Orc) (ho : OSound Try.prog o) : OSound Try.prog (set_Squareo o) := by
  intro R f vs objs K r h
  replace h : (bif Nat.beq f 54 then set_Squarea o vs objs K else o f vs objs K) = some r := h
  cases hf : Nat.beq f 54 with
  | false => rw [hf] at h; exact ho f vs objs K r h
  | true =>
    rw [hf] at h
    have e := Nat.eq_of_beq_eq_true hf
    subst e
    replace h : set_Squarea o vs objs K = some r := h
    unfold set_Squarea at h
    split at h
    · skip
      exact set_Square_ok _ _ rfl rfl h
    · exact ho _ _ _ _ _ h

def board_Start_1lp : {R : Type} → Nat → List V → List Obj → (Ex → List V → List Obj → Option R) → Option R := fun _ _ _ _ => none

def board_Start_1oo : Orc := (set_Squareo oNil)

theorem board_Start_1oo_ok : OSound Try.prog board_Start_1oo := (set_Squareo_ok _ oNil_ok)

def board_Start_1c : Ctx := { tab := tab, eqs := eqs, bytes := bytes, nt := 14, orc := board_Start_1oo, keeps := [], lp := board_Start_1lp }

theorem board_Start_1c_ok : CtxOK Try.prog board_Start_1c := ⟨tab_ok, board_Start_1oo_ok, eqs_ok, bytes_ok⟩

def board_Start_1d : V → List Obj → Option (Int) := fun v objs => match v, objs with
  | V.s (S.i IntKind.i64 y0), [] => some (y0)
  | _, _ => none

theorem board_Start_1_eq (x0 : Int) (x1 : Int) (x2 : Int) : fnE board_Start_1c Try.f53 ([V.s (S.i IntKind.i64 x0), V.s (S.ptr 0 0 none 0), V.s (S.ptr 1 0 none 0)]) ([Obj.rcells 3 [Seg.one [S.i IntKind.i64 x1]], Obj.rcells 3 [Seg.one [S.i IntKind.i64 x2]]]) (pureD 2 board_Start_1d) = board_Start_1 x0 x1 x2 := by kernel_rfl

def board_Start_1a {R : Type} (o : Orc) (vs : List V) (objs : List Obj) (K : Bool → V → List Obj → Option R) : Option R := match vs, List.map Obj.toRO objs with
  | [V.s (S.i IntKind.i64 x0), V.s (S.ptr 0 0 none 0), V.s (S.ptr 1 0 none 0)], [Obj.rcells 3 [Seg.one [S.i IntKind.i64 x1]], Obj.rcells 3 [Seg.one [S.i IntKind.i64 x2]]] => ob (board_Start_1 x0 x1 x2) fun y0 => K true (V.s (S.i IntKind.i64 y0)) ([])
  | _, _ => o 53 vs objs K

def board_Start_1o (o : Orc) : Orc := fun f vs objs K => bif Nat.beq f 53 then board_Start_1a o vs objs K else o f vs objs K

theorem board_Start_1_ok {vs : List V} {objs : List Obj} (x0 : Int) (x1 : Int) (x2 : Int) {R : Type} {K : Bool → V → List Obj → Option R} {r : R} (hv : vs = [V.s (S.i IntKind.i64 x0), V.s (S.ptr 0 0 none 0), V.s (S.ptr 1 0 none 0)]) (ho : List.map Obj.toRO objs = [Obj.rcells 3 [Seg.one [S.i IntKind.i64 x1]], Obj.rcells 3 [Seg.one [S.i IntKind.i64 x2]]]) (h : ob (board_Start_1 x0 x1 x2) (fun y0 => K true (V.s (S.i IntKind.i64 y0)) ([])) = some r) :
    ∃ p v objs', K p v objs' = some r ∧ AnyOK Try.prog 53 vs objs p v objs' := by
  subst hv
  obtain ⟨t, h1, h2⟩ := ob_ok h
  refine purOK_by mixed board_Start_1c_ok (m := 2) (fn := Try.f53) (b := (Try.f53).body.getD .skip) (by kernel_rfl) (by kernel_rfl) (by kernel_rfl) ho (by kernel_rfl) (by kernel_rfl) (AllP.of (l' := []) (by kernel_rfl) trivial) ((board_Start_1_eq x0 x1 x2).trans h1) fun v objs' hd => ?_
  unfold board_Start_1d at hd
  split at hd
  · skip
    cases hd
    exact h2
  · cases hd

theorem board_Start_1o_ok (o : Orc) (ho : OSound Try.prog o) : OSound Try.prog (board_Start_1o o) := by
  intro R f vs objs K r h
  replace h : (bif Nat.beq f 53 then board_Start_1a o vs objs K else o f vs objs K) = some r := h
  cases hf : Nat.beq f 53 with
  | false => rw [hf] at h; exact ho f vs objs K r h
  | true =>
    rw [hf] at h
    have e := Nat.eq_of_beq_eq_true hf
    subst e
    replace h : board_Start_1a o vs objs K = some r := h
    unfold board_Start_1a at h
    split at h
    · skip
      exact board_Start_1_ok _ _ _ rfl (by assumption) h
    · exact ho _ _ _ _ _ h

def piece_Oflp : {R : Type} → Nat → List V → List Obj → (Ex → List V → List Obj → Option R) → Option R := fun _ _ _ _ => none

def piece_Ofoo : Orc := oNil

theorem piece_Ofoo_ok : OSound Try.prog piece_Ofoo := oNil_ok

def piece_Ofc : Ctx := { tab := tab, eqs := eqs, bytes := bytes, nt := 28, orc := piece_Ofoo, keeps := [], lp := piece_Oflp }

theorem piece_Ofc_ok : CtxOK Try.prog piece_Ofc := ⟨tab_ok, piece_Ofoo_ok, eqs_ok, bytes_ok⟩

def piece_Ofd : V → List Obj → Option (Int) := fun v objs => match v, objs with
  | V.s (S.i IntKind.i8 y0), [] => some (y0)
  | _, _ => none

theorem piece_Of_eq (x0 : Int) (x1 : Int) : fnE piece_Ofc Try.f38 ([V.s (S.i IntKind.i64 x0), V.s (S.i IntKind.i64 x1)]) ([]) piece_Ofd = piece_Of x0 x1 := by kernel_rfl

def piece_Ofa {R : Type} (o : Orc) (vs : List V) (objs : List Obj) (K : Bool → V → List Obj → Option R) : Option R := match vs, objs with
  | [V.s (S.i IntKind.i64 x0), V.s (S.i IntKind.i64 x1)], [] => ob (piece_Of x0 x1) fun y0 => K false (V.s (S.i IntKind.i8 y0)) ([])
  | _, _ => o 38 vs objs K

def piece_Ofo (o : Orc) : Orc := fun f vs objs K => bif Nat.beq f 38 then piece_Ofa o vs objs K else o f vs objs K

theorem piece_Of_ok {vs : List V} {objs : List Obj} (x0 : Int) (x1 : Int) {R : Type} {K : Bool → V → List Obj → Option R} {r : R} (hv : vs = [V.s (S.i IntKind.i64 x0), V.s (S.i IntKind.i64 x1)]) (ho : objs = []) (h : ob (piece_Of x0 x1) (fun y0 => K false (V.s (S.i IntKind.i8 y0)) ([])) = some r) :
    ∃ p v objs', K p v objs' = some r ∧ AnyOK Try.prog 38 vs objs p v objs' := by
  subst hv
  subst ho
  obtain ⟨t, h1, h2⟩ := ob_ok h
  refine anyOK_by mixed piece_Ofc_ok (objs := []) (fn := Try.f38) (b := (Try.f38).body.getD .skip) (by kernel_rfl) (by kernel_rfl) (by kernel_rfl) (AllP.of (l' := []) (by kernel_rfl) trivial) ((piece_Of_eq x0 x1).trans h1) fun v objs' hd => ?_
  unfold piece_Ofd at hd
  split at hd
  · skip
    cases hd
    exact h2
  · cases hd

theorem piece_Ofo_ok (o : Orc) (ho : OSound Try.prog o) : OSound Try.prog (piece_Ofo o) := by
  intro R f vs objs K r h
  replace h : (bif Nat.beq f 38 then piece_Ofa o vs objs K else o f vs objs K) = some r := h
  cases hf : Nat.beq f 38 with
  | false => rw [hf] at h; exact ho f vs objs K r h
  | true =>
    rw [hf] at h
    have e := Nat.eq_of_beq_eq_true hf
    subst e
    replace h : piece_Ofa o vs objs K = some r := h
    unfold piece_Ofa at h
    split at h
    · skip
      exact piece_Of_ok _ _ rfl rfl h
    · exact ho _ _ _ _ _ h

def board_Startl7d : Ex → List V → List Obj → Option (Int × List Int × List Int × Int × List Int × List Int × Int × List Int) := fun e vs objs => match e, vs, objs with
  | Ex.exit 2, [V.s (S.ptr 0 0 none 0), V.s (S.ptr 1 0 none 0), V.s (S.ptr 2 0 none 0), V.s (S.i IntKind.i64 y0)], [Obj.cells 34 [Seg.arr IntKind.i8 81 y1, Seg.arr IntKind.i8 16 y2, Seg.one [S.i IntKind.i8 y3]], Obj.cells 34 [Seg.arr IntKind.i8 81 y4, Seg.arr IntKind.i8 16 y5, Seg.one [S.i IntKind.i8 y6]], Obj.cells 98 [Seg.arr IntKind.i64 9 y7]] => some (y0, y1, y2, y3, y4, y5, y6, y7)
  | _, _, _ => none

def board_Startl4d : Ex → List V → List Obj → Option (List Int × List Int × Int × List Int × List Int × Int) := fun e vs objs => match e, vs, objs with
  | Ex.exit 0, [V.s (S.ptr 0 0 none 0), V.s (S.ptr 1 0 none 0)], [Obj.cells 34 [Seg.arr IntKind.i8 81 y0, Seg.arr IntKind.i8 16 y1, Seg.one [S.i IntKind.i8 y2]], Obj.cells 34 [Seg.arr IntKind.i8 81 y3, Seg.arr IntKind.i8 16 y4, Seg.one [S.i IntKind.i8 y5]]] => some (y0, y1, y2, y3, y4, y5)
  | _, _, _ => none

def board_Startp7 {R : Type} (vs : List V) (objs : List Obj) (K : Ex → List V → List Obj → Option R) : Option R := match vs, objs with
  | [V.s (S.ptr 0 0 none 0), V.s (S.ptr 1 0 none 0), V.s (S.ptr 2 0 none 0), V.s (S.ptr 3 0 none 0), V.s (S.i IntKind.i64 x0), V.s (S.i IntKind.i64 x1)], [Obj.cells 34 [Seg.arr IntKind.i8 81 x2, Seg.arr IntKind.i8 16 x3, Seg.one [S.i IntKind.i8 x4]], Obj.cells 34 [Seg.arr IntKind.i8 81 x5, Seg.arr IntKind.i8 16 x6, Seg.one [S.i IntKind.i8 x7]], Obj.cells 98 [Seg.arr IntKind.i64 9 x8], Obj.cells 3 [Seg.one [S.i IntKind.i64 x9]]] => ob (board_Startl7 many x0 x1 x2 x3 x4 x5 x6 x7 x8 x9) fun z => K (Ex.exit 2) ([V.s (S.ptr 0 0 none 0), V.s (S.ptr 1 0 none 0), V.s (S.ptr 2 0 none 0), V.s (S.i IntKind.i64 (z.1))]) ([Obj.cells 34 [Seg.arr IntKind.i8 81 (z.2.1), Seg.arr IntKind.i8 16 (z.2.2.1), Seg.one [S.i IntKind.i8 (z.2.2.2.1)]], Obj.cells 34 [Seg.arr IntKind.i8 81 (z.2.2.2.2.1), Seg.arr IntKind.i8 16 (z.2.2.2.2.2.1), Seg.one [S.i IntKind.i8 (z.2.2.2.2.2.2.1)]], Obj.cells 98 [Seg.arr IntKind.i64 9 (z.2.2.2.2.2.2.2)]])
  | _, _ => none

def board_Startp4 {R : Type} (vs : List V) (objs : List Obj) (K : Ex → List V → List Obj → Option R) : Option R := match vs, objs with
  | [V.s (S.ptr 0 0 none 0), V.s (S.ptr 1 0 none 0), V.s (S.ptr 2 0 none 0), V.s (S.i IntKind.i64 x0)], [Obj.cells 34 [Seg.arr IntKind.i8 81 x1, Seg.arr IntKind.i8 16 x2, Seg.one [S.i IntKind.i8 x3]], Obj.cells 34 [Seg.arr IntKind.i8 81 x4, Seg.arr IntKind.i8 16 x5, Seg.one [S.i IntKind.i8 x6]], Obj.cells 98 [Seg.arr IntKind.i64 9 x7]] => ob (board_Startl4 many x0 x1 x2 x3 x4 x5 x6 x7) fun z => K (Ex.exit 0) ([V.s (S.ptr 0 0 none 0), V.s (S.ptr 1 0 none 0)]) ([Obj.cells 34 [Seg.arr IntKind.i8 81 (z.1), Seg.arr IntKind.i8 16 (z.2.1), Seg.one [S.i IntKind.i8 (z.2.2.1)]], Obj.cells 34 [Seg.arr IntKind.i8 81 (z.2.2.2.1), Seg.arr IntKind.i8 16 (z.2.2.2.2.1), Seg.one [S.i IntKind.i8 (z.2.2.2.2.2)]]])
  | _, _ => none

def board_Startlp : {R : Type} → Nat → List V → List Obj → (Ex → List V → List Obj → Option R) → Option R := fun q vs objs K => bif Nat.beq q 7 then board_Startp7 vs objs K else bif Nat.beq q 4 then board_Startp4 vs objs K else none

def board_Startoo : Orc := (set_Squareo (piece_Ofo (board_Start_1o oNil)))

theorem board_Startoo_ok : OSound Try.prog board_Startoo := (set_Squareo_ok _ (piece_Ofo_ok _ (board_Start_1o_ok _ oNil_ok)))

def board_Startc : Ctx := { tab := tab, eqs := eqs, bytes := bytes, nt := 44, orc := board_Startoo, keeps := [(4, [0, 1, 2, 7], [0, 1]), (7, [0, 1, 2, 3, 7, 10], [0, 1, 2, 7])], lp := board_Startlp }

theorem board_Startc_ok : CtxOK Try.prog board_Startc := ⟨tab_ok, board_Startoo_ok, eqs_ok, bytes_ok⟩

theorem board_Startl7_step (f : Nat) (x0 : Int) (x1 : Int) (x2 : List Int) (x3 : List Int) (x4 : Int) (x5 : List Int) (x6 : List Int) (x7 : Int) (x8 : List Int) (x9 : Int) : lrun board_Startc 0 [0, 1, 2, 3, 7, 10] [0, 1, 2, 7] (loopOf Try.f30 7) (f + 1) ([V.s (S.ptr 0 0 none 0), V.s (S.ptr 1 0 none 0), V.s (S.ptr 2 0 none 0), V.s (S.ptr 3 0 none 0), V.s (S.i IntKind.i64 x0), V.s (S.i IntKind.i64 x1)]) ([Obj.cells 34 [Seg.arr IntKind.i8 81 x2, Seg.arr IntKind.i8 16 x3, Seg.one [S.i IntKind.i8 x4]], Obj.cells 34 [Seg.arr IntKind.i8 81 x5, Seg.arr IntKind.i8 16 x6, Seg.one [S.i IntKind.i8 x7]], Obj.cells 98 [Seg.arr IntKind.i64 9 x8], Obj.cells 3 [Seg.one [S.i IntKind.i64 x9]]]) board_Startl7d = board_Startl7s (fun x0 x1 x2 x3 x4 x5 x6 x7 x8 x9 => lrun board_Startc 0 [0, 1, 2, 3, 7, 10] [0, 1, 2, 7] (loopOf Try.f30 7) f ([V.s (S.ptr 0 0 none 0), V.s (S.ptr 1 0 none 0), V.s (S.ptr 2 0 none 0), V.s (S.ptr 3 0 none 0), V.s (S.i IntKind.i64 x0), V.s (S.i IntKind.i64 x1)]) ([Obj.cells 34 [Seg.arr IntKind.i8 81 x2, Seg.arr IntKind.i8 16 x3, Seg.one [S.i IntKind.i8 x4]], Obj.cells 34 [Seg.arr IntKind.i8 81 x5, Seg.arr IntKind.i8 16 x6, Seg.one [S.i IntKind.i8 x7]], Obj.cells 98 [Seg.arr IntKind.i64 9 x8], Obj.cells 3 [Seg.one [S.i IntKind.i64 x9]]]) board_Startl7d) x0 x1 x2 x3 x4 x5 x6 x7 x8 x9 := by kernel_rfl

theorem board_Startl7_eq (f : Nat) : ∀ (x0 : Int) (x1 : Int) (x2 : List Int) (x3 : List Int) (x4 : Int) (x5 : List Int) (x6 : List Int) (x7 : Int) (x8 : List Int) (x9 : Int), lrun board_Startc 0 [0, 1, 2, 3, 7, 10] [0, 1, 2, 7] (loopOf Try.f30 7) f ([V.s (S.ptr 0 0 none 0), V.s (S.ptr 1 0 none 0), V.s (S.ptr 2 0 none 0), V.s (S.ptr 3 0 none 0), V.s (S.i IntKind.i64 x0), V.s (S.i IntKind.i64 x1)]) ([Obj.cells 34 [Seg.arr IntKind.i8 81 x2, Seg.arr IntKind.i8 16 x3, Seg.one [S.i IntKind.i8 x4]], Obj.cells 34 [Seg.arr IntKind.i8 81 x5, Seg.arr IntKind.i8 16 x6, Seg.one [S.i IntKind.i8 x7]], Obj.cells 98 [Seg.arr IntKind.i64 9 x8], Obj.cells 3 [Seg.one [S.i IntKind.i64 x9]]]) board_Startl7d = board_Startl7 f x0 x1 x2 x3 x4 x5 x6 x7 x8 x9 := by
  induction f with
  | zero => intros; rfl
  | succ f ih =>
    intro x0 x1 x2 x3 x4 x5 x6 x7 x8 x9
    rw [board_Startl7_step]
    have e : (fun x0 x1 x2 x3 x4 x5 x6 x7 x8 x9 => lrun board_Startc 0 [0, 1, 2, 3, 7, 10] [0, 1, 2, 7] (loopOf Try.f30 7) f ([V.s (S.ptr 0 0 none 0), V.s (S.ptr 1 0 none 0), V.s (S.ptr 2 0 none 0), V.s (S.ptr 3 0 none 0), V.s (S.i IntKind.i64 x0), V.s (S.i IntKind.i64 x1)]) ([Obj.cells 34 [Seg.arr IntKind.i8 81 x2, Seg.arr IntKind.i8 16 x3, Seg.one [S.i IntKind.i8 x4]], Obj.cells 34 [Seg.arr IntKind.i8 81 x5, Seg.arr IntKind.i8 16 x6, Seg.one [S.i IntKind.i8 x7]], Obj.cells 98 [Seg.arr IntKind.i64 9 x8], Obj.cells 3 [Seg.one [S.i IntKind.i64 x9]]]) board_Startl7d) = board_Startl7 f := by
      funext x0 x1 x2 x3 x4 x5 x6 x7 x8 x9
      exact ih x0 x1 x2 x3 x4 x5 x6 x7 x8 x9
    rw [e]
    rfl

theorem board_Startl4_step (f : Nat) (x0 : Int) (x1 : List Int) (x2 : List Int) (x3 : Int) (x4 : List Int) (x5 : List Int) (x6 : Int) (x7 : List Int) : lrun board_Startc 0 [0, 1, 2, 7] [0, 1] (loopOf Try.f30 4) (f + 1) ([V.s (S.ptr 0 0 none 0), V.s (S.ptr 1 0 none 0), V.s (S.ptr 2 0 none 0), V.s (S.i IntKind.i64 x0)]) ([Obj.cells 34 [Seg.arr IntKind.i8 81 x1, Seg.arr IntKind.i8 16 x2, Seg.one [S.i IntKind.i8 x3]], Obj.cells 34 [Seg.arr IntKind.i8 81 x4, Seg.arr IntKind.i8 16 x5, Seg.one [S.i IntKind.i8 x6]], Obj.cells 98 [Seg.arr IntKind.i64 9 x7]]) board_Startl4d = board_Startl4s (fun x0 x1 x2 x3 x4 x5 x6 x7 => lrun board_Startc 0 [0, 1, 2, 7] [0, 1] (loopOf Try.f30 4) f ([V.s (S.ptr 0 0 none 0), V.s (S.ptr 1 0 none 0), V.s (S.ptr 2 0 none 0), V.s (S.i IntKind.i64 x0)]) ([Obj.cells 34 [Seg.arr IntKind.i8 81 x1, Seg.arr IntKind.i8 16 x2, Seg.one [S.i IntKind.i8 x3]], Obj.cells 34 [Seg.arr IntKind.i8 81 x4, Seg.arr IntKind.i8 16 x5, Seg.one [S.i IntKind.i8 x6]], Obj.cells 98 [Seg.arr IntKind.i64 9 x7]]) board_Startl4d) x0 x1 x2 x3 x4 x5 x6 x7 := by kernel_rfl

theorem board_Startl4_eq (f : Nat) : ∀ (x0 : Int) (x1 : List Int) (x2 : List Int) (x3 : Int) (x4 : List Int) (x5 : List Int) (x6 : Int) (x7 : List Int), lrun board_Startc 0 [0, 1, 2, 7] [0, 1] (loopOf Try.f30 4) f ([V.s (S.ptr 0 0 none 0), V.s (S.ptr 1 0 none 0), V.s (S.ptr 2 0 none 0), V.s (S.i IntKind.i64 x0)]) ([Obj.cells 34 [Seg.arr IntKind.i8 81 x1, Seg.arr IntKind.i8 16 x2, Seg.one [S.i IntKind.i8 x3]], Obj.cells 34 [Seg.arr IntKind.i8 81 x4, Seg.arr IntKind.i8 16 x5, Seg.one [S.i IntKind.i8 x6]], Obj.cells 98 [Seg.arr IntKind.i64 9 x7]]) board_Startl4d = board_Startl4 f x0 x1 x2 x3 x4 x5 x6 x7 := by
  induction f with
  | zero => intros; rfl
  | succ f ih =>
    intro x0 x1 x2 x3 x4 x5 x6 x7
    rw [board_Startl4_step]
    have e : (fun x0 x1 x2 x3 x4 x5 x6 x7 => lrun board_Startc 0 [0, 1, 2, 7] [0, 1] (loopOf Try.f30 4) f ([V.s (S.ptr 0 0 none 0), V.s (S.ptr 1 0 none 0), V.s (S.ptr 2 0 none 0), V.s (S.i IntKind.i64 x0)]) ([Obj.cells 34 [Seg.arr IntKind.i8 81 x1, Seg.arr IntKind.i8 16 x2, Seg.one [S.i IntKind.i8 x3]], Obj.cells 34 [Seg.arr IntKind.i8 81 x4, Seg.arr IntKind.i8 16 x5, Seg.one [S.i IntKind.i8 x6]], Obj.cells 98 [Seg.arr IntKind.i64 9 x7]]) board_Startl4d) = board_Startl4 f := by
      funext x0 x1 x2 x3 x4 x5 x6 x7
      exact ih x0 x1 x2 x3 x4 x5 x6 x7
    rw [e]
    rfl

theorem board_Starts7 : LoopSound Try.prog board_Startc 0 (loopOf Try.f30 7) :=
  loopSound_by mixed board_Startc_ok (AllP.of (l' := []) (by kernel_rfl) trivial) (q := 7) (kin := [0, 1, 2, 3, 7, 10]) (kout := [0, 1, 2, 7]) (by kernel_rfl) (by kernel_rfl) fun vs objs K r h => by
    replace h : board_Startp7 vs objs K = some r := h
    unfold board_Startp7 at h
    split at h
    · skip
      obtain ⟨t, h1, h2⟩ := ob_ok h
      refine ⟨_, board_Startl7d, t, many, (board_Startl7_eq many _ _ _ _ _ _ _ _ _ _).trans h1, fun e vs' objs' hd => ?_⟩
      unfold board_Startl7d at hd
      split at hd
      · skip
        cases hd
        exact h2
      · cases hd
    · cases h

theorem board_Starts4 : LoopSound Try.prog board_Startc 0 (loopOf Try.f30 4) :=
  loopSound_by mixed board_Startc_ok (AllP.of (l' := [loopOf Try.f30 7]) (by kernel_rfl) ⟨board_Starts7, trivial⟩) (q := 4) (kin := [0, 1, 2, 7]) (kout := [0, 1]) (by kernel_rfl) (by kernel_rfl) fun vs objs K r h => by
    replace h : board_Startp4 vs objs K = some r := h
    unfold board_Startp4 at h
    split at h
    · skip
      obtain ⟨t, h1, h2⟩ := ob_ok h
      refine ⟨_, board_Startl4d, t, many, (board_Startl4_eq many _ _ _ _ _ _ _ _).trans h1, fun e vs' objs' hd => ?_⟩
      unfold board_Startl4d at hd
      split at hd
      · skip
        cases hd
        exact h2
      · cases hd
    · cases h

def board_Startd : V → List Obj → Option (List Int × List Int × Int) := fun v objs => match v, objs with
  | V.agg [Seg.arr IntKind.i8 81 y0, Seg.arr IntKind.i8 16 y1, Seg.one [S.i IntKind.i8 y2]], [] => some (y0, y1, y2)
  | _, _ => none

theorem board_Start_eq : fnE board_Startc Try.f30 ([]) ([]) board_Startd = board_Start  := by kernel_rfl

def board_Starta {R : Type} (o : Orc) (vs : List V) (objs : List Obj) (K : Bool → V → List Obj → Option R) : Option R := match vs, objs with
  | [], [] => ob (board_Start ) fun z => K false (V.agg [Seg.arr IntKind.i8 81 (z.1), Seg.arr IntKind.i8 16 (z.2.1), Seg.one [S.i IntKind.i8 (z.2.2)]]) ([])
  | _, _ => o 30 vs objs K

def board_Starto (o : Orc) : Orc := fun f vs objs K => bif Nat.beq f 30 then board_Starta o vs objs K else o f vs objs K

theorem board_Start_ok {vs : List V} {objs : List Obj} {R : Type} {K : Bool → V → List Obj → Option R} {r : R} (hv : vs = []) (ho : objs = []) (h : ob (board_Start ) (fun z => K false (V.agg [Seg.arr IntKind.i8 81 (z.1), Seg.arr IntKind.i8 16 (z.2.1), Seg.one [S.i IntKind.i8 (z.2.2)]]) ([])) = some r) :
    ∃ p v objs', K p v objs' = some r ∧ AnyOK Try.prog 30 vs objs p v objs' := by
  subst hv
  subst ho
  obtain ⟨t, h1, h2⟩ := ob_ok h
  refine anyOK_by mixed board_Startc_ok (objs := []) (fn := Try.f30) (b := (Try.f30).body.getD .skip) (by kernel_rfl) (by kernel_rfl) (by kernel_rfl) (AllP.of (l' := [loopOf Try.f30 4]) (by kernel_rfl) ⟨board_Starts4, trivial⟩) ((board_Start_eq ).trans h1) fun v objs' hd => ?_
  unfold board_Startd at hd
  split at hd
  · skip
    cases hd
    exact h2
  · cases hd

theorem board_Starto_ok (o : Orc) (ho : OSound Try.prog o) : OSound Try.prog (board_Starto o) := by
  intro R f vs objs K r h
  replace h : (bif Nat.beq f 30 then board_Starta o vs objs K else o f vs objs K) = some r := h
  cases hf : Nat.beq f 30 with
  | false => rw [hf] at h; exact ho f vs objs K r h
  | true =>
    rw [hf] at h
    have e := Nat.eq_of_beq_eq_true hf
    subst e
    replace h : board_Starta o vs objs K = some r := h
    unfold board_Starta at h
    split at h
    · skip
      exact board_Start_ok rfl rfl h
    · exact ho _ _ _ _ _ h

def piece_Kindlp : {R : Type} → Nat → List V → List Obj → (Ex → List V → List Obj → Option R) → Option R := fun _ _ _ _ => none

def piece_Kindoo : Orc := oNil

theorem piece_Kindoo_ok : OSound Try.prog piece_Kindoo := oNil_ok

def piece_Kindc : Ctx := { tab := tab, eqs := eqs, bytes := bytes, nt := 28, orc := piece_Kindoo, keeps := [], lp := piece_Kindlp }

theorem piece_Kindc_ok : CtxOK Try.prog piece_Kindc := ⟨tab_ok, piece_Kindoo_ok, eqs_ok, bytes_ok⟩

def piece_Kindd : V → List Obj → Option (Int) := fun v objs => match v, objs with
  | V.s (S.i IntKind.i64 y0), [] => some (y0)
  | _, _ => none

theorem piece_Kind_eq (x0 : Int) : fnE piece_Kindc Try.f42 ([V.s (S.i IntKind.i8 x0)]) ([]) piece_Kindd = piece_Kind x0 := by kernel_rfl

def piece_Kinda {R : Type} (o : Orc) (vs : List V) (objs : List Obj) (K : Bool → V → List Obj → Option R) : Option R := match vs, objs with
  | [V.s (S.i IntKind.i8 x0)], [] => ob (piece_Kind x0) fun y0 => K false (V.s (S.i IntKind.i64 y0)) ([])
  | _, _ => o 42 vs objs K

def piece_Kindo (o : Orc) : Orc := fun f vs objs K => bif Nat.beq f 42 then piece_Kinda o vs objs K else o f vs objs K

theorem piece_Kind_ok {vs : List V} {objs : List Obj} (x0 : Int) {R : Type} {K : Bool → V → List Obj → Option R} {r : R} (hv : vs = [V.s (S.i IntKind.i8 x0)]) (ho : objs = []) (h : ob (piece_Kind x0) (fun y0 => K false (V.s (S.i IntKind.i64 y0)) ([])) = some r) :
    ∃ p v objs', K p v objs' = some r ∧ AnyOK Try.prog 42 vs objs p v objs' := by
  subst hv
  subst ho
  obtain ⟨t, h1, h2⟩ := ob_ok h
  refine anyOK_by mixed piece_Kindc_ok (objs := []) (fn := Try.f42) (b := (Try.f42).body.getD .skip) (by kernel_rfl) (by kernel_rfl) (by kernel_rfl) (AllP.of (l' := []) (by kernel_rfl) trivial) ((piece_Kind_eq x0).trans h1) fun v objs' hd => ?_
  unfold piece_Kindd at hd
  split at hd
  · skip
    cases hd
    exact h2
  · cases hd

theorem piece_Kindo_ok (o : Orc) (ho : OSound Try.prog o) : OSound Try.prog (piece_Kindo o) := by
  intro R f vs objs K r h
  replace h : (bif Nat.beq f 42 then piece_Kinda o vs objs K else o f vs objs K) = some r := h
  cases hf : Nat.beq f 42 with
  | false => rw [hf] at h; exact ho f vs objs K r h
  | true =>
    rw [hf] at h
    have e := Nat.eq_of_beq_eq_true hf
    subst e
    replace h : piece_Kinda o vs objs K = some r := h
    unfold piece_Kinda at h
    split at h
    · skip
      exact piece_Kind_ok _ rfl rfl h
    · exact ho _ _ _ _ _ h

def key_mixlp : {R : Type} → Nat → List V → List Obj → (Ex → List V → List Obj → Option R) → Option R := fun _ _ _ _ => none

def key_mixoo : Orc := oNil

theorem key_mixoo_ok : OSound Try.prog key_mixoo := oNil_ok

def key_mixc : Ctx := { tab := tab, eqs := eqs, bytes := bytes, nt := 19, orc := key_mixoo, keeps := [], lp := key_mixlp }

theorem key_mixc_ok : CtxOK Try.prog key_mixc := ⟨tab_ok, key_mixoo_ok, eqs_ok, bytes_ok⟩

def key_mixd : V → List Obj → Option (Int) := fun v objs => match v, objs with
  | V.s (S.i IntKind.u64 y0), [] => some (y0)
  | _, _ => none

theorem key_mix_eq (x0 : Int) : fnE key_mixc Try.f57 ([V.s (S.i IntKind.u64 x0)]) ([]) key_mixd = key_mix x0 := by kernel_rfl

def key_mixa {R : Type} (o : Orc) (vs : List V) (objs : List Obj) (K : Bool → V → List Obj → Option R) : Option R := match vs, objs with
  | [V.s (S.i IntKind.u64 x0)], [] => ob (key_mix x0) fun y0 => K false (V.s (S.i IntKind.u64 y0)) ([])
  | _, _ => o 57 vs objs K

def key_mixo (o : Orc) : Orc := fun f vs objs K => bif Nat.beq f 57 then key_mixa o vs objs K else o f vs objs K

theorem key_mix_ok {vs : List V} {objs : List Obj} (x0 : Int) {R : Type} {K : Bool → V → List Obj → Option R} {r : R} (hv : vs = [V.s (S.i IntKind.u64 x0)]) (ho : objs = []) (h : ob (key_mix x0) (fun y0 => K false (V.s (S.i IntKind.u64 y0)) ([])) = some r) :
    ∃ p v objs', K p v objs' = some r ∧ AnyOK Try.prog 57 vs objs p v objs' := by
  subst hv
  subst ho
  obtain ⟨t, h1, h2⟩ := ob_ok h
  refine anyOK_by mixed key_mixc_ok (objs := []) (fn := Try.f57) (b := (Try.f57).body.getD .skip) (by kernel_rfl) (by kernel_rfl) (by kernel_rfl) (AllP.of (l' := []) (by kernel_rfl) trivial) ((key_mix_eq x0).trans h1) fun v objs' hd => ?_
  unfold key_mixd at hd
  split at hd
  · skip
    cases hd
    exact h2
  · cases hd

theorem key_mixo_ok (o : Orc) (ho : OSound Try.prog o) : OSound Try.prog (key_mixo o) := by
  intro R f vs objs K r h
  replace h : (bif Nat.beq f 57 then key_mixa o vs objs K else o f vs objs K) = some r := h
  cases hf : Nat.beq f 57 with
  | false => rw [hf] at h; exact ho f vs objs K r h
  | true =>
    rw [hf] at h
    have e := Nat.eq_of_beq_eq_true hf
    subst e
    replace h : key_mixa o vs objs K = some r := h
    unfold key_mixa at h
    split at h
    · skip
      exact key_mix_ok _ rfl rfl h
    · exact ho _ _ _ _ _ h

def key_Piecelp : {R : Type} → Nat → List V → List Obj → (Ex → List V → List Obj → Option R) → Option R := fun _ _ _ _ => none

def key_Pieceoo : Orc := (key_mixo (piece_Kindo oNil))

theorem key_Pieceoo_ok : OSound Try.prog key_Pieceoo := (key_mixo_ok _ (piece_Kindo_ok _ oNil_ok))

def key_Piecec : Ctx := { tab := tab, eqs := eqs, bytes := bytes, nt := 23, orc := key_Pieceoo, keeps := [], lp := key_Piecelp }

theorem key_Piecec_ok : CtxOK Try.prog key_Piecec := ⟨tab_ok, key_Pieceoo_ok, eqs_ok, bytes_ok⟩

def key_Pieced : V → List Obj → Option (Int) := fun v objs => match v, objs with
  | V.s (S.i IntKind.u64 y0), [] => some (y0)
  | _, _ => none

theorem key_Piece_eq (x0 : Int) (x1 : Int) : fnE key_Piecec Try.f45 ([V.s (S.i IntKind.i64 x0), V.s (S.i IntKind.i8 x1)]) ([]) key_Pieced = key_Piece x0 x1 := by kernel_rfl

def key_Piecea {R : Type} (o : Orc) (vs : List V) (objs : List Obj) (K : Bool → V → List Obj → Option R) : Option R := match vs, objs with
  | [V.s (S.i IntKind.i64 x0), V.s (S.i IntKind.i8 x1)], [] => ob (key_Piece x0 x1) fun y0 => K false (V.s (S.i IntKind.u64 y0)) ([])
  | _, _ => o 45 vs objs K

def key_Pieceo (o : Orc) : Orc := fun f vs objs K => bif Nat.beq f 45 then key_Piecea o vs objs K else o f vs objs K

theorem key_Piece_ok {vs : List V} {objs : List Obj} (x0 : Int) (x1 : Int) {R : Type} {K : Bool → V → List Obj → Option R} {r : R} (hv : vs = [V.s (S.i IntKind.i64 x0), V.s (S.i IntKind.i8 x1)]) (ho : objs = []) (h : ob (key_Piece x0 x1) (fun y0 => K false (V.s (S.i IntKind.u64 y0)) ([])) = some r) :
    ∃ p v objs', K p v objs' = some r ∧ AnyOK Try.prog 45 vs objs p v objs' := by
  subst hv
  subst ho
  obtain ⟨t, h1, h2⟩ := ob_ok h
  refine anyOK_by mixed key_Piecec_ok (objs := []) (fn := Try.f45) (b := (Try.f45).body.getD .skip) (by kernel_rfl) (by kernel_rfl) (by kernel_rfl) (AllP.of (l' := []) (by kernel_rfl) trivial) ((key_Piece_eq x0 x1).trans h1) fun v objs' hd => ?_
  unfold key_Pieced at hd
  split at hd
  · skip
    cases hd
    exact h2
  · cases hd

theorem key_Pieceo_ok (o : Orc) (ho : OSound Try.prog o) : OSound Try.prog (key_Pieceo o) := by
  intro R f vs objs K r h
  replace h : (bif Nat.beq f 45 then key_Piecea o vs objs K else o f vs objs K) = some r := h
  cases hf : Nat.beq f 45 with
  | false => rw [hf] at h; exact ho f vs objs K r h
  | true =>
    rw [hf] at h
    have e := Nat.eq_of_beq_eq_true hf
    subst e
    replace h : key_Piecea o vs objs K = some r := h
    unfold key_Piecea at h
    split at h
    · skip
      exact key_Piece_ok _ _ rfl rfl h
    · exact ho _ _ _ _ _ h

def key_Handlp : {R : Type} → Nat → List V → List Obj → (Ex → List V → List Obj → Option R) → Option R := fun _ _ _ _ => none

def key_Handoo : Orc := (key_mixo oNil)

theorem key_Handoo_ok : OSound Try.prog key_Handoo := (key_mixo_ok _ oNil_ok)

def key_Handc : Ctx := { tab := tab, eqs := eqs, bytes := bytes, nt := 41, orc := key_Handoo, keeps := [], lp := key_Handlp }

theorem key_Handc_ok : CtxOK Try.prog key_Handc := ⟨tab_ok, key_Handoo_ok, eqs_ok, bytes_ok⟩

def key_Handd : V → List Obj → Option (Int) := fun v objs => match v, objs with
  | V.s (S.i IntKind.u64 y0), [] => some (y0)
  | _, _ => none

theorem key_Hand_eq (x0 : Int) (x1 : Int) (x2 : Int) : fnE key_Handc Try.f46 ([V.s (S.i IntKind.i64 x0), V.s (S.i IntKind.i64 x1), V.s (S.i IntKind.i64 x2)]) ([]) key_Handd = key_Hand x0 x1 x2 := by kernel_rfl

def key_Handa {R : Type} (o : Orc) (vs : List V) (objs : List Obj) (K : Bool → V → List Obj → Option R) : Option R := match vs, objs with
  | [V.s (S.i IntKind.i64 x0), V.s (S.i IntKind.i64 x1), V.s (S.i IntKind.i64 x2)], [] => ob (key_Hand x0 x1 x2) fun y0 => K false (V.s (S.i IntKind.u64 y0)) ([])
  | _, _ => o 46 vs objs K

def key_Hando (o : Orc) : Orc := fun f vs objs K => bif Nat.beq f 46 then key_Handa o vs objs K else o f vs objs K

theorem key_Hand_ok {vs : List V} {objs : List Obj} (x0 : Int) (x1 : Int) (x2 : Int) {R : Type} {K : Bool → V → List Obj → Option R} {r : R} (hv : vs = [V.s (S.i IntKind.i64 x0), V.s (S.i IntKind.i64 x1), V.s (S.i IntKind.i64 x2)]) (ho : objs = []) (h : ob (key_Hand x0 x1 x2) (fun y0 => K false (V.s (S.i IntKind.u64 y0)) ([])) = some r) :
    ∃ p v objs', K p v objs' = some r ∧ AnyOK Try.prog 46 vs objs p v objs' := by
  subst hv
  subst ho
  obtain ⟨t, h1, h2⟩ := ob_ok h
  refine anyOK_by mixed key_Handc_ok (objs := []) (fn := Try.f46) (b := (Try.f46).body.getD .skip) (by kernel_rfl) (by kernel_rfl) (by kernel_rfl) (AllP.of (l' := []) (by kernel_rfl) trivial) ((key_Hand_eq x0 x1 x2).trans h1) fun v objs' hd => ?_
  unfold key_Handd at hd
  split at hd
  · skip
    cases hd
    exact h2
  · cases hd

theorem key_Hando_ok (o : Orc) (ho : OSound Try.prog o) : OSound Try.prog (key_Hando o) := by
  intro R f vs objs K r h
  replace h : (bif Nat.beq f 46 then key_Handa o vs objs K else o f vs objs K) = some r := h
  cases hf : Nat.beq f 46 with
  | false => rw [hf] at h; exact ho f vs objs K r h
  | true =>
    rw [hf] at h
    have e := Nat.eq_of_beq_eq_true hf
    subst e
    replace h : key_Handa o vs objs K = some r := h
    unfold key_Handa at h
    split at h
    · skip
      exact key_Hand_ok _ _ _ rfl rfl h
    · exact ho _ _ _ _ _ h

def key_Sidelp : {R : Type} → Nat → List V → List Obj → (Ex → List V → List Obj → Option R) → Option R := fun _ _ _ _ => none

def key_Sideoo : Orc := (key_mixo oNil)

theorem key_Sideoo_ok : OSound Try.prog key_Sideoo := (key_mixo_ok _ oNil_ok)

def key_Sidec : Ctx := { tab := tab, eqs := eqs, bytes := bytes, nt := 2, orc := key_Sideoo, keeps := [], lp := key_Sidelp }

theorem key_Sidec_ok : CtxOK Try.prog key_Sidec := ⟨tab_ok, key_Sideoo_ok, eqs_ok, bytes_ok⟩

def key_Sided : V → List Obj → Option (Int) := fun v objs => match v, objs with
  | V.s (S.i IntKind.u64 y0), [] => some (y0)
  | _, _ => none

theorem key_Side_eq : fnE key_Sidec Try.f47 ([]) ([]) key_Sided = key_Side  := by kernel_rfl

def key_Sidea {R : Type} (o : Orc) (vs : List V) (objs : List Obj) (K : Bool → V → List Obj → Option R) : Option R := match vs, objs with
  | [], [] => ob (key_Side ) fun y0 => K false (V.s (S.i IntKind.u64 y0)) ([])
  | _, _ => o 47 vs objs K

def key_Sideo (o : Orc) : Orc := fun f vs objs K => bif Nat.beq f 47 then key_Sidea o vs objs K else o f vs objs K

theorem key_Side_ok {vs : List V} {objs : List Obj} {R : Type} {K : Bool → V → List Obj → Option R} {r : R} (hv : vs = []) (ho : objs = []) (h : ob (key_Side ) (fun y0 => K false (V.s (S.i IntKind.u64 y0)) ([])) = some r) :
    ∃ p v objs', K p v objs' = some r ∧ AnyOK Try.prog 47 vs objs p v objs' := by
  subst hv
  subst ho
  obtain ⟨t, h1, h2⟩ := ob_ok h
  refine anyOK_by mixed key_Sidec_ok (objs := []) (fn := Try.f47) (b := (Try.f47).body.getD .skip) (by kernel_rfl) (by kernel_rfl) (by kernel_rfl) (AllP.of (l' := []) (by kernel_rfl) trivial) ((key_Side_eq ).trans h1) fun v objs' hd => ?_
  unfold key_Sided at hd
  split at hd
  · skip
    cases hd
    exact h2
  · cases hd

theorem key_Sideo_ok (o : Orc) (ho : OSound Try.prog o) : OSound Try.prog (key_Sideo o) := by
  intro R f vs objs K r h
  replace h : (bif Nat.beq f 47 then key_Sidea o vs objs K else o f vs objs K) = some r := h
  cases hf : Nat.beq f 47 with
  | false => rw [hf] at h; exact ho f vs objs K r h
  | true =>
    rw [hf] at h
    have e := Nat.eq_of_beq_eq_true hf
    subst e
    replace h : key_Sidea o vs objs K = some r := h
    unfold key_Sidea at h
    split at h
    · skip
      exact key_Side_ok rfl rfl h
    · exact ho _ _ _ _ _ h

def key_Ofl3d : Ex → List V → List Obj → Option (Int × List Int × List Int × Int) := fun e vs objs => match e, vs, objs with
  | Ex.exit 0, [V.s (S.ptr 0 0 none 0), V.s (S.i IntKind.u64 y0)], [Obj.cells 34 [Seg.arr IntKind.i8 81 y1, Seg.arr IntKind.i8 16 y2, Seg.one [S.i IntKind.i8 y3]]] => some (y0, y1, y2, y3)
  | _, _, _ => none

def key_Ofl11d : Ex → List V → List Obj → Option (Int × List Int × Int × List Int × List Int × Int) := fun e vs objs => match e, vs, objs with
  | Ex.exit 4, [V.s (S.ptr 0 0 none 0), V.s (S.i IntKind.u64 y0), V.agg [Seg.arr IntKind.i8 16 y1], V.s (S.i IntKind.i64 y2)], [Obj.cells 34 [Seg.arr IntKind.i8 81 y3, Seg.arr IntKind.i8 16 y4, Seg.one [S.i IntKind.i8 y5]]] => some (y0, y1, y2, y3, y4, y5)
  | _, _, _ => none

def key_Ofl8d : Ex → List V → List Obj → Option (Int × List Int × List Int × Int) := fun e vs objs => match e, vs, objs with
  | Ex.exit 2, [V.s (S.ptr 0 0 none 0), V.s (S.i IntKind.u64 y0)], [Obj.cells 34 [Seg.arr IntKind.i8 81 y1, Seg.arr IntKind.i8 16 y2, Seg.one [S.i IntKind.i8 y3]]] => some (y0, y1, y2, y3)
  | _, _, _ => none

def key_Ofp3 {R : Type} (vs : List V) (objs : List Obj) (K : Ex → List V → List Obj → Option R) : Option R := match vs, objs with
  | [V.s (S.ptr 0 0 none 0), V.s (S.i IntKind.u64 x0), V.agg [Seg.arr IntKind.i8 81 x1], V.s (S.i IntKind.i64 x2)], [Obj.cells 34 [Seg.arr IntKind.i8 81 x3, Seg.arr IntKind.i8 16 x4, Seg.one [S.i IntKind.i8 x5]]] => ob (key_Ofl3 many x0 x1 x2 x3 x4 x5) fun z => K (Ex.exit 0) ([V.s (S.ptr 0 0 none 0), V.s (S.i IntKind.u64 (z.1))]) ([Obj.cells 34 [Seg.arr IntKind.i8 81 (z.2.1), Seg.arr IntKind.i8 16 (z.2.2.1), Seg.one [S.i IntKind.i8 (z.2.2.2)]]])
  | _, _ => none

def key_Ofp11 {R : Type} (vs : List V) (objs : List Obj) (K : Ex → List V → List Obj → Option R) : Option R := match vs, objs with
  | [V.s (S.ptr 0 0 none 0), V.s (S.i IntKind.u64 x0), V.s (S.i IntKind.i64 x1), V.agg [Seg.arr IntKind.i8 16 x2], V.s (S.i IntKind.i64 x3), V.agg [Seg.arr IntKind.i8 8 x4], V.s (S.i IntKind.i64 x5)], [Obj.cells 34 [Seg.arr IntKind.i8 81 x6, Seg.arr IntKind.i8 16 x7, Seg.one [S.i IntKind.i8 x8]]] => ob (key_Ofl11 many x0 x1 x2 x3 x4 x5 x6 x7 x8) fun z => K (Ex.exit 4) ([V.s (S.ptr 0 0 none 0), V.s (S.i IntKind.u64 (z.1)), V.agg [Seg.arr IntKind.i8 16 (z.2.1)], V.s (S.i IntKind.i64 (z.2.2.1))]) ([Obj.cells 34 [Seg.arr IntKind.i8 81 (z.2.2.2.1), Seg.arr IntKind.i8 16 (z.2.2.2.2.1), Seg.one [S.i IntKind.i8 (z.2.2.2.2.2)]]])
  | _, _ => none

def key_Ofp8 {R : Type} (vs : List V) (objs : List Obj) (K : Ex → List V → List Obj → Option R) : Option R := match vs, objs with
  | [V.s (S.ptr 0 0 none 0), V.s (S.i IntKind.u64 x0), V.agg [Seg.arr IntKind.i8 16 x1], V.s (S.i IntKind.i64 x2)], [Obj.cells 34 [Seg.arr IntKind.i8 81 x3, Seg.arr IntKind.i8 16 x4, Seg.one [S.i IntKind.i8 x5]]] => ob (key_Ofl8 many x0 x1 x2 x3 x4 x5) fun z => K (Ex.exit 2) ([V.s (S.ptr 0 0 none 0), V.s (S.i IntKind.u64 (z.1))]) ([Obj.cells 34 [Seg.arr IntKind.i8 81 (z.2.1), Seg.arr IntKind.i8 16 (z.2.2.1), Seg.one [S.i IntKind.i8 (z.2.2.2)]]])
  | _, _ => none

def key_Oflp : {R : Type} → Nat → List V → List Obj → (Ex → List V → List Obj → Option R) → Option R := fun q vs objs K => bif Nat.beq q 3 then key_Ofp3 vs objs K else bif Nat.beq q 11 then key_Ofp11 vs objs K else bif Nat.beq q 8 then key_Ofp8 vs objs K else none

def key_Ofoo : Orc := (key_Sideo (key_Hando (key_Pieceo oNil)))

theorem key_Ofoo_ok : OSound Try.prog key_Ofoo := (key_Sideo_ok _ (key_Hando_ok _ (key_Pieceo_ok _ oNil_ok)))

def key_Ofc : Ctx := { tab := tab, eqs := eqs, bytes := bytes, nt := 49, orc := key_Ofoo, keeps := [(3, [1, 3, 11, 12], [1, 3]), (8, [1, 3, 23, 24], [1, 3]), (11, [1, 3, 6, 23, 24, 28, 29], [1, 3, 23, 24])], lp := key_Oflp }

theorem key_Ofc_ok : CtxOK Try.prog key_Ofc := ⟨tab_ok, key_Ofoo_ok, eqs_ok, bytes_ok⟩

theorem key_Ofl3_step (f : Nat) (x0 : Int) (x1 : List Int) (x2 : Int) (x3 : List Int) (x4 : List Int) (x5 : Int) : lrun key_Ofc 0 [1, 3, 11, 12] [1, 3] (loopOf Try.f23 3) (f + 1) ([V.s (S.ptr 0 0 none 0), V.s (S.i IntKind.u64 x0), V.agg [Seg.arr IntKind.i8 81 x1], V.s (S.i IntKind.i64 x2)]) ([Obj.cells 34 [Seg.arr IntKind.i8 81 x3, Seg.arr IntKind.i8 16 x4, Seg.one [S.i IntKind.i8 x5]]]) key_Ofl3d = key_Ofl3s (fun x0 x1 x2 x3 x4 x5 => lrun key_Ofc 0 [1, 3, 11, 12] [1, 3] (loopOf Try.f23 3) f ([V.s (S.ptr 0 0 none 0), V.s (S.i IntKind.u64 x0), V.agg [Seg.arr IntKind.i8 81 x1], V.s (S.i IntKind.i64 x2)]) ([Obj.cells 34 [Seg.arr IntKind.i8 81 x3, Seg.arr IntKind.i8 16 x4, Seg.one [S.i IntKind.i8 x5]]]) key_Ofl3d) x0 x1 x2 x3 x4 x5 := by kernel_rfl

theorem key_Ofl3_eq (f : Nat) : ∀ (x0 : Int) (x1 : List Int) (x2 : Int) (x3 : List Int) (x4 : List Int) (x5 : Int), lrun key_Ofc 0 [1, 3, 11, 12] [1, 3] (loopOf Try.f23 3) f ([V.s (S.ptr 0 0 none 0), V.s (S.i IntKind.u64 x0), V.agg [Seg.arr IntKind.i8 81 x1], V.s (S.i IntKind.i64 x2)]) ([Obj.cells 34 [Seg.arr IntKind.i8 81 x3, Seg.arr IntKind.i8 16 x4, Seg.one [S.i IntKind.i8 x5]]]) key_Ofl3d = key_Ofl3 f x0 x1 x2 x3 x4 x5 := by
  induction f with
  | zero => intros; rfl
  | succ f ih =>
    intro x0 x1 x2 x3 x4 x5
    rw [key_Ofl3_step]
    have e : (fun x0 x1 x2 x3 x4 x5 => lrun key_Ofc 0 [1, 3, 11, 12] [1, 3] (loopOf Try.f23 3) f ([V.s (S.ptr 0 0 none 0), V.s (S.i IntKind.u64 x0), V.agg [Seg.arr IntKind.i8 81 x1], V.s (S.i IntKind.i64 x2)]) ([Obj.cells 34 [Seg.arr IntKind.i8 81 x3, Seg.arr IntKind.i8 16 x4, Seg.one [S.i IntKind.i8 x5]]]) key_Ofl3d) = key_Ofl3 f := by
      funext x0 x1 x2 x3 x4 x5
      exact ih x0 x1 x2 x3 x4 x5
    rw [e]
    rfl

theorem key_Ofl11_step (f : Nat) (x0 : Int) (x1 : Int) (x2 : List Int) (x3 : Int) (x4 : List Int) (x5 : Int) (x6 : List Int) (x7 : List Int) (x8 : Int) : lrun key_Ofc 0 [1, 3, 6, 23, 24, 28, 29] [1, 3, 23, 24] (loopOf Try.f23 11) (f + 1) ([V.s (S.ptr 0 0 none 0), V.s (S.i IntKind.u64 x0), V.s (S.i IntKind.i64 x1), V.agg [Seg.arr IntKind.i8 16 x2], V.s (S.i IntKind.i64 x3), V.agg [Seg.arr IntKind.i8 8 x4], V.s (S.i IntKind.i64 x5)]) ([Obj.cells 34 [Seg.arr IntKind.i8 81 x6, Seg.arr IntKind.i8 16 x7, Seg.one [S.i IntKind.i8 x8]]]) key_Ofl11d = key_Ofl11s (fun x0 x1 x2 x3 x4 x5 x6 x7 x8 => lrun key_Ofc 0 [1, 3, 6, 23, 24, 28, 29] [1, 3, 23, 24] (loopOf Try.f23 11) f ([V.s (S.ptr 0 0 none 0), V.s (S.i IntKind.u64 x0), V.s (S.i IntKind.i64 x1), V.agg [Seg.arr IntKind.i8 16 x2], V.s (S.i IntKind.i64 x3), V.agg [Seg.arr IntKind.i8 8 x4], V.s (S.i IntKind.i64 x5)]) ([Obj.cells 34 [Seg.arr IntKind.i8 81 x6, Seg.arr IntKind.i8 16 x7, Seg.one [S.i IntKind.i8 x8]]]) key_Ofl11d) x0 x1 x2 x3 x4 x5 x6 x7 x8 := by kernel_rfl

theorem key_Ofl11_eq (f : Nat) : ∀ (x0 : Int) (x1 : Int) (x2 : List Int) (x3 : Int) (x4 : List Int) (x5 : Int) (x6 : List Int) (x7 : List Int) (x8 : Int), lrun key_Ofc 0 [1, 3, 6, 23, 24, 28, 29] [1, 3, 23, 24] (loopOf Try.f23 11) f ([V.s (S.ptr 0 0 none 0), V.s (S.i IntKind.u64 x0), V.s (S.i IntKind.i64 x1), V.agg [Seg.arr IntKind.i8 16 x2], V.s (S.i IntKind.i64 x3), V.agg [Seg.arr IntKind.i8 8 x4], V.s (S.i IntKind.i64 x5)]) ([Obj.cells 34 [Seg.arr IntKind.i8 81 x6, Seg.arr IntKind.i8 16 x7, Seg.one [S.i IntKind.i8 x8]]]) key_Ofl11d = key_Ofl11 f x0 x1 x2 x3 x4 x5 x6 x7 x8 := by
  induction f with
  | zero => intros; rfl
  | succ f ih =>
    intro x0 x1 x2 x3 x4 x5 x6 x7 x8
    rw [key_Ofl11_step]
    have e : (fun x0 x1 x2 x3 x4 x5 x6 x7 x8 => lrun key_Ofc 0 [1, 3, 6, 23, 24, 28, 29] [1, 3, 23, 24] (loopOf Try.f23 11) f ([V.s (S.ptr 0 0 none 0), V.s (S.i IntKind.u64 x0), V.s (S.i IntKind.i64 x1), V.agg [Seg.arr IntKind.i8 16 x2], V.s (S.i IntKind.i64 x3), V.agg [Seg.arr IntKind.i8 8 x4], V.s (S.i IntKind.i64 x5)]) ([Obj.cells 34 [Seg.arr IntKind.i8 81 x6, Seg.arr IntKind.i8 16 x7, Seg.one [S.i IntKind.i8 x8]]]) key_Ofl11d) = key_Ofl11 f := by
      funext x0 x1 x2 x3 x4 x5 x6 x7 x8
      exact ih x0 x1 x2 x3 x4 x5 x6 x7 x8
    rw [e]
    rfl

theorem key_Ofl8_step (f : Nat) (x0 : Int) (x1 : List Int) (x2 : Int) (x3 : List Int) (x4 : List Int) (x5 : Int) : lrun key_Ofc 0 [1, 3, 23, 24] [1, 3] (loopOf Try.f23 8) (f + 1) ([V.s (S.ptr 0 0 none 0), V.s (S.i IntKind.u64 x0), V.agg [Seg.arr IntKind.i8 16 x1], V.s (S.i IntKind.i64 x2)]) ([Obj.cells 34 [Seg.arr IntKind.i8 81 x3, Seg.arr IntKind.i8 16 x4, Seg.one [S.i IntKind.i8 x5]]]) key_Ofl8d = key_Ofl8s (fun x0 x1 x2 x3 x4 x5 => lrun key_Ofc 0 [1, 3, 23, 24] [1, 3] (loopOf Try.f23 8) f ([V.s (S.ptr 0 0 none 0), V.s (S.i IntKind.u64 x0), V.agg [Seg.arr IntKind.i8 16 x1], V.s (S.i IntKind.i64 x2)]) ([Obj.cells 34 [Seg.arr IntKind.i8 81 x3, Seg.arr IntKind.i8 16 x4, Seg.one [S.i IntKind.i8 x5]]]) key_Ofl8d) x0 x1 x2 x3 x4 x5 := by kernel_rfl

theorem key_Ofl8_eq (f : Nat) : ∀ (x0 : Int) (x1 : List Int) (x2 : Int) (x3 : List Int) (x4 : List Int) (x5 : Int), lrun key_Ofc 0 [1, 3, 23, 24] [1, 3] (loopOf Try.f23 8) f ([V.s (S.ptr 0 0 none 0), V.s (S.i IntKind.u64 x0), V.agg [Seg.arr IntKind.i8 16 x1], V.s (S.i IntKind.i64 x2)]) ([Obj.cells 34 [Seg.arr IntKind.i8 81 x3, Seg.arr IntKind.i8 16 x4, Seg.one [S.i IntKind.i8 x5]]]) key_Ofl8d = key_Ofl8 f x0 x1 x2 x3 x4 x5 := by
  induction f with
  | zero => intros; rfl
  | succ f ih =>
    intro x0 x1 x2 x3 x4 x5
    rw [key_Ofl8_step]
    have e : (fun x0 x1 x2 x3 x4 x5 => lrun key_Ofc 0 [1, 3, 23, 24] [1, 3] (loopOf Try.f23 8) f ([V.s (S.ptr 0 0 none 0), V.s (S.i IntKind.u64 x0), V.agg [Seg.arr IntKind.i8 16 x1], V.s (S.i IntKind.i64 x2)]) ([Obj.cells 34 [Seg.arr IntKind.i8 81 x3, Seg.arr IntKind.i8 16 x4, Seg.one [S.i IntKind.i8 x5]]]) key_Ofl8d) = key_Ofl8 f := by
      funext x0 x1 x2 x3 x4 x5
      exact ih x0 x1 x2 x3 x4 x5
    rw [e]
    rfl

theorem key_Ofs3 : LoopSound Try.prog key_Ofc 0 (loopOf Try.f23 3) :=
  loopSound_by mixed key_Ofc_ok (AllP.of (l' := []) (by kernel_rfl) trivial) (q := 3) (kin := [1, 3, 11, 12]) (kout := [1, 3]) (by kernel_rfl) (by kernel_rfl) fun vs objs K r h => by
    replace h : key_Ofp3 vs objs K = some r := h
    unfold key_Ofp3 at h
    split at h
    · skip
      obtain ⟨t, h1, h2⟩ := ob_ok h
      refine ⟨_, key_Ofl3d, t, many, (key_Ofl3_eq many _ _ _ _ _ _).trans h1, fun e vs' objs' hd => ?_⟩
      unfold key_Ofl3d at hd
      split at hd
      · skip
        cases hd
        exact h2
      · cases hd
    · cases h

theorem key_Ofs11 : LoopSound Try.prog key_Ofc 0 (loopOf Try.f23 11) :=
  loopSound_by mixed key_Ofc_ok (AllP.of (l' := []) (by kernel_rfl) trivial) (q := 11) (kin := [1, 3, 6, 23, 24, 28, 29]) (kout := [1, 3, 23, 24]) (by kernel_rfl) (by kernel_rfl) fun vs objs K r h => by
    replace h : key_Ofp11 vs objs K = some r := h
    unfold key_Ofp11 at h
    split at h
    · skip
      obtain ⟨t, h1, h2⟩ := ob_ok h
      refine ⟨_, key_Ofl11d, t, many, (key_Ofl11_eq many _ _ _ _ _ _ _ _ _).trans h1, fun e vs' objs' hd => ?_⟩
      unfold key_Ofl11d at hd
      split at hd
      · skip
        cases hd
        exact h2
      · cases hd
    · cases h

theorem key_Ofs8 : LoopSound Try.prog key_Ofc 0 (loopOf Try.f23 8) :=
  loopSound_by mixed key_Ofc_ok (AllP.of (l' := [loopOf Try.f23 11]) (by kernel_rfl) ⟨key_Ofs11, trivial⟩) (q := 8) (kin := [1, 3, 23, 24]) (kout := [1, 3]) (by kernel_rfl) (by kernel_rfl) fun vs objs K r h => by
    replace h : key_Ofp8 vs objs K = some r := h
    unfold key_Ofp8 at h
    split at h
    · skip
      obtain ⟨t, h1, h2⟩ := ob_ok h
      refine ⟨_, key_Ofl8d, t, many, (key_Ofl8_eq many _ _ _ _ _ _).trans h1, fun e vs' objs' hd => ?_⟩
      unfold key_Ofl8d at hd
      split at hd
      · skip
        cases hd
        exact h2
      · cases hd
    · cases h

def key_Ofd : V → List Obj → Option (Int) := fun v objs => match v, objs with
  | V.s (S.i IntKind.u64 y0), [] => some (y0)
  | _, _ => none

theorem key_Of_eq (x0 : List Int) (x1 : List Int) (x2 : Int) : fnE key_Ofc Try.f23 ([V.agg [Seg.arr IntKind.i8 81 x0, Seg.arr IntKind.i8 16 x1, Seg.one [S.i IntKind.i8 x2]]]) ([]) key_Ofd = key_Of x0 x1 x2 := by kernel_rfl

def key_Ofa {R : Type} (o : Orc) (vs : List V) (objs : List Obj) (K : Bool → V → List Obj → Option R) : Option R := match vs, objs with
  | [V.agg [Seg.arr IntKind.i8 81 x0, Seg.arr IntKind.i8 16 x1, Seg.one [S.i IntKind.i8 x2]]], [] => ob (key_Of x0 x1 x2) fun y0 => K false (V.s (S.i IntKind.u64 y0)) ([])
  | _, _ => o 23 vs objs K

def key_Ofo (o : Orc) : Orc := fun f vs objs K => bif Nat.beq f 23 then key_Ofa o vs objs K else o f vs objs K

theorem key_Of_ok {vs : List V} {objs : List Obj} (x0 : List Int) (x1 : List Int) (x2 : Int) {R : Type} {K : Bool → V → List Obj → Option R} {r : R} (hv : vs = [V.agg [Seg.arr IntKind.i8 81 x0, Seg.arr IntKind.i8 16 x1, Seg.one [S.i IntKind.i8 x2]]]) (ho : objs = []) (h : ob (key_Of x0 x1 x2) (fun y0 => K false (V.s (S.i IntKind.u64 y0)) ([])) = some r) :
    ∃ p v objs', K p v objs' = some r ∧ AnyOK Try.prog 23 vs objs p v objs' := by
  subst hv
  subst ho
  obtain ⟨t, h1, h2⟩ := ob_ok h
  refine anyOK_by mixed key_Ofc_ok (objs := []) (fn := Try.f23) (b := (Try.f23).body.getD .skip) (by kernel_rfl) (by kernel_rfl) (by kernel_rfl) (AllP.of (l' := [loopOf Try.f23 3, loopOf Try.f23 8]) (by kernel_rfl) ⟨key_Ofs3, key_Ofs8, trivial⟩) ((key_Of_eq x0 x1 x2).trans h1) fun v objs' hd => ?_
  unfold key_Ofd at hd
  split at hd
  · skip
    cases hd
    exact h2
  · cases hd

theorem key_Ofo_ok (o : Orc) (ho : OSound Try.prog o) : OSound Try.prog (key_Ofo o) := by
  intro R f vs objs K r h
  replace h : (bif Nat.beq f 23 then key_Ofa o vs objs K else o f vs objs K) = some r := h
  cases hf : Nat.beq f 23 with
  | false => rw [hf] at h; exact ho f vs objs K r h
  | true =>
    rw [hf] at h
    have e := Nat.eq_of_beq_eq_true hf
    subst e
    replace h : key_Ofa o vs objs K = some r := h
    unfold key_Ofa at h
    split at h
    · skip
      exact key_Of_ok _ _ _ rfl rfl h
    · exact ho _ _ _ _ _ h

def table_atlp : {R : Type} → Nat → List V → List Obj → (Ex → List V → List Obj → Option R) → Option R := fun _ _ _ _ => none

def table_atoo : Orc := (key_Ofo oNil)

theorem table_atoo_ok : OSound Try.prog table_atoo := (key_Ofo_ok _ oNil_ok)

def table_atc : Ctx := { tab := tab, eqs := eqs, bytes := bytes, nt := 19, orc := table_atoo, keeps := [], lp := table_atlp }

theorem table_atc_ok : CtxOK Try.prog table_atc := ⟨tab_ok, table_atoo_ok, eqs_ok, bytes_ok⟩

def table_atd : V → List Obj → Option (Nat) := fun v objs => match v, objs with
  | V.s (S.ptr 1 0 (some (y0, 1)) 0), [] => some (y0)
  | _, _ => none

theorem table_at_eq (x0 : List Int) (x1 : List Int) (x2 : Int) (x3 : Nat) (x4 : Int) (x5 : Nat) (x6 : List (List Int)) : fnE table_atc Try.f31 ([V.s (S.ptr 0 0 none 0), V.agg [Seg.arr IntKind.i8 81 x0, Seg.arr IntKind.i8 16 x1, Seg.one [S.i IntKind.i8 x2]]]) ([Obj.rcells 79 [Seg.one [S.sl 1 0 x3 true, S.i IntKind.i64 x4]], Obj.sli 83 true (Seg.rows kL0 x5 x6)]) (pureD 2 table_atd) = table_at x0 x1 x2 x3 x4 x5 x6 := by kernel_rfl

def table_ata {R : Type} (o : Orc) (vs : List V) (objs : List Obj) (K : Bool → V → List Obj → Option R) : Option R := match vs, List.map Obj.toRO objs with
  | [V.s (S.ptr 0 0 none 0), V.agg [Seg.arr IntKind.i8 81 x0, Seg.arr IntKind.i8 16 x1, Seg.one [S.i IntKind.i8 x2]]], [Obj.rcells 79 [Seg.one [S.sl 1 0 x3 true, S.i IntKind.i64 x4]], Obj.sli 83 true (Seg.rows kk0 x5 x6)] => bif decide (kk0 = kL0) then ob (table_at x0 x1 x2 x3 x4 x5 x6) fun y0 => K true (V.s (S.ptr 1 0 (some (y0, 1)) 0)) ([]) else none
  | _, _ => o 31 vs objs K

def table_ato (o : Orc) : Orc := fun f vs objs K => bif Nat.beq f 31 then table_ata o vs objs K else o f vs objs K

theorem table_at_ok {vs : List V} {objs : List Obj} (x0 : List Int) (x1 : List Int) (x2 : Int) (x3 : Nat) (x4 : Int) (x5 : Nat) (x6 : List (List Int)) {R : Type} {K : Bool → V → List Obj → Option R} {r : R} (hv : vs = [V.s (S.ptr 0 0 none 0), V.agg [Seg.arr IntKind.i8 81 x0, Seg.arr IntKind.i8 16 x1, Seg.one [S.i IntKind.i8 x2]]]) (ho : List.map Obj.toRO objs = [Obj.rcells 79 [Seg.one [S.sl 1 0 x3 true, S.i IntKind.i64 x4]], Obj.sli 83 true (Seg.rows kL0 x5 x6)]) (h : ob (table_at x0 x1 x2 x3 x4 x5 x6) (fun y0 => K true (V.s (S.ptr 1 0 (some (y0, 1)) 0)) ([])) = some r) :
    ∃ p v objs', K p v objs' = some r ∧ AnyOK Try.prog 31 vs objs p v objs' := by
  subst hv
  obtain ⟨t, h1, h2⟩ := ob_ok h
  refine purOK_by mixed table_atc_ok (m := 2) (fn := Try.f31) (b := (Try.f31).body.getD .skip) (by kernel_rfl) (by kernel_rfl) (by kernel_rfl) ho (by kernel_rfl) (by kernel_rfl) (AllP.of (l' := []) (by kernel_rfl) trivial) ((table_at_eq x0 x1 x2 x3 x4 x5 x6).trans h1) fun v objs' hd => ?_
  unfold table_atd at hd
  split at hd
  · skip
    cases hd
    exact h2
  · cases hd

theorem table_ato_ok (o : Orc) (ho : OSound Try.prog o) : OSound Try.prog (table_ato o) := by
  intro R f vs objs K r h
  replace h : (bif Nat.beq f 31 then table_ata o vs objs K else o f vs objs K) = some r := h
  cases hf : Nat.beq f 31 with
  | false => rw [hf] at h; exact ho f vs objs K r h
  | true =>
    rw [hf] at h
    have e := Nat.eq_of_beq_eq_true hf
    subst e
    replace h : table_ata o vs objs K = some r := h
    unfold table_ata at h
    split at h
    · skip
      have g := (bif_some h).1
      replace h := (bif_some h).2
      obtain rfl := of_decide_eq_true g
      exact table_at_ok _ _ _ _ _ _ _ rfl (by assumption) h
    · exact ho _ _ _ _ _ h

def table_Putlp : {R : Type} → Nat → List V → List Obj → (Ex → List V → List Obj → Option R) → Option R := fun _ _ _ _ => none

def table_Putoo : Orc := (table_ato oNil)

theorem table_Putoo_ok : OSound Try.prog table_Putoo := (table_ato_ok _ oNil_ok)

def table_Putc : Ctx := { tab := tab, eqs := eqs, bytes := bytes, nt := 27, orc := table_Putoo, keeps := [], lp := table_Putlp }

theorem table_Putc_ok : CtxOK Try.prog table_Putc := ⟨tab_ok, table_Putoo_ok, eqs_ok, bytes_ok⟩

def table_Putd : V → List Obj → Option (Nat × Int × Nat × List (List Int)) := fun v objs => match v, objs with
  | V.tup [], [Obj.cells 79 [Seg.one [S.sl 1 0 y0 true, S.i IntKind.i64 y1]], Obj.sli 83 false (Seg.rows kk0 y2 y3)] => bif decide (kk0 = kL0) then some (y0, y1, y2, y3) else none
  | _, _ => none

theorem table_Put_eq (x0 : List Int) (x1 : List Int) (x2 : Int) (x3 : Int) (x4 : Int) (x5 : Int) (x6 : Int) (x7 : Int) (x8 : Int) (x9 : Bool) (x10 : Nat) (x11 : Int) (x12 : Nat) (x13 : List (List Int)) : fnE table_Putc Try.f13 ([V.s (S.ptr 0 0 none 0), V.agg [Seg.arr IntKind.i8 81 x0, Seg.arr IntKind.i8 16 x1, Seg.one [S.i IntKind.i8 x2]], V.agg [Seg.one [S.i IntKind.i64 x3, S.i IntKind.i64 x4, S.i IntKind.i64 x5, S.i IntKind.i64 x6, S.i IntKind.i64 x7, S.i IntKind.i64 x8, S.b x9]]]) ([Obj.cells 79 [Seg.one [S.sl 1 0 x10 true, S.i IntKind.i64 x11]], Obj.sli 83 false (Seg.rows kL0 x12 x13)]) table_Putd = table_Put x0 x1 x2 x3 x4 x5 x6 x7 x8 x9 x10 x11 x12 x13 := by kernel_rfl

def table_Puta {R : Type} (o : Orc) (vs : List V) (objs : List Obj) (K : Bool → V → List Obj → Option R) : Option R := match vs, objs with
  | [V.s (S.ptr 0 0 none 0), V.agg [Seg.arr IntKind.i8 81 x0, Seg.arr IntKind.i8 16 x1, Seg.one [S.i IntKind.i8 x2]], V.agg [Seg.one [S.i IntKind.i64 x3, S.i IntKind.i64 x4, S.i IntKind.i64 x5, S.i IntKind.i64 x6, S.i IntKind.i64 x7, S.i IntKind.i64 x8, S.b x9]]], [Obj.cells 79 [Seg.one [S.sl 1 0 x10 true, S.i IntKind.i64 x11]], Obj.sli 83 false (Seg.rows kk0 x12 x13)] => bif decide (kk0 = kL0) then ob (table_Put x0 x1 x2 x3 x4 x5 x6 x7 x8 x9 x10 x11 x12 x13) fun z => K false (V.tup []) ([Obj.cells 79 [Seg.one [S.sl 1 0 (z.1) true, S.i IntKind.i64 (z.2.1)]], Obj.sli 83 false (Seg.rows kL0 (z.2.2.1) (z.2.2.2))]) else none
  | _, _ => o 13 vs objs K

def table_Puto (o : Orc) : Orc := fun f vs objs K => bif Nat.beq f 13 then table_Puta o vs objs K else o f vs objs K

theorem table_Put_ok {vs : List V} {objs : List Obj} (x0 : List Int) (x1 : List Int) (x2 : Int) (x3 : Int) (x4 : Int) (x5 : Int) (x6 : Int) (x7 : Int) (x8 : Int) (x9 : Bool) (x10 : Nat) (x11 : Int) (x12 : Nat) (x13 : List (List Int)) {R : Type} {K : Bool → V → List Obj → Option R} {r : R} (hv : vs = [V.s (S.ptr 0 0 none 0), V.agg [Seg.arr IntKind.i8 81 x0, Seg.arr IntKind.i8 16 x1, Seg.one [S.i IntKind.i8 x2]], V.agg [Seg.one [S.i IntKind.i64 x3, S.i IntKind.i64 x4, S.i IntKind.i64 x5, S.i IntKind.i64 x6, S.i IntKind.i64 x7, S.i IntKind.i64 x8, S.b x9]]]) (ho : objs = [Obj.cells 79 [Seg.one [S.sl 1 0 x10 true, S.i IntKind.i64 x11]], Obj.sli 83 false (Seg.rows kL0 x12 x13)]) (h : ob (table_Put x0 x1 x2 x3 x4 x5 x6 x7 x8 x9 x10 x11 x12 x13) (fun z => K false (V.tup []) ([Obj.cells 79 [Seg.one [S.sl 1 0 (z.1) true, S.i IntKind.i64 (z.2.1)]], Obj.sli 83 false (Seg.rows kL0 (z.2.2.1) (z.2.2.2))])) = some r) :
    ∃ p v objs', K p v objs' = some r ∧ AnyOK Try.prog 13 vs objs p v objs' := by
  subst hv
  subst ho
  obtain ⟨t, h1, h2⟩ := ob_ok h
  refine anyOK_by mixed table_Putc_ok (objs := [Obj.cells 79 [Seg.one [S.sl 1 0 x10 true, S.i IntKind.i64 x11]], Obj.sli 83 false (Seg.rows kL0 x12 x13)]) (fn := Try.f13) (b := (Try.f13).body.getD .skip) (by kernel_rfl) (by kernel_rfl) (by kernel_rfl) (AllP.of (l' := []) (by kernel_rfl) trivial) ((table_Put_eq x0 x1 x2 x3 x4 x5 x6 x7 x8 x9 x10 x11 x12 x13).trans h1) fun v objs' hd => ?_
  unfold table_Putd at hd
  split at hd
  · skip
    have g := (bif_some hd).1
    replace hd := (bif_some hd).2
    obtain rfl := of_decide_eq_true g
    cases hd
    exact h2
  · cases hd

theorem table_Puto_ok (o : Orc) (ho : OSound Try.prog o) : OSound Try.prog (table_Puto o) := by
  intro R f vs objs K r h
  replace h : (bif Nat.beq f 13 then table_Puta o vs objs K else o f vs objs K) = some r := h
  cases hf : Nat.beq f 13 with
  | false => rw [hf] at h; exact ho f vs objs K r h
  | true =>
    rw [hf] at h
    have e := Nat.eq_of_beq_eq_true hf
    subst e
    replace h : table_Puta o vs objs K = some r := h
    unfold table_Puta at h
    split at h
    · skip
      have g := (bif_some h).1
      replace h := (bif_some h).2
      obtain rfl := of_decide_eq_true g
      exact table_Put_ok _ _ _ _ _ _ _ _ _ _ _ _ _ _ rfl rfl h
    · exact ho _ _ _ _ _ h

def table_Getlp : {R : Type} → Nat → List V → List Obj → (Ex → List V → List Obj → Option R) → Option R := fun _ _ _ _ => none

def table_Getoo : Orc := (table_ato oNil)

theorem table_Getoo_ok : OSound Try.prog table_Getoo := (table_ato_ok _ oNil_ok)

def table_Getc : Ctx := { tab := tab, eqs := eqs, bytes := bytes, nt := 28, orc := table_Getoo, keeps := [], lp := table_Getlp }

theorem table_Getc_ok : CtxOK Try.prog table_Getc := ⟨tab_ok, table_Getoo_ok, eqs_ok, bytes_ok⟩

def table_Getd : V → List Obj → Option (Int × Int × Int × Int × Int × Int × Bool × Bool) := fun v objs => match v, objs with
  | V.tup [W.agg [Seg.one [S.i IntKind.i64 y0, S.i IntKind.i64 y1, S.i IntKind.i64 y2, S.i IntKind.i64 y3, S.i IntKind.i64 y4, S.i IntKind.i64 y5, S.b y6]], W.s (S.b y7)], [] => some (y0, y1, y2, y3, y4, y5, y6, y7)
  | _, _ => none

theorem table_Get_eq (x0 : List Int) (x1 : List Int) (x2 : Int) (x3 : Nat) (x4 : Int) (x5 : Nat) (x6 : List (List Int)) : fnE table_Getc Try.f14 ([V.s (S.ptr 0 0 none 0), V.agg [Seg.arr IntKind.i8 81 x0, Seg.arr IntKind.i8 16 x1, Seg.one [S.i IntKind.i8 x2]]]) ([Obj.rcells 79 [Seg.one [S.sl 1 0 x3 true, S.i IntKind.i64 x4]], Obj.sli 83 true (Seg.rows kL0 x5 x6)]) (pureD 2 table_Getd) = table_Get x0 x1 x2 x3 x4 x5 x6 := by kernel_rfl

def table_Geta {R : Type} (o : Orc) (vs : List V) (objs : List Obj) (K : Bool → V → List Obj → Option R) : Option R := match vs, List.map Obj.toRO objs with
  | [V.s (S.ptr 0 0 none 0), V.agg [Seg.arr IntKind.i8 81 x0, Seg.arr IntKind.i8 16 x1, Seg.one [S.i IntKind.i8 x2]]], [Obj.rcells 79 [Seg.one [S.sl 1 0 x3 true, S.i IntKind.i64 x4]], Obj.sli 83 true (Seg.rows kk0 x5 x6)] => bif decide (kk0 = kL0) then ob (table_Get x0 x1 x2 x3 x4 x5 x6) fun z => K true (V.tup [W.agg [Seg.one [S.i IntKind.i64 (z.1), S.i IntKind.i64 (z.2.1), S.i IntKind.i64 (z.2.2.1), S.i IntKind.i64 (z.2.2.2.1), S.i IntKind.i64 (z.2.2.2.2.1), S.i IntKind.i64 (z.2.2.2.2.2.1), S.b (z.2.2.2.2.2.2.1)]], W.s (S.b (z.2.2.2.2.2.2.2))]) ([]) else none
  | _, _ => o 14 vs objs K

def table_Geto (o : Orc) : Orc := fun f vs objs K => bif Nat.beq f 14 then table_Geta o vs objs K else o f vs objs K

theorem table_Get_ok {vs : List V} {objs : List Obj} (x0 : List Int) (x1 : List Int) (x2 : Int) (x3 : Nat) (x4 : Int) (x5 : Nat) (x6 : List (List Int)) {R : Type} {K : Bool → V → List Obj → Option R} {r : R} (hv : vs = [V.s (S.ptr 0 0 none 0), V.agg [Seg.arr IntKind.i8 81 x0, Seg.arr IntKind.i8 16 x1, Seg.one [S.i IntKind.i8 x2]]]) (ho : List.map Obj.toRO objs = [Obj.rcells 79 [Seg.one [S.sl 1 0 x3 true, S.i IntKind.i64 x4]], Obj.sli 83 true (Seg.rows kL0 x5 x6)]) (h : ob (table_Get x0 x1 x2 x3 x4 x5 x6) (fun z => K true (V.tup [W.agg [Seg.one [S.i IntKind.i64 (z.1), S.i IntKind.i64 (z.2.1), S.i IntKind.i64 (z.2.2.1), S.i IntKind.i64 (z.2.2.2.1), S.i IntKind.i64 (z.2.2.2.2.1), S.i IntKind.i64 (z.2.2.2.2.2.1), S.b (z.2.2.2.2.2.2.1)]], W.s (S.b (z.2.2.2.2.2.2.2))]) ([])) = some r) :
    ∃ p v objs', K p v objs' = some r ∧ AnyOK Try.prog 14 vs objs p v objs' := by
  subst hv
  obtain ⟨t, h1, h2⟩ := ob_ok h
  refine purOK_by mixed table_Getc_ok (m := 2) (fn := Try.f14) (b := (Try.f14).body.getD .skip) (by kernel_rfl) (by kernel_rfl) (by kernel_rfl) ho (by kernel_rfl) (by kernel_rfl) (AllP.of (l' := []) (by kernel_rfl) trivial) ((table_Get_eq x0 x1 x2 x3 x4 x5 x6).trans h1) fun v objs' hd => ?_
  unfold table_Getd at hd
  split at hd
  · skip
    cases hd
    exact h2
  · cases hd

theorem table_Geto_ok (o : Orc) (ho : OSound Try.prog o) : OSound Try.prog (table_Geto o) := by
  intro R f vs objs K r h
  replace h : (bif Nat.beq f 14 then table_Geta o vs objs K else o f vs objs K) = some r := h
  cases hf : Nat.beq f 14 with
  | false => rw [hf] at h; exact ho f vs objs K r h
  | true =>
    rw [hf] at h
    have e := Nat.eq_of_beq_eq_true hf
    subst e
    replace h : table_Geta o vs objs K = some r := h
    unfold table_Geta at h
    split at h
    · skip
      have g := (bif_some h).1
      replace h := (bif_some h).2
      obtain rfl := of_decide_eq_true g
      exact table_Get_ok _ _ _ _ _ _ _ rfl (by assumption) h
    · exact ho _ _ _ _ _ h

def table_Lenlp : {R : Type} → Nat → List V → List Obj → (Ex → List V → List Obj → Option R) → Option R := fun _ _ _ _ => none

def table_Lenoo : Orc := oNil

theorem table_Lenoo_ok : OSound Try.prog table_Lenoo := oNil_ok

def table_Lenc : Ctx := { tab := tab, eqs := eqs, bytes := bytes, nt := 7, orc := table_Lenoo, keeps := [], lp := table_Lenlp }

theorem table_Lenc_ok : CtxOK Try.prog table_Lenc := ⟨tab_ok, table_Lenoo_ok, eqs_ok, bytes_ok⟩

def table_Lend : V → List Obj → Option (Int) := fun v objs => match v, objs with
  | V.s (S.i IntKind.i64 y0), [] => some (y0)
  | _, _ => none

theorem table_Len_eq (x0 : Nat) (x1 : Int) (x2 : Nat) (x3 : List (List Int)) : fnE table_Lenc Try.f15 ([V.s (S.ptr 0 0 none 0)]) ([Obj.rcells 79 [Seg.one [S.sl 1 0 x0 true, S.i IntKind.i64 x1]], Obj.sli 83 true (Seg.rows kL0 x2 x3)]) (pureD 2 table_Lend) = table_Len x0 x1 x2 x3 := by kernel_rfl

def table_Lena {R : Type} (o : Orc) (vs : List V) (objs : List Obj) (K : Bool → V → List Obj → Option R) : Option R := match vs, List.map Obj.toRO objs with
  | [V.s (S.ptr 0 0 none 0)], [Obj.rcells 79 [Seg.one [S.sl 1 0 x0 true, S.i IntKind.i64 x1]], Obj.sli 83 true (Seg.rows kk0 x2 x3)] => bif decide (kk0 = kL0) then ob (table_Len x0 x1 x2 x3) fun y0 => K true (V.s (S.i IntKind.i64 y0)) ([]) else none
  | _, _ => o 15 vs objs K

def table_Leno (o : Orc) : Orc := fun f vs objs K => bif Nat.beq f 15 then table_Lena o vs objs K else o f vs objs K

theorem table_Len_ok {vs : List V} {objs : List Obj} (x0 : Nat) (x1 : Int) (x2 : Nat) (x3 : List (List Int)) {R : Type} {K : Bool → V → List Obj → Option R} {r : R} (hv : vs = [V.s (S.ptr 0 0 none 0)]) (ho : List.map Obj.toRO objs = [Obj.rcells 79 [Seg.one [S.sl 1 0 x0 true, S.i IntKind.i64 x1]], Obj.sli 83 true (Seg.rows kL0 x2 x3)]) (h : ob (table_Len x0 x1 x2 x3) (fun y0 => K true (V.s (S.i IntKind.i64 y0)) ([])) = some r) :
    ∃ p v objs', K p v objs' = some r ∧ AnyOK Try.prog 15 vs objs p v objs' := by
  subst hv
  obtain ⟨t, h1, h2⟩ := ob_ok h
  refine purOK_by mixed table_Lenc_ok (m := 2) (fn := Try.f15) (b := (Try.f15).body.getD .skip) (by kernel_rfl) (by kernel_rfl) (by kernel_rfl) ho (by kernel_rfl) (by kernel_rfl) (AllP.of (l' := []) (by kernel_rfl) trivial) ((table_Len_eq x0 x1 x2 x3).trans h1) fun v objs' hd => ?_
  unfold table_Lend at hd
  split at hd
  · skip
    cases hd
    exact h2
  · cases hd

theorem table_Leno_ok (o : Orc) (ho : OSound Try.prog o) : OSound Try.prog (table_Leno o) := by
  intro R f vs objs K r h
  replace h : (bif Nat.beq f 15 then table_Lena o vs objs K else o f vs objs K) = some r := h
  cases hf : Nat.beq f 15 with
  | false => rw [hf] at h; exact ho f vs objs K r h
  | true =>
    rw [hf] at h
    have e := Nat.eq_of_beq_eq_true hf
    subst e
    replace h : table_Lena o vs objs K = some r := h
    unfold table_Lena at h
    split at h
    · skip
      have g := (bif_some h).1
      replace h := (bif_some h).2
      obtain rfl := of_decide_eq_true g
      exact table_Len_ok _ _ _ _ rfl (by assumption) h
    · exact ho _ _ _ _ _ h

def law18_keepslp : {R : Type} → Nat → List V → List Obj → (Ex → List V → List Obj → Option R) → Option R := fun _ _ _ _ => none

def law18_keepsoo : Orc := (table_Leno (table_Geto (table_Puto (board_Starto (table_Newo oNil)))))

theorem law18_keepsoo_ok : OSound Try.prog law18_keepsoo := (table_Leno_ok _ (table_Geto_ok _ (table_Puto_ok _ (board_Starto_ok _ (table_Newo_ok _ oNil_ok)))))

def law18_keepsc : Ctx := { tab := tab, eqs := eqs, bytes := bytes, nt := 57, orc := law18_keepsoo, keeps := [], lp := law18_keepslp }

theorem law18_keepsc_ok : CtxOK Try.prog law18_keepsc := ⟨tab_ok, law18_keepsoo_ok, eqs_ok, bytes_ok⟩

def law18_keepsd : V → List Obj → Option (Bool) := fun v objs => match v, objs with
  | V.s (S.b y0), [] => some (y0)
  | _, _ => none

theorem law18_keeps_eq : fnE law18_keepsc Try.f11 ([]) ([]) law18_keepsd = law18_keeps  := by kernel_rfl

def law18_keepsa {R : Type} (o : Orc) (vs : List V) (objs : List Obj) (K : Bool → V → List Obj → Option R) : Option R := match vs, objs with
  | [], [] => ob (law18_keeps ) fun y0 => K false (V.s (S.b y0)) ([])
  | _, _ => o 11 vs objs K

def law18_keepso (o : Orc) : Orc := fun f vs objs K => bif Nat.beq f 11 then law18_keepsa o vs objs K else o f vs objs K

theorem law18_keeps_ok {vs : List V} {objs : List Obj} {R : Type} {K : Bool → V → List Obj → Option R} {r : R} (hv : vs = []) (ho : objs = []) (h : ob (law18_keeps ) (fun y0 => K false (V.s (S.b y0)) ([])) = some r) :
    ∃ p v objs', K p v objs' = some r ∧ AnyOK Try.prog 11 vs objs p v objs' := by
  subst hv
  subst ho
  obtain ⟨t, h1, h2⟩ := ob_ok h
  refine anyOK_by mixed law18_keepsc_ok (objs := []) (fn := Try.f11) (b := (Try.f11).body.getD .skip) (by kernel_rfl) (by kernel_rfl) (by kernel_rfl) (AllP.of (l' := []) (by kernel_rfl) trivial) ((law18_keeps_eq ).trans h1) fun v objs' hd => ?_
  unfold law18_keepsd at hd
  split at hd
  · skip
    cases hd
    exact h2
  · cases hd

theorem law18_keepso_ok (o : Orc) (ho : OSound Try.prog o) : OSound Try.prog (law18_keepso o) := by
  intro R f vs objs K r h
  replace h : (bif Nat.beq f 11 then law18_keepsa o vs objs K else o f vs objs K) = some r := h
  cases hf : Nat.beq f 11 with
  | false => rw [hf] at h; exact ho f vs objs K r h
  | true =>
    rw [hf] at h
    have e := Nat.eq_of_beq_eq_true hf
    subst e
    replace h : law18_keepsa o vs objs K = some r := h
    unfold law18_keepsa at h
    split at h
    · skip
      exact law18_keeps_ok rfl rfl h
    · exact ho _ _ _ _ _ h

def table_at_v1lp : {R : Type} → Nat → List V → List Obj → (Ex → List V → List Obj → Option R) → Option R := fun _ _ _ _ => none

def table_at_v1oo : Orc := oNil

theorem table_at_v1oo_ok : OSound Try.prog table_at_v1oo := oNil_ok

def table_at_v1c : Ctx := { tab := tab, eqs := eqs, bytes := bytes, nt := 19, orc := table_at_v1oo, keeps := [], lp := table_at_v1lp }

theorem table_at_v1c_ok : CtxOK Try.prog table_at_v1c := ⟨tab_ok, table_at_v1oo_ok, eqs_ok, bytes_ok⟩

def table_at_v1d : V → List Obj → Option (Empty) := fun v objs => match v, objs with
  | _, _ => none

theorem table_at_v1_eq (x0 : List Int) (x1 : List Int) (x2 : Int) : fnE table_at_v1c Try.f31 ([V.s S.nilp, V.agg [Seg.arr IntKind.i8 81 x0, Seg.arr IntKind.i8 16 x1, Seg.one [S.i IntKind.i8 x2]]]) ([]) table_at_v1d = table_at_v1 x0 x1 x2 := by kernel_rfl

def table_at_v1a {R : Type} (o : Orc) (vs : List V) (objs : List Obj) (K : Bool → V → List Obj → Option R) : Option R := match vs, objs with
  | [V.s S.nilp, V.agg [Seg.arr IntKind.i8 81 x0, Seg.arr IntKind.i8 16 x1, Seg.one [S.i IntKind.i8 x2]]], [] => ob (table_at_v1 x0 x1 x2) fun _ => none
  | _, _ => o 31 vs objs K

def table_at_v1o (o : Orc) : Orc := fun f vs objs K => bif Nat.beq f 31 then table_at_v1a o vs objs K else o f vs objs K

theorem table_at_v1_ok {vs : List V} {objs : List Obj} (x0 : List Int) (x1 : List Int) (x2 : Int) {R : Type} {K : Bool → V → List Obj → Option R} {r : R} (hv : vs = [V.s S.nilp, V.agg [Seg.arr IntKind.i8 81 x0, Seg.arr IntKind.i8 16 x1, Seg.one [S.i IntKind.i8 x2]]]) (ho : objs = []) (h : ob (table_at_v1 x0 x1 x2) (fun _ => none) = some r) :
    ∃ p v objs', K p v objs' = some r ∧ AnyOK Try.prog 31 vs objs p v objs' := by
  subst hv
  subst ho
  obtain ⟨t, h1, h2⟩ := ob_ok h
  refine anyOK_by mixed table_at_v1c_ok (objs := []) (fn := Try.f31) (b := (Try.f31).body.getD .skip) (by kernel_rfl) (by kernel_rfl) (by kernel_rfl) (AllP.of (l' := []) (by kernel_rfl) trivial) ((table_at_v1_eq x0 x1 x2).trans h1) fun v objs' hd => ?_
  unfold table_at_v1d at hd
  split at hd
  · cases hd

theorem table_at_v1o_ok (o : Orc) (ho : OSound Try.prog o) : OSound Try.prog (table_at_v1o o) := by
  intro R f vs objs K r h
  replace h : (bif Nat.beq f 31 then table_at_v1a o vs objs K else o f vs objs K) = some r := h
  cases hf : Nat.beq f 31 with
  | false => rw [hf] at h; exact ho f vs objs K r h
  | true =>
    rw [hf] at h
    have e := Nat.eq_of_beq_eq_true hf
    subst e
    replace h : table_at_v1a o vs objs K = some r := h
    unfold table_at_v1a at h
    split at h
    · skip
      exact table_at_v1_ok _ _ _ rfl rfl h
    · exact ho _ _ _ _ _ h

def table_Put_v1lp : {R : Type} → Nat → List V → List Obj → (Ex → List V → List Obj → Option R) → Option R := fun _ _ _ _ => none

def table_Put_v1oo : Orc := (table_at_v1o oNil)

theorem table_Put_v1oo_ok : OSound Try.prog table_Put_v1oo := (table_at_v1o_ok _ oNil_ok)

def table_Put_v1c : Ctx := { tab := tab, eqs := eqs, bytes := bytes, nt := 27, orc := table_Put_v1oo, keeps := [], lp := table_Put_v1lp }

theorem table_Put_v1c_ok : CtxOK Try.prog table_Put_v1c := ⟨tab_ok, table_Put_v1oo_ok, eqs_ok, bytes_ok⟩

def table_Put_v1d : V → List Obj → Option (Empty) := fun v objs => match v, objs with
  | _, _ => none

theorem table_Put_v1_eq (x0 : List Int) (x1 : List Int) (x2 : Int) (x3 : Int) (x4 : Int) (x5 : Int) (x6 : Int) (x7 : Int) (x8 : Int) (x9 : Bool) : fnE table_Put_v1c Try.f13 ([V.s S.nilp, V.agg [Seg.arr IntKind.i8 81 x0, Seg.arr IntKind.i8 16 x1, Seg.one [S.i IntKind.i8 x2]], V.agg [Seg.one [S.i IntKind.i64 x3, S.i IntKind.i64 x4, S.i IntKind.i64 x5, S.i IntKind.i64 x6, S.i IntKind.i64 x7, S.i IntKind.i64 x8, S.b x9]]]) ([]) table_Put_v1d = table_Put_v1 x0 x1 x2 x3 x4 x5 x6 x7 x8 x9 := by kernel_rfl

def table_Put_v1a {R : Type} (o : Orc) (vs : List V) (objs : List Obj) (K : Bool → V → List Obj → Option R) : Option R := match vs, objs with
  | [V.s S.nilp, V.agg [Seg.arr IntKind.i8 81 x0, Seg.arr IntKind.i8 16 x1, Seg.one [S.i IntKind.i8 x2]], V.agg [Seg.one [S.i IntKind.i64 x3, S.i IntKind.i64 x4, S.i IntKind.i64 x5, S.i IntKind.i64 x6, S.i IntKind.i64 x7, S.i IntKind.i64 x8, S.b x9]]], [] => ob (table_Put_v1 x0 x1 x2 x3 x4 x5 x6 x7 x8 x9) fun _ => none
  | _, _ => o 13 vs objs K

def table_Put_v1o (o : Orc) : Orc := fun f vs objs K => bif Nat.beq f 13 then table_Put_v1a o vs objs K else o f vs objs K

theorem table_Put_v1_ok {vs : List V} {objs : List Obj} (x0 : List Int) (x1 : List Int) (x2 : Int) (x3 : Int) (x4 : Int) (x5 : Int) (x6 : Int) (x7 : Int) (x8 : Int) (x9 : Bool) {R : Type} {K : Bool → V → List Obj → Option R} {r : R} (hv : vs = [V.s S.nilp, V.agg [Seg.arr IntKind.i8 81 x0, Seg.arr IntKind.i8 16 x1, Seg.one [S.i IntKind.i8 x2]], V.agg [Seg.one [S.i IntKind.i64 x3, S.i IntKind.i64 x4, S.i IntKind.i64 x5, S.i IntKind.i64 x6, S.i IntKind.i64 x7, S.i IntKind.i64 x8, S.b x9]]]) (ho : objs = []) (h : ob (table_Put_v1 x0 x1 x2 x3 x4 x5 x6 x7 x8 x9) (fun _ => none) = some r) :
    ∃ p v objs', K p v objs' = some r ∧ AnyOK Try.prog 13 vs objs p v objs' := by
  subst hv
  subst ho
  obtain ⟨t, h1, h2⟩ := ob_ok h
  refine anyOK_by mixed table_Put_v1c_ok (objs := []) (fn := Try.f13) (b := (Try.f13).body.getD .skip) (by kernel_rfl) (by kernel_rfl) (by kernel_rfl) (AllP.of (l' := []) (by kernel_rfl) trivial) ((table_Put_v1_eq x0 x1 x2 x3 x4 x5 x6 x7 x8 x9).trans h1) fun v objs' hd => ?_
  unfold table_Put_v1d at hd
  split at hd
  · cases hd

theorem table_Put_v1o_ok (o : Orc) (ho : OSound Try.prog o) : OSound Try.prog (table_Put_v1o o) := by
  intro R f vs objs K r h
  replace h : (bif Nat.beq f 13 then table_Put_v1a o vs objs K else o f vs objs K) = some r := h
  cases hf : Nat.beq f 13 with
  | false => rw [hf] at h; exact ho f vs objs K r h
  | true =>
    rw [hf] at h
    have e := Nat.eq_of_beq_eq_true hf
    subst e
    replace h : table_Put_v1a o vs objs K = some r := h
    unfold table_Put_v1a at h
    split at h
    · skip
      exact table_Put_v1_ok _ _ _ _ _ _ _ _ _ _ rfl rfl h
    · exact ho _ _ _ _ _ h

def law18_TableRooml7d : Ex → List V → List Obj → Option (Nat × List (List Int)) := fun e vs objs => match e, vs, objs with
  | Ex.exit 0, [V.s S.bad], [Obj.sli 34 true (Seg.rows kk0 y0 y1)] => bif decide (kk0 = kL1) then some (y0, y1) else none
  | _, _, _ => none

def law18_TableRooml16d : Ex → List V → List Obj → Option ((Nat × Nat × Bool × Nat × Nat × Int × Int × Nat × List (List Int) × Nat × Int × Nat × List (List Int)) ⊕ (Nat × Nat × Nat × Nat × Int × Int × Nat × List (List Int) × Nat × Int × Nat × List (List Int))) := fun e vs objs => match e, vs, objs with
  | Ex.ret, [V.s (S.sl 0 y0 y1 false), V.s (S.b y2), V.s (S.ptr 1 0 none 0), V.s (S.sl 0 y3 y4 false), V.s (S.i IntKind.i64 y5), V.s (S.i IntKind.i64 y6)], [Obj.sli 34 true (Seg.rows kk0 y7 y8), Obj.cells 79 [Seg.one [S.sl 2 0 y9 true, S.i IntKind.i64 y10]], Obj.sli 83 false (Seg.rows kk1 y11 y12)] => bif decide (kk0 = kL1) then bif decide (kk1 = kL0) then some (Sum.inl (y0, y1, y2, y3, y4, y5, y6, y7, y8, y9, y10, y11, y12)) else none else none
  | Ex.exit 2, [V.s (S.sl 0 y0 y1 false), V.s S.bad, V.s (S.ptr 1 0 none 0), V.s (S.sl 0 y2 y3 false), V.s (S.i IntKind.i64 y4), V.s (S.i IntKind.i64 y5)], [Obj.sli 34 true (Seg.rows kk0 y6 y7), Obj.cells 79 [Seg.one [S.sl 2 0 y8 true, S.i IntKind.i64 y9]], Obj.sli 83 false (Seg.rows kk1 y10 y11)] => bif decide (kk0 = kL1) then bif decide (kk1 = kL0) then some (Sum.inr (y0, y1, y2, y3, y4, y5, y6, y7, y8, y9, y10, y11)) else none else none
  | _, _, _ => none

def law18_TableRooml7v1d : Ex → List V → List Obj → Option ((Bool × Nat × List (List Int)) ⊕ (Nat × List (List Int))) := fun e vs objs => match e, vs, objs with
  | Ex.ret, [V.s (S.b y0)], [Obj.sli 34 true (Seg.rows kk0 y1 y2)] => bif decide (kk0 = kL1) then some (Sum.inl (y0, y1, y2)) else none
  | Ex.exit 0, [V.s S.bad], [Obj.sli 34 true (Seg.rows kk0 y0 y1)] => bif decide (kk0 = kL1) then some (Sum.inr (y0, y1)) else none
  | _, _, _ => none

def law18_TableRoomp7 {R : Type} (vs : List V) (objs : List Obj) (K : Ex → List V → List Obj → Option R) : Option R := match vs, objs with
  | [V.s (S.sl 0 x0 x1 false), V.s S.nilp, V.s (S.sl 0 x2 x3 false), V.s (S.i IntKind.i64 x4), V.s (S.i IntKind.i64 x5)], [Obj.sli 34 true (Seg.rows kk0 x6 x7)] => bif decide (kk0 = kL1) then ob (law18_TableRooml7 many x0 x1 x2 x3 x4 x5 x6 x7) fun z => K (Ex.exit 0) ([V.s S.bad]) ([Obj.sli 34 true (Seg.rows kL1 (z.1) (z.2))]) else none
  | [V.s (S.sl 0 x0 x1 false), V.s (S.ptr 1 0 none 0), V.s (S.sl 0 x2 x3 false), V.s (S.i IntKind.i64 x4), V.s (S.i IntKind.i64 x5)], [Obj.sli 34 true (Seg.rows kk0 x6 x7), Obj.cells 79 [Seg.one [S.sl 2 0 x8 true, S.i IntKind.i64 x9]], Obj.sli 83 false (Seg.rows kk1 x10 x11)] => bif decide (kk0 = kL1) then bif decide (kk1 = kL0) then ob (law18_TableRooml7v1 many x0 x1 x2 x3 x4 x5 x6 x7 x8 x9 x10 x11) fun t0 => sw t0 (fun z => K (Ex.ret) ([V.s (S.b (z.1))]) ([Obj.sli 34 true (Seg.rows kL1 (z.2.1) (z.2.2))])) (fun z => K (Ex.exit 0) ([V.s S.bad]) ([Obj.sli 34 true (Seg.rows kL1 (z.1) (z.2))])) else none else none
  | _, _ => none

def law18_TableRoomp16 {R : Type} (vs : List V) (objs : List Obj) (K : Ex → List V → List Obj → Option R) : Option R := match vs, objs with
  | [V.s (S.sl 0 x0 x1 false), V.s (S.ptr 1 0 none 0), V.s (S.ptr 2 0 none 0), V.s (S.sl 0 x2 x3 false), V.s (S.i IntKind.i64 x4), V.s (S.i IntKind.i64 x5), V.s (S.sl 0 x6 x7 false), V.s (S.i IntKind.i64 x8), V.s (S.i IntKind.i64 x9)], [Obj.sli 34 true (Seg.rows kk0 x10 x11), Obj.cells 79 [Seg.one [S.sl 3 0 x12 true, S.i IntKind.i64 x13]], Obj.cells 34 [Seg.arr IntKind.i8 81 x14, Seg.arr IntKind.i8 16 x15, Seg.one [S.i IntKind.i8 x16]], Obj.sli 83 false (Seg.rows kk1 x17 x18)] => bif decide (kk0 = kL1) then bif decide (kk1 = kL0) then ob (law18_TableRooml16 many x0 x1 x2 x3 x4 x5 x6 x7 x8 x9 x10 x11 x12 x13 x14 x15 x16 x17 x18) fun t0 => sw t0 (fun z => K (Ex.ret) ([V.s (S.sl 0 (z.1) (z.2.1) false), V.s (S.b (z.2.2.1)), V.s (S.ptr 1 0 none 0), V.s (S.sl 0 (z.2.2.2.1) (z.2.2.2.2.1) false), V.s (S.i IntKind.i64 (z.2.2.2.2.2.1)), V.s (S.i IntKind.i64 (z.2.2.2.2.2.2.1))]) ([Obj.sli 34 true (Seg.rows kL1 (z.2.2.2.2.2.2.2.1) (z.2.2.2.2.2.2.2.2.1)), Obj.cells 79 [Seg.one [S.sl 2 0 (z.2.2.2.2.2.2.2.2.2.1) true, S.i IntKind.i64 (z.2.2.2.2.2.2.2.2.2.2.1)]], Obj.sli 83 false (Seg.rows kL0 (z.2.2.2.2.2.2.2.2.2.2.2.1) (z.2.2.2.2.2.2.2.2.2.2.2.2))])) (fun z => K (Ex.exit 2) ([V.s (S.sl 0 (z.1) (z.2.1) false), V.s S.bad, V.s (S.ptr 1 0 none 0), V.s (S.sl 0 (z.2.2.1) (z.2.2.2.1) false), V.s (S.i IntKind.i64 (z.2.2.2.2.1)), V.s (S.i IntKind.i64 (z.2.2.2.2.2.1))]) ([Obj.sli 34 true (Seg.rows kL1 (z.2.2.2.2.2.2.1) (z.2.2.2.2.2.2.2.1)), Obj.cells 79 [Seg.one [S.sl 2 0 (z.2.2.2.2.2.2.2.2.1) true, S.i IntKind.i64 (z.2.2.2.2.2.2.2.2.2.1)]], Obj.sli 83 false (Seg.rows kL0 (z.2.2.2.2.2.2.2.2.2.2.1) (z.2.2.2.2.2.2.2.2.2.2.2))])) else none else none
  | _, _ => none

def law18_TableRoomlp : {R : Type} → Nat → List V → List Obj → (Ex → List V → List Obj → Option R) → Option R := fun q vs objs K => bif Nat.beq q 7 then law18_TableRoomp7 vs objs K else bif Nat.beq q 16 then law18_TableRoomp16 vs objs K else none

def law18_TableRoomoo : Orc := (table_Leno (table_Geto (table_Puto (table_Put_v1o (table_Newo (law18_keepso oNil))))))

theorem law18_TableRoomoo_ok : OSound Try.prog law18_TableRoomoo := (table_Leno_ok _ (table_Geto_ok _ (table_Puto_ok _ (table_Put_v1o_ok _ (table_Newo_ok _ (law18_keepso_ok _ oNil_ok))))))

def law18_TableRoomc : Ctx := { tab := tab, eqs := eqs, bytes := bytes, nt := 87, orc := law18_TableRoomoo, keeps := [(7, [0, 3, 24, 25, 26], [2]), (16, [0, 3, 6, 24, 25, 26, 68, 69, 70], [0, 2, 3, 24, 25, 26])], lp := law18_TableRoomlp }

theorem law18_TableRoomc_ok : CtxOK Try.prog law18_TableRoomc := ⟨tab_ok, law18_TableRoomoo_ok, eqs_ok, bytes_ok⟩

theorem law18_TableRooml7_step (f : Nat) (x0 : Nat) (x1 : Nat) (x2 : Nat) (x3 : Nat) (x4 : Int) (x5 : Int) (x6 : Nat) (x7 : List (List Int)) : lrun law18_TableRoomc 1 [0, 3, 24, 25, 26] [2] (loopOf Try.f3 7) (f + 1) ([V.s (S.sl 0 x0 x1 false), V.s S.nilp, V.s (S.sl 0 x2 x3 false), V.s (S.i IntKind.i64 x4), V.s (S.i IntKind.i64 x5)]) ([Obj.sli 34 true (Seg.rows kL1 x6 x7)]) law18_TableRooml7d = law18_TableRooml7s (fun x0 x1 x2 x3 x4 x5 x6 x7 => lrun law18_TableRoomc 1 [0, 3, 24, 25, 26] [2] (loopOf Try.f3 7) f ([V.s (S.sl 0 x0 x1 false), V.s S.nilp, V.s (S.sl 0 x2 x3 false), V.s (S.i IntKind.i64 x4), V.s (S.i IntKind.i64 x5)]) ([Obj.sli 34 true (Seg.rows kL1 x6 x7)]) law18_TableRooml7d) x0 x1 x2 x3 x4 x5 x6 x7 := by kernel_rfl

theorem law18_TableRooml7_eq (f : Nat) : ∀ (x0 : Nat) (x1 : Nat) (x2 : Nat) (x3 : Nat) (x4 : Int) (x5 : Int) (x6 : Nat) (x7 : List (List Int)), lrun law18_TableRoomc 1 [0, 3, 24, 25, 26] [2] (loopOf Try.f3 7) f ([V.s (S.sl 0 x0 x1 false), V.s S.nilp, V.s (S.sl 0 x2 x3 false), V.s (S.i IntKind.i64 x4), V.s (S.i IntKind.i64 x5)]) ([Obj.sli 34 true (Seg.rows kL1 x6 x7)]) law18_TableRooml7d = law18_TableRooml7 f x0 x1 x2 x3 x4 x5 x6 x7 := by
  induction f with
  | zero => intros; rfl
  | succ f ih =>
    intro x0 x1 x2 x3 x4 x5 x6 x7
    rw [law18_TableRooml7_step]
    have e : (fun x0 x1 x2 x3 x4 x5 x6 x7 => lrun law18_TableRoomc 1 [0, 3, 24, 25, 26] [2] (loopOf Try.f3 7) f ([V.s (S.sl 0 x0 x1 false), V.s S.nilp, V.s (S.sl 0 x2 x3 false), V.s (S.i IntKind.i64 x4), V.s (S.i IntKind.i64 x5)]) ([Obj.sli 34 true (Seg.rows kL1 x6 x7)]) law18_TableRooml7d) = law18_TableRooml7 f := by
      funext x0 x1 x2 x3 x4 x5 x6 x7
      exact ih x0 x1 x2 x3 x4 x5 x6 x7
    rw [e]
    rfl

theorem law18_TableRooml16_step (f : Nat) (x0 : Nat) (x1 : Nat) (x2 : Nat) (x3 : Nat) (x4 : Int) (x5 : Int) (x6 : Nat) (x7 : Nat) (x8 : Int) (x9 : Int) (x10 : Nat) (x11 : List (List Int)) (x12 : Nat) (x13 : Int) (x14 : List Int) (x15 : List Int) (x16 : Int) (x17 : Nat) (x18 : List (List Int)) : lrun law18_TableRoomc 1 [0, 3, 6, 24, 25, 26, 68, 69, 70] [0, 2, 3, 24, 25, 26] (loopOf Try.f3 16) (f + 1) ([V.s (S.sl 0 x0 x1 false), V.s (S.ptr 1 0 none 0), V.s (S.ptr 2 0 none 0), V.s (S.sl 0 x2 x3 false), V.s (S.i IntKind.i64 x4), V.s (S.i IntKind.i64 x5), V.s (S.sl 0 x6 x7 false), V.s (S.i IntKind.i64 x8), V.s (S.i IntKind.i64 x9)]) ([Obj.sli 34 true (Seg.rows kL1 x10 x11), Obj.cells 79 [Seg.one [S.sl 3 0 x12 true, S.i IntKind.i64 x13]], Obj.cells 34 [Seg.arr IntKind.i8 81 x14, Seg.arr IntKind.i8 16 x15, Seg.one [S.i IntKind.i8 x16]], Obj.sli 83 false (Seg.rows kL0 x17 x18)]) law18_TableRooml16d = law18_TableRooml16s (fun x0 x1 x2 x3 x4 x5 x6 x7 x8 x9 x10 x11 x12 x13 x14 x15 x16 x17 x18 => lrun law18_TableRoomc 1 [0, 3, 6, 24, 25, 26, 68, 69, 70] [0, 2, 3, 24, 25, 26] (loopOf Try.f3 16) f ([V.s (S.sl 0 x0 x1 false), V.s (S.ptr 1 0 none 0), V.s (S.ptr 2 0 none 0), V.s (S.sl 0 x2 x3 false), V.s (S.i IntKind.i64 x4), V.s (S.i IntKind.i64 x5), V.s (S.sl 0 x6 x7 false), V.s (S.i IntKind.i64 x8), V.s (S.i IntKind.i64 x9)]) ([Obj.sli 34 true (Seg.rows kL1 x10 x11), Obj.cells 79 [Seg.one [S.sl 3 0 x12 true, S.i IntKind.i64 x13]], Obj.cells 34 [Seg.arr IntKind.i8 81 x14, Seg.arr IntKind.i8 16 x15, Seg.one [S.i IntKind.i8 x16]], Obj.sli 83 false (Seg.rows kL0 x17 x18)]) law18_TableRooml16d) x0 x1 x2 x3 x4 x5 x6 x7 x8 x9 x10 x11 x12 x13 x14 x15 x16 x17 x18 := by kernel_rfl

theorem law18_TableRooml16_eq (f : Nat) : ∀ (x0 : Nat) (x1 : Nat) (x2 : Nat) (x3 : Nat) (x4 : Int) (x5 : Int) (x6 : Nat) (x7 : Nat) (x8 : Int) (x9 : Int) (x10 : Nat) (x11 : List (List Int)) (x12 : Nat) (x13 : Int) (x14 : List Int) (x15 : List Int) (x16 : Int) (x17 : Nat) (x18 : List (List Int)), lrun law18_TableRoomc 1 [0, 3, 6, 24, 25, 26, 68, 69, 70] [0, 2, 3, 24, 25, 26] (loopOf Try.f3 16) f ([V.s (S.sl 0 x0 x1 false), V.s (S.ptr 1 0 none 0), V.s (S.ptr 2 0 none 0), V.s (S.sl 0 x2 x3 false), V.s (S.i IntKind.i64 x4), V.s (S.i IntKind.i64 x5), V.s (S.sl 0 x6 x7 false), V.s (S.i IntKind.i64 x8), V.s (S.i IntKind.i64 x9)]) ([Obj.sli 34 true (Seg.rows kL1 x10 x11), Obj.cells 79 [Seg.one [S.sl 3 0 x12 true, S.i IntKind.i64 x13]], Obj.cells 34 [Seg.arr IntKind.i8 81 x14, Seg.arr IntKind.i8 16 x15, Seg.one [S.i IntKind.i8 x16]], Obj.sli 83 false (Seg.rows kL0 x17 x18)]) law18_TableRooml16d = law18_TableRooml16 f x0 x1 x2 x3 x4 x5 x6 x7 x8 x9 x10 x11 x12 x13 x14 x15 x16 x17 x18 := by
  induction f with
  | zero => intros; rfl
  | succ f ih =>
    intro x0 x1 x2 x3 x4 x5 x6 x7 x8 x9 x10 x11 x12 x13 x14 x15 x16 x17 x18
    rw [law18_TableRooml16_step]
    have e : (fun x0 x1 x2 x3 x4 x5 x6 x7 x8 x9 x10 x11 x12 x13 x14 x15 x16 x17 x18 => lrun law18_TableRoomc 1 [0, 3, 6, 24, 25, 26, 68, 69, 70] [0, 2, 3, 24, 25, 26] (loopOf Try.f3 16) f ([V.s (S.sl 0 x0 x1 false), V.s (S.ptr 1 0 none 0), V.s (S.ptr 2 0 none 0), V.s (S.sl 0 x2 x3 false), V.s (S.i IntKind.i64 x4), V.s (S.i IntKind.i64 x5), V.s (S.sl 0 x6 x7 false), V.s (S.i IntKind.i64 x8), V.s (S.i IntKind.i64 x9)]) ([Obj.sli 34 true (Seg.rows kL1 x10 x11), Obj.cells 79 [Seg.one [S.sl 3 0 x12 true, S.i IntKind.i64 x13]], Obj.cells 34 [Seg.arr IntKind.i8 81 x14, Seg.arr IntKind.i8 16 x15, Seg.one [S.i IntKind.i8 x16]], Obj.sli 83 false (Seg.rows kL0 x17 x18)]) law18_TableRooml16d) = law18_TableRooml16 f := by
      funext x0 x1 x2 x3 x4 x5 x6 x7 x8 x9 x10 x11 x12 x13 x14 x15 x16 x17 x18
      exact ih x0 x1 x2 x3 x4 x5 x6 x7 x8 x9 x10 x11 x12 x13 x14 x15 x16 x17 x18
    rw [e]
    rfl

theorem law18_TableRooml7v1_step (f : Nat) (x0 : Nat) (x1 : Nat) (x2 : Nat) (x3 : Nat) (x4 : Int) (x5 : Int) (x6 : Nat) (x7 : List (List Int)) (x8 : Nat) (x9 : Int) (x10 : Nat) (x11 : List (List Int)) : lrun law18_TableRoomc 1 [0, 3, 24, 25, 26] [2] (loopOf Try.f3 7) (f + 1) ([V.s (S.sl 0 x0 x1 false), V.s (S.ptr 1 0 none 0), V.s (S.sl 0 x2 x3 false), V.s (S.i IntKind.i64 x4), V.s (S.i IntKind.i64 x5)]) ([Obj.sli 34 true (Seg.rows kL1 x6 x7), Obj.cells 79 [Seg.one [S.sl 2 0 x8 true, S.i IntKind.i64 x9]], Obj.sli 83 false (Seg.rows kL0 x10 x11)]) law18_TableRooml7v1d = law18_TableRooml7v1s (fun x0 x1 x2 x3 x4 x5 x6 x7 x8 x9 x10 x11 => lrun law18_TableRoomc 1 [0, 3, 24, 25, 26] [2] (loopOf Try.f3 7) f ([V.s (S.sl 0 x0 x1 false), V.s (S.ptr 1 0 none 0), V.s (S.sl 0 x2 x3 false), V.s (S.i IntKind.i64 x4), V.s (S.i IntKind.i64 x5)]) ([Obj.sli 34 true (Seg.rows kL1 x6 x7), Obj.cells 79 [Seg.one [S.sl 2 0 x8 true, S.i IntKind.i64 x9]], Obj.sli 83 false (Seg.rows kL0 x10 x11)]) law18_TableRooml7v1d) x0 x1 x2 x3 x4 x5 x6 x7 x8 x9 x10 x11 := by kernel_rfl

theorem law18_TableRooml7v1_eq (f : Nat) : ∀ (x0 : Nat) (x1 : Nat) (x2 : Nat) (x3 : Nat) (x4 : Int) (x5 : Int) (x6 : Nat) (x7 : List (List Int)) (x8 : Nat) (x9 : Int) (x10 : Nat) (x11 : List (List Int)), lrun law18_TableRoomc 1 [0, 3, 24, 25, 26] [2] (loopOf Try.f3 7) f ([V.s (S.sl 0 x0 x1 false), V.s (S.ptr 1 0 none 0), V.s (S.sl 0 x2 x3 false), V.s (S.i IntKind.i64 x4), V.s (S.i IntKind.i64 x5)]) ([Obj.sli 34 true (Seg.rows kL1 x6 x7), Obj.cells 79 [Seg.one [S.sl 2 0 x8 true, S.i IntKind.i64 x9]], Obj.sli 83 false (Seg.rows kL0 x10 x11)]) law18_TableRooml7v1d = law18_TableRooml7v1 f x0 x1 x2 x3 x4 x5 x6 x7 x8 x9 x10 x11 := by
  induction f with
  | zero => intros; rfl
  | succ f ih =>
    intro x0 x1 x2 x3 x4 x5 x6 x7 x8 x9 x10 x11
    rw [law18_TableRooml7v1_step]
    have e : (fun x0 x1 x2 x3 x4 x5 x6 x7 x8 x9 x10 x11 => lrun law18_TableRoomc 1 [0, 3, 24, 25, 26] [2] (loopOf Try.f3 7) f ([V.s (S.sl 0 x0 x1 false), V.s (S.ptr 1 0 none 0), V.s (S.sl 0 x2 x3 false), V.s (S.i IntKind.i64 x4), V.s (S.i IntKind.i64 x5)]) ([Obj.sli 34 true (Seg.rows kL1 x6 x7), Obj.cells 79 [Seg.one [S.sl 2 0 x8 true, S.i IntKind.i64 x9]], Obj.sli 83 false (Seg.rows kL0 x10 x11)]) law18_TableRooml7v1d) = law18_TableRooml7v1 f := by
      funext x0 x1 x2 x3 x4 x5 x6 x7 x8 x9 x10 x11
      exact ih x0 x1 x2 x3 x4 x5 x6 x7 x8 x9 x10 x11
    rw [e]
    rfl

theorem law18_TableRooms16 : LoopSound Try.prog law18_TableRoomc 1 (loopOf Try.f3 16) :=
  loopSound_by mixed law18_TableRoomc_ok (AllP.of (l' := []) (by kernel_rfl) trivial) (q := 16) (kin := [0, 3, 6, 24, 25, 26, 68, 69, 70]) (kout := [0, 2, 3, 24, 25, 26]) (by kernel_rfl) (by kernel_rfl) fun vs objs K r h => by
    replace h : law18_TableRoomp16 vs objs K = some r := h
    unfold law18_TableRoomp16 at h
    split at h
    · skip
      have g := (bif_some h).1
      replace h := (bif_some h).2
      obtain rfl := of_decide_eq_true g
      have g := (bif_some h).1
      replace h := (bif_some h).2
      obtain rfl := of_decide_eq_true g
      obtain ⟨t, h1, h2⟩ := ob_ok h
      refine ⟨_, law18_TableRooml16d, t, many, (law18_TableRooml16_eq many _ _ _ _ _ _ _ _ _ _ _ _ _ _ _ _ _ _ _).trans h1, fun e vs' objs' hd => ?_⟩
      unfold law18_TableRooml16d at hd
      split at hd
      · skip
        have g := (bif_some hd).1
        replace hd := (bif_some hd).2
        obtain rfl := of_decide_eq_true g
        have g := (bif_some hd).1
        replace hd := (bif_some hd).2
        obtain rfl := of_decide_eq_true g
        cases hd
        exact h2
      · skip
        have g := (bif_some hd).1
        replace hd := (bif_some hd).2
        obtain rfl := of_decide_eq_true g
        have g := (bif_some hd).1
        replace hd := (bif_some hd).2
        obtain rfl := of_decide_eq_true g
        cases hd
        exact h2
      · cases hd
    · cases h

theorem law18_TableRooms7 : LoopSound Try.prog law18_TableRoomc 1 (loopOf Try.f3 7) :=
  loopSound_by mixed law18_TableRoomc_ok (AllP.of (l' := [loopOf Try.f3 16]) (by kernel_rfl) ⟨law18_TableRooms16, trivial⟩) (q := 7) (kin := [0, 3, 24, 25, 26]) (kout := [2]) (by kernel_rfl) (by kernel_rfl) fun vs objs K r h => by
    replace h : law18_TableRoomp7 vs objs K = some r := h
    unfold law18_TableRoomp7 at h
    split at h
    · skip
      have g := (bif_some h).1
      replace h := (bif_some h).2
      obtain rfl := of_decide_eq_true g
      obtain ⟨t, h1, h2⟩ := ob_ok h
      refine ⟨_, law18_TableRooml7d, t, many, (law18_TableRooml7_eq many _ _ _ _ _ _ _ _).trans h1, fun e vs' objs' hd => ?_⟩
      unfold law18_TableRooml7d at hd
      split at hd
      · skip
        have g := (bif_some hd).1
        replace hd := (bif_some hd).2
        obtain rfl := of_decide_eq_true g
        cases hd
        exact h2
      · cases hd
    · skip
      have g := (bif_some h).1
      replace h := (bif_some h).2
      obtain rfl := of_decide_eq_true g
      have g := (bif_some h).1
      replace h := (bif_some h).2
      obtain rfl := of_decide_eq_true g
      obtain ⟨t, h1, h2⟩ := ob_ok h
      refine ⟨_, law18_TableRooml7v1d, t, many, (law18_TableRooml7v1_eq many _ _ _ _ _ _ _ _ _ _ _ _).trans h1, fun e vs' objs' hd => ?_⟩
      unfold law18_TableRooml7v1d at hd
      split at hd
      · skip
        have g := (bif_some hd).1
        replace hd := (bif_some hd).2
        obtain rfl := of_decide_eq_true g
        cases hd
        exact h2
      · skip
        have g := (bif_some hd).1
        replace hd := (bif_some hd).2
        obtain rfl := of_decide_eq_true g
        cases hd
        exact h2
      · cases hd
    · cases h

def law18_TableRoomd : V → List Obj → Option (Bool) := fun v objs => match v, objs with
  | V.s (S.b y0), [] => some (y0)
  | _, _ => none

theorem law18_TableRoom_eq (x0 : Nat) (x1 : Nat) (x2 : Nat) (x3 : List (List Int)) : fnE law18_TableRoomc Try.f3 ([V.s (S.sl 0 x0 x1 false)]) ([Obj.sli 34 true (Seg.rows kL1 x2 x3)]) (pureD 1 law18_TableRoomd) = law18_TableRoom x0 x1 x2 x3 := by kernel_rfl

def law18_TableRooma {R : Type} (o : Orc) (vs : List V) (objs : List Obj) (K : Bool → V → List Obj → Option R) : Option R := match vs, List.map Obj.toRO objs with
  | [V.s (S.sl 0 x0 x1 false)], [Obj.sli 34 true (Seg.rows kk0 x2 x3)] => bif decide (kk0 = kL1) then ob (law18_TableRoom x0 x1 x2 x3) fun y0 => K true (V.s (S.b y0)) ([]) else none
  | _, _ => o 3 vs objs K

def law18_TableRoomo (o : Orc) : Orc := fun f vs objs K => bif Nat.beq f 3 then law18_TableRooma o vs objs K else o f vs objs K

theorem law18_TableRoom_ok {vs : List V} {objs : List Obj} (x0 : Nat) (x1 : Nat) (x2 : Nat) (x3 : List (List Int)) {R : Type} {K : Bool → V → List Obj → Option R} {r : R} (hv : vs = [V.s (S.sl 0 x0 x1 false)]) (ho : List.map Obj.toRO objs = [Obj.sli 34 true (Seg.rows kL1 x2 x3)]) (h : ob (law18_TableRoom x0 x1 x2 x3) (fun y0 => K true (V.s (S.b y0)) ([])) = some r) :
    ∃ p v objs', K p v objs' = some r ∧ AnyOK Try.prog 3 vs objs p v objs' := by
  subst hv
  obtain ⟨t, h1, h2⟩ := ob_ok h
  refine purOK_by mixed law18_TableRoomc_ok (m := 1) (fn := Try.f3) (b := (Try.f3).body.getD .skip) (by kernel_rfl) (by kernel_rfl) (by kernel_rfl) ho (by kernel_rfl) (by kernel_rfl) (AllP.of (l' := [loopOf Try.f3 7]) (by kernel_rfl) ⟨law18_TableRooms7, trivial⟩) ((law18_TableRoom_eq x0 x1 x2 x3).trans h1) fun v objs' hd => ?_
  unfold law18_TableRoomd at hd
  split at hd
  · skip
    cases hd
    exact h2
  · cases hd

theorem law18_TableRoomo_ok (o : Orc) (ho : OSound Try.prog o) : OSound Try.prog (law18_TableRoomo o) := by
  intro R f vs objs K r h
  replace h : (bif Nat.beq f 3 then law18_TableRooma o vs objs K else o f vs objs K) = some r := h
  cases hf : Nat.beq f 3 with
  | false => rw [hf] at h; exact ho f vs objs K r h
  | true =>
    rw [hf] at h
    have e := Nat.eq_of_beq_eq_true hf
    subst e
    replace h : law18_TableRooma o vs objs K = some r := h
    unfold law18_TableRooma at h
    split at h
    · skip
      have g := (bif_some h).1
      replace h := (bif_some h).2
      obtain rfl := of_decide_eq_true g
      exact law18_TableRoom_ok _ _ _ _ rfl (by assumption) h
    · exact ho _ _ _ _ _ h

def law18_TableManyl9d : Ex → List V → List Obj → Option (Nat × Nat × Nat × List (List Int) × Nat × Int × Nat × List (List Int)) := fun e vs objs => match e, vs, objs with
  | Ex.exit 0, [V.s (S.sl 0 y0 y1 false), V.s (S.ptr 1 0 none 0)], [Obj.sli 34 true (Seg.rows kk0 y2 y3), Obj.cells 79 [Seg.one [S.sl 2 0 y4 true, S.i IntKind.i64 y5]], Obj.sli 83 false (Seg.rows kk1 y6 y7)] => bif decide (kk0 = kL1) then bif decide (kk1 = kL0) then some (y0, y1, y2, y3, y4, y5, y6, y7) else none else none
  | _, _, _ => none

def law18_TableManyl19d : Ex → List V → List Obj → Option (Nat × Nat × Int × Bool × Int × Nat × List (List Int) × Nat × Int × Int × Int × Int × Int × Int × Int × Bool × Nat × List (List Int)) := fun e vs objs => match e, vs, objs with
  | Ex.exit 4, [V.s (S.sl 0 y0 y1 false), V.s (S.ptr 1 0 none 0), V.s (S.i IntKind.i64 y2), V.s (S.ptr 2 0 none 0), V.s (S.b y3), V.s (S.i IntKind.i64 y4)], [Obj.sli 34 true (Seg.rows kk0 y5 y6), Obj.cells 79 [Seg.one [S.sl 3 0 y7 true, S.i IntKind.i64 y8]], Obj.cells 39 [Seg.one [S.i IntKind.i64 y9, S.i IntKind.i64 y10, S.i IntKind.i64 y11, S.i IntKind.i64 y12, S.i IntKind.i64 y13, S.i IntKind.i64 y14, S.b y15]], Obj.sli 83 false (Seg.rows kk1 y16 y17)] => bif decide (kk0 = kL1) then bif decide (kk1 = kL0) then some (y0, y1, y2, y3, y4, y5, y6, y7, y8, y9, y10, y11, y12, y13, y14, y15, y16, y17) else none else none
  | _, _, _ => none

def law18_TableManyl14d : Ex → List V → List Obj → Option ((Nat × Nat × Bool × Nat × List (List Int) × Nat × Int × Nat × List (List Int)) ⊕ (Nat × Nat × Nat × List (List Int) × Nat × Int × Nat × List (List Int))) := fun e vs objs => match e, vs, objs with
  | Ex.ret, [V.s (S.sl 0 y0 y1 false), V.s (S.b y2), V.s (S.ptr 1 0 none 0)], [Obj.sli 34 true (Seg.rows kk0 y3 y4), Obj.cells 79 [Seg.one [S.sl 2 0 y5 true, S.i IntKind.i64 y6]], Obj.sli 83 false (Seg.rows kk1 y7 y8)] => bif decide (kk0 = kL1) then bif decide (kk1 = kL0) then some (Sum.inl (y0, y1, y2, y3, y4, y5, y6, y7, y8)) else none else none
  | Ex.exit 2, [V.s (S.sl 0 y0 y1 false), V.s S.bad, V.s (S.ptr 1 0 none 0)], [Obj.sli 34 true (Seg.rows kk0 y2 y3), Obj.cells 79 [Seg.one [S.sl 2 0 y4 true, S.i IntKind.i64 y5]], Obj.sli 83 false (Seg.rows kk1 y6 y7)] => bif decide (kk0 = kL1) then bif decide (kk1 = kL0) then some (Sum.inr (y0, y1, y2, y3, y4, y5, y6, y7)) else none else none
  | _, _, _ => none

def law18_TableManyp9 {R : Type} (vs : List V) (objs : List Obj) (K : Ex → List V → List Obj → Option R) : Option R := match vs, objs with
  | [V.s (S.sl 0 x0 x1 false), V.s (S.ptr 1 0 none 0), V.s (S.sl 0 x2 x3 false), V.s (S.i IntKind.i64 x4), V.s (S.i IntKind.i64 x5)], [Obj.sli 34 true (Seg.rows kk0 x6 x7), Obj.cells 79 [Seg.one [S.sl 2 0 x8 true, S.i IntKind.i64 x9]], Obj.sli 83 false (Seg.rows kk1 x10 x11)] => bif decide (kk0 = kL1) then bif decide (kk1 = kL0) then ob (law18_TableManyl9 many x0 x1 x2 x3 x4 x5 x6 x7 x8 x9 x10 x11) fun z => K (Ex.exit 0) ([V.s (S.sl 0 (z.1) (z.2.1) false), V.s (S.ptr 1 0 none 0)]) ([Obj.sli 34 true (Seg.rows kL1 (z.2.2.1) (z.2.2.2.1)), Obj.cells 79 [Seg.one [S.sl 2 0 (z.2.2.2.2.1) true, S.i IntKind.i64 (z.2.2.2.2.2.1)]], Obj.sli 83 false (Seg.rows kL0 (z.2.2.2.2.2.2.1) (z.2.2.2.2.2.2.2))]) else none else none
  | _, _ => none

def law18_TableManyp19 {R : Type} (vs : List V) (objs : List Obj) (K : Ex → List V → List Obj → Option R) : Option R := match vs, objs with
  | [V.s (S.sl 0 x0 x1 false), V.s (S.ptr 1 0 none 0), V.s (S.i IntKind.i64 x2), V.s (S.ptr 2 0 none 0), V.s (S.b x3), V.s (S.i IntKind.i64 x4), V.s (S.i IntKind.i64 x5)], [Obj.sli 34 true (Seg.rows kk0 x6 x7), Obj.cells 79 [Seg.one [S.sl 3 0 x8 true, S.i IntKind.i64 x9]], Obj.cells 39 [Seg.one [S.i IntKind.i64 x10, S.i IntKind.i64 x11, S.i IntKind.i64 x12, S.i IntKind.i64 x13, S.i IntKind.i64 x14, S.i IntKind.i64 x15, S.b x16]], Obj.sli 83 false (Seg.rows kk1 x17 x18)] => bif decide (kk0 = kL1) then bif decide (kk1 = kL0) then ob (law18_TableManyl19 many x0 x1 x2 x3 x4 x5 x6 x7 x8 x9 x10 x11 x12 x13 x14 x15 x16 x17 x18) fun z => K (Ex.exit 4) ([V.s (S.sl 0 (z.1) (z.2.1) false), V.s (S.ptr 1 0 none 0), V.s (S.i IntKind.i64 (z.2.2.1)), V.s (S.ptr 2 0 none 0), V.s (S.b (z.2.2.2.1)), V.s (S.i IntKind.i64 (z.2.2.2.2.1))]) ([Obj.sli 34 true (Seg.rows kL1 (z.2.2.2.2.2.1) (z.2.2.2.2.2.2.1)), Obj.cells 79 [Seg.one [S.sl 3 0 (z.2.2.2.2.2.2.2.1) true, S.i IntKind.i64 (z.2.2.2.2.2.2.2.2.1)]], Obj.cells 39 [Seg.one [S.i IntKind.i64 (z.2.2.2.2.2.2.2.2.2.1), S.i IntKind.i64 (z.2.2.2.2.2.2.2.2.2.2.1), S.i IntKind.i64 (z.2.2.2.2.2.2.2.2.2.2.2.1), S.i IntKind.i64 (z.2.2.2.2.2.2.2.2.2.2.2.2.1), S.i IntKind.i64 (z.2.2.2.2.2.2.2.2.2.2.2.2.2.1), S.i IntKind.i64 (z.2.2.2.2.2.2.2.2.2.2.2.2.2.2.1), S.b (z.2.2.2.2.2.2.2.2.2.2.2.2.2.2.2.1)]], Obj.sli 83 false (Seg.rows kL0 (z.2.2.2.2.2.2.2.2.2.2.2.2.2.2.2.2.1) (z.2.2.2.2.2.2.2.2.2.2.2.2.2.2.2.2.2))]) else none else none
  | _, _ => none

def law18_TableManyp14 {R : Type} (vs : List V) (objs : List Obj) (K : Ex → List V → List Obj → Option R) : Option R := match vs, objs with
  | [V.s (S.sl 0 x0 x1 false), V.s (S.ptr 1 0 none 0), V.s (S.i IntKind.i64 x2)], [Obj.sli 34 true (Seg.rows kk0 x3 x4), Obj.cells 79 [Seg.one [S.sl 2 0 x5 true, S.i IntKind.i64 x6]], Obj.sli 83 false (Seg.rows kk1 x7 x8)] => bif decide (kk0 = kL1) then bif decide (kk1 = kL0) then ob (law18_TableManyl14 many x0 x1 x2 x3 x4 x5 x6 x7 x8) fun t0 => sw t0 (fun z => K (Ex.ret) ([V.s (S.sl 0 (z.1) (z.2.1) false), V.s (S.b (z.2.2.1)), V.s (S.ptr 1 0 none 0)]) ([Obj.sli 34 true (Seg.rows kL1 (z.2.2.2.1) (z.2.2.2.2.1)), Obj.cells 79 [Seg.one [S.sl 2 0 (z.2.2.2.2.2.1) true, S.i IntKind.i64 (z.2.2.2.2.2.2.1)]], Obj.sli 83 false (Seg.rows kL0 (z.2.2.2.2.2.2.2.1) (z.2.2.2.2.2.2.2.2))])) (fun z => K (Ex.exit 2) ([V.s (S.sl 0 (z.1) (z.2.1) false), V.s S.bad, V.s (S.ptr 1 0 none 0)]) ([Obj.sli 34 true (Seg.rows kL1 (z.2.2.1) (z.2.2.2.1)), Obj.cells 79 [Seg.one [S.sl 2 0 (z.2.2.2.2.1) true, S.i IntKind.i64 (z.2.2.2.2.2.1)]], Obj.sli 83 false (Seg.rows kL0 (z.2.2.2.2.2.2.1) (z.2.2.2.2.2.2.2))])) else none else none
  | _, _ => none

def law18_TableManylp : {R : Type} → Nat → List V → List Obj → (Ex → List V → List Obj → Option R) → Option R := fun q vs objs K => bif Nat.beq q 9 then law18_TableManyp9 vs objs K else bif Nat.beq q 19 then law18_TableManyp19 vs objs K else bif Nat.beq q 14 then law18_TableManyp14 vs objs K else none

def law18_TableManyoo : Orc := (table_Leno (table_Geto (table_Puto (table_Newo (law18_keepso oNil)))))

theorem law18_TableManyoo_ok : OSound Try.prog law18_TableManyoo := (table_Leno_ok _ (table_Geto_ok _ (table_Puto_ok _ (table_Newo_ok _ (law18_keepso_ok _ oNil_ok)))))

def law18_TableManyc : Ctx := { tab := tab, eqs := eqs, bytes := bytes, nt := 97, orc := law18_TableManyoo, keeps := [(9, [0, 3, 27, 28, 29], [0, 3]), (14, [0, 3, 7], [0, 2, 3]), (19, [0, 3, 7, 8, 9, 10, 11], [0, 3, 7, 8, 9, 10])], lp := law18_TableManylp }

theorem law18_TableManyc_ok : CtxOK Try.prog law18_TableManyc := ⟨tab_ok, law18_TableManyoo_ok, eqs_ok, bytes_ok⟩

theorem law18_TableManyl9_step (f : Nat) (x0 : Nat) (x1 : Nat) (x2 : Nat) (x3 : Nat) (x4 : Int) (x5 : Int) (x6 : Nat) (x7 : List (List Int)) (x8 : Nat) (x9 : Int) (x10 : Nat) (x11 : List (List Int)) : lrun law18_TableManyc 1 [0, 3, 27, 28, 29] [0, 3] (loopOf Try.f5 9) (f + 1) ([V.s (S.sl 0 x0 x1 false), V.s (S.ptr 1 0 none 0), V.s (S.sl 0 x2 x3 false), V.s (S.i IntKind.i64 x4), V.s (S.i IntKind.i64 x5)]) ([Obj.sli 34 true (Seg.rows kL1 x6 x7), Obj.cells 79 [Seg.one [S.sl 2 0 x8 true, S.i IntKind.i64 x9]], Obj.sli 83 false (Seg.rows kL0 x10 x11)]) law18_TableManyl9d = law18_TableManyl9s (fun x0 x1 x2 x3 x4 x5 x6 x7 x8 x9 x10 x11 => lrun law18_TableManyc 1 [0, 3, 27, 28, 29] [0, 3] (loopOf Try.f5 9) f ([V.s (S.sl 0 x0 x1 false), V.s (S.ptr 1 0 none 0), V.s (S.sl 0 x2 x3 false), V.s (S.i IntKind.i64 x4), V.s (S.i IntKind.i64 x5)]) ([Obj.sli 34 true (Seg.rows kL1 x6 x7), Obj.cells 79 [Seg.one [S.sl 2 0 x8 true, S.i IntKind.i64 x9]], Obj.sli 83 false (Seg.rows kL0 x10 x11)]) law18_TableManyl9d) x0 x1 x2 x3 x4 x5 x6 x7 x8 x9 x10 x11 := by kernel_rfl

theorem law18_TableManyl9_eq (f : Nat) : ∀ (x0 : Nat) (x1 : Nat) (x2 : Nat) (x3 : Nat) (x4 : Int) (x5 : Int) (x6 : Nat) (x7 : List (List Int)) (x8 : Nat) (x9 : Int) (x10 : Nat) (x11 : List (List Int)), lrun law18_TableManyc 1 [0, 3, 27, 28, 29] [0, 3] (loopOf Try.f5 9) f ([V.s (S.sl 0 x0 x1 false), V.s (S.ptr 1 0 none 0), V.s (S.sl 0 x2 x3 false), V.s (S.i IntKind.i64 x4), V.s (S.i IntKind.i64 x5)]) ([Obj.sli 34 true (Seg.rows kL1 x6 x7), Obj.cells 79 [Seg.one [S.sl 2 0 x8 true, S.i IntKind.i64 x9]], Obj.sli 83 false (Seg.rows kL0 x10 x11)]) law18_TableManyl9d = law18_TableManyl9 f x0 x1 x2 x3 x4 x5 x6 x7 x8 x9 x10 x11 := by
  induction f with
  | zero => intros; rfl
  | succ f ih =>
    intro x0 x1 x2 x3 x4 x5 x6 x7 x8 x9 x10 x11
    rw [law18_TableManyl9_step]
    have e : (fun x0 x1 x2 x3 x4 x5 x6 x7 x8 x9 x10 x11 => lrun law18_TableManyc 1 [0, 3, 27, 28, 29] [0, 3] (loopOf Try.f5 9) f ([V.s (S.sl 0 x0 x1 false), V.s (S.ptr 1 0 none 0), V.s (S.sl 0 x2 x3 false), V.s (S.i IntKind.i64 x4), V.s (S.i IntKind.i64 x5)]) ([Obj.sli 34 true (Seg.rows kL1 x6 x7), Obj.cells 79 [Seg.one [S.sl 2 0 x8 true, S.i IntKind.i64 x9]], Obj.sli 83 false (Seg.rows kL0 x10 x11)]) law18_TableManyl9d) = law18_TableManyl9 f := by
      funext x0 x1 x2 x3 x4 x5 x6 x7 x8 x9 x10 x11
      exact ih x0 x1 x2 x3 x4 x5 x6 x7 x8 x9 x10 x11
    rw [e]
    rfl

theorem law18_TableManyl19_step (f : Nat) (x0 : Nat) (x1 : Nat) (x2 : Int) (x3 : Bool) (x4 : Int) (x5 : Int) (x6 : Nat) (x7 : List (List Int)) (x8 : Nat) (x9 : Int) (x10 : Int) (x11 : Int) (x12 : Int) (x13 : Int) (x14 : Int) (x15 : Int) (x16 : Bool) (x17 : Nat) (x18 : List (List Int)) : lrun law18_TableManyc 1 [0, 3, 7, 8, 9, 10, 11] [0, 3, 7, 8, 9, 10] (loopOf Try.f5 19) (f + 1) ([V.s (S.sl 0 x0 x1 false), V.s (S.ptr 1 0 none 0), V.s (S.i IntKind.i64 x2), V.s (S.ptr 2 0 none 0), V.s (S.b x3), V.s (S.i IntKind.i64 x4), V.s (S.i IntKind.i64 x5)]) ([Obj.sli 34 true (Seg.rows kL1 x6 x7), Obj.cells 79 [Seg.one [S.sl 3 0 x8 true, S.i IntKind.i64 x9]], Obj.cells 39 [Seg.one [S.i IntKind.i64 x10, S.i IntKind.i64 x11, S.i IntKind.i64 x12, S.i IntKind.i64 x13, S.i IntKind.i64 x14, S.i IntKind.i64 x15, S.b x16]], Obj.sli 83 false (Seg.rows kL0 x17 x18)]) law18_TableManyl19d = law18_TableManyl19s (fun x0 x1 x2 x3 x4 x5 x6 x7 x8 x9 x10 x11 x12 x13 x14 x15 x16 x17 x18 => lrun law18_TableManyc 1 [0, 3, 7, 8, 9, 10, 11] [0, 3, 7, 8, 9, 10] (loopOf Try.f5 19) f ([V.s (S.sl 0 x0 x1 false), V.s (S.ptr 1 0 none 0), V.s (S.i IntKind.i64 x2), V.s (S.ptr 2 0 none 0), V.s (S.b x3), V.s (S.i IntKind.i64 x4), V.s (S.i IntKind.i64 x5)]) ([Obj.sli 34 true (Seg.rows kL1 x6 x7), Obj.cells 79 [Seg.one [S.sl 3 0 x8 true, S.i IntKind.i64 x9]], Obj.cells 39 [Seg.one [S.i IntKind.i64 x10, S.i IntKind.i64 x11, S.i IntKind.i64 x12, S.i IntKind.i64 x13, S.i IntKind.i64 x14, S.i IntKind.i64 x15, S.b x16]], Obj.sli 83 false (Seg.rows kL0 x17 x18)]) law18_TableManyl19d) x0 x1 x2 x3 x4 x5 x6 x7 x8 x9 x10 x11 x12 x13 x14 x15 x16 x17 x18 := by kernel_rfl

theorem law18_TableManyl19_eq (f : Nat) : ∀ (x0 : Nat) (x1 : Nat) (x2 : Int) (x3 : Bool) (x4 : Int) (x5 : Int) (x6 : Nat) (x7 : List (List Int)) (x8 : Nat) (x9 : Int) (x10 : Int) (x11 : Int) (x12 : Int) (x13 : Int) (x14 : Int) (x15 : Int) (x16 : Bool) (x17 : Nat) (x18 : List (List Int)), lrun law18_TableManyc 1 [0, 3, 7, 8, 9, 10, 11] [0, 3, 7, 8, 9, 10] (loopOf Try.f5 19) f ([V.s (S.sl 0 x0 x1 false), V.s (S.ptr 1 0 none 0), V.s (S.i IntKind.i64 x2), V.s (S.ptr 2 0 none 0), V.s (S.b x3), V.s (S.i IntKind.i64 x4), V.s (S.i IntKind.i64 x5)]) ([Obj.sli 34 true (Seg.rows kL1 x6 x7), Obj.cells 79 [Seg.one [S.sl 3 0 x8 true, S.i IntKind.i64 x9]], Obj.cells 39 [Seg.one [S.i IntKind.i64 x10, S.i IntKind.i64 x11, S.i IntKind.i64 x12, S.i IntKind.i64 x13, S.i IntKind.i64 x14, S.i IntKind.i64 x15, S.b x16]], Obj.sli 83 false (Seg.rows kL0 x17 x18)]) law18_TableManyl19d = law18_TableManyl19 f x0 x1 x2 x3 x4 x5 x6 x7 x8 x9 x10 x11 x12 x13 x14 x15 x16 x17 x18 := by
  induction f with
  | zero => intros; rfl
  | succ f ih =>
    intro x0 x1 x2 x3 x4 x5 x6 x7 x8 x9 x10 x11 x12 x13 x14 x15 x16 x17 x18
    rw [law18_TableManyl19_step]
    have e : (fun x0 x1 x2 x3 x4 x5 x6 x7 x8 x9 x10 x11 x12 x13 x14 x15 x16 x17 x18 => lrun law18_TableManyc 1 [0, 3, 7, 8, 9, 10, 11] [0, 3, 7, 8, 9, 10] (loopOf Try.f5 19) f ([V.s (S.sl 0 x0 x1 false), V.s (S.ptr 1 0 none 0), V.s (S.i IntKind.i64 x2), V.s (S.ptr 2 0 none 0), V.s (S.b x3), V.s (S.i IntKind.i64 x4), V.s (S.i IntKind.i64 x5)]) ([Obj.sli 34 true (Seg.rows kL1 x6 x7), Obj.cells 79 [Seg.one [S.sl 3 0 x8 true, S.i IntKind.i64 x9]], Obj.cells 39 [Seg.one [S.i IntKind.i64 x10, S.i IntKind.i64 x11, S.i IntKind.i64 x12, S.i IntKind.i64 x13, S.i IntKind.i64 x14, S.i IntKind.i64 x15, S.b x16]], Obj.sli 83 false (Seg.rows kL0 x17 x18)]) law18_TableManyl19d) = law18_TableManyl19 f := by
      funext x0 x1 x2 x3 x4 x5 x6 x7 x8 x9 x10 x11 x12 x13 x14 x15 x16 x17 x18
      exact ih x0 x1 x2 x3 x4 x5 x6 x7 x8 x9 x10 x11 x12 x13 x14 x15 x16 x17 x18
    rw [e]
    rfl

theorem law18_TableManyl14_step (f : Nat) (x0 : Nat) (x1 : Nat) (x2 : Int) (x3 : Nat) (x4 : List (List Int)) (x5 : Nat) (x6 : Int) (x7 : Nat) (x8 : List (List Int)) : lrun law18_TableManyc 1 [0, 3, 7] [0, 2, 3] (loopOf Try.f5 14) (f + 1) ([V.s (S.sl 0 x0 x1 false), V.s (S.ptr 1 0 none 0), V.s (S.i IntKind.i64 x2)]) ([Obj.sli 34 true (Seg.rows kL1 x3 x4), Obj.cells 79 [Seg.one [S.sl 2 0 x5 true, S.i IntKind.i64 x6]], Obj.sli 83 false (Seg.rows kL0 x7 x8)]) law18_TableManyl14d = law18_TableManyl14s (fun x0 x1 x2 x3 x4 x5 x6 x7 x8 => lrun law18_TableManyc 1 [0, 3, 7] [0, 2, 3] (loopOf Try.f5 14) f ([V.s (S.sl 0 x0 x1 false), V.s (S.ptr 1 0 none 0), V.s (S.i IntKind.i64 x2)]) ([Obj.sli 34 true (Seg.rows kL1 x3 x4), Obj.cells 79 [Seg.one [S.sl 2 0 x5 true, S.i IntKind.i64 x6]], Obj.sli 83 false (Seg.rows kL0 x7 x8)]) law18_TableManyl14d) x0 x1 x2 x3 x4 x5 x6 x7 x8 := by kernel_rfl

theorem law18_TableManyl14_eq (f : Nat) : ∀ (x0 : Nat) (x1 : Nat) (x2 : Int) (x3 : Nat) (x4 : List (List Int)) (x5 : Nat) (x6 : Int) (x7 : Nat) (x8 : List (List Int)), lrun law18_TableManyc 1 [0, 3, 7] [0, 2, 3] (loopOf Try.f5 14) f ([V.s (S.sl 0 x0 x1 false), V.s (S.ptr 1 0 none 0), V.s (S.i IntKind.i64 x2)]) ([Obj.sli 34 true (Seg.rows kL1 x3 x4), Obj.cells 79 [Seg.one [S.sl 2 0 x5 true, S.i IntKind.i64 x6]], Obj.sli 83 false (Seg.rows kL0 x7 x8)]) law18_TableManyl14d = law18_TableManyl14 f x0 x1 x2 x3 x4 x5 x6 x7 x8 := by
  induction f with
  | zero => intros; rfl
  | succ f ih =>
    intro x0 x1 x2 x3 x4 x5 x6 x7 x8
    rw [law18_TableManyl14_step]
    have e : (fun x0 x1 x2 x3 x4 x5 x6 x7 x8 => lrun law18_TableManyc 1 [0, 3, 7] [0, 2, 3] (loopOf Try.f5 14) f ([V.s (S.sl 0 x0 x1 false), V.s (S.ptr 1 0 none 0), V.s (S.i IntKind.i64 x2)]) ([Obj.sli 34 true (Seg.rows kL1 x3 x4), Obj.cells 79 [Seg.one [S.sl 2 0 x5 true, S.i IntKind.i64 x6]], Obj.sli 83 false (Seg.rows kL0 x7 x8)]) law18_TableManyl14d) = law18_TableManyl14 f := by
      funext x0 x1 x2 x3 x4 x5 x6 x7 x8
      exact ih x0 x1 x2 x3 x4 x5 x6 x7 x8
    rw [e]
    rfl

theorem law18_TableManys9 : LoopSound Try.prog law18_TableManyc 1 (loopOf Try.f5 9) :=
  loopSound_by mixed law18_TableManyc_ok (AllP.of (l' := []) (by kernel_rfl) trivial) (q := 9) (kin := [0, 3, 27, 28, 29]) (kout := [0, 3]) (by kernel_rfl) (by kernel_rfl) fun vs objs K r h => by
    replace h : law18_TableManyp9 vs objs K = some r := h
    unfold law18_TableManyp9 at h
    split at h
    · skip
      have g := (bif_some h).1
      replace h := (bif_some h).2
      obtain rfl := of_decide_eq_true g
      have g := (bif_some h).1
      replace h := (bif_some h).2
      obtain rfl := of_decide_eq_true g
      obtain ⟨t, h1, h2⟩ := ob_ok h
      refine ⟨_, law18_TableManyl9d, t, many, (law18_TableManyl9_eq many _ _ _ _ _ _ _ _ _ _ _ _).trans h1, fun e vs' objs' hd => ?_⟩
      unfold law18_TableManyl9d at hd
      split at hd
      · skip
        have g := (bif_some hd).1
        replace hd := (bif_some hd).2
        obtain rfl := of_decide_eq_true g
        have g := (bif_some hd).1
        replace hd := (bif_some hd).2
        obtain rfl := of_decide_eq_true g
        cases hd
        exact h2
      · cases hd
    · cases h

theorem law18_TableManys19 : LoopSound Try.prog law18_TableManyc 1 (loopOf Try.f5 19) :=
  loopSound_by mixed law18_TableManyc_ok (AllP.of (l' := []) (by kernel_rfl) trivial) (q := 19) (kin := [0, 3, 7, 8, 9, 10, 11]) (kout := [0, 3, 7, 8, 9, 10]) (by kernel_rfl) (by kernel_rfl) fun vs objs K r h => by
    replace h : law18_TableManyp19 vs objs K = some r := h
    unfold law18_TableManyp19 at h
    split at h
    · skip
      have g := (bif_some h).1
      replace h := (bif_some h).2
      obtain rfl := of_decide_eq_true g
      have g := (bif_some h).1
      replace h := (bif_some h).2
      obtain rfl := of_decide_eq_true g
      obtain ⟨t, h1, h2⟩ := ob_ok h
      refine ⟨_, law18_TableManyl19d, t, many, (law18_TableManyl19_eq many _ _ _ _ _ _ _ _ _ _ _ _ _ _ _ _ _ _ _).trans h1, fun e vs' objs' hd => ?_⟩
      unfold law18_TableManyl19d at hd
      split at hd
      · skip
        have g := (bif_some hd).1
        replace hd := (bif_some hd).2
        obtain rfl := of_decide_eq_true g
        have g := (bif_some hd).1
        replace hd := (bif_some hd).2
        obtain rfl := of_decide_eq_true g
        cases hd
        exact h2
      · cases hd
    · cases h

theorem law18_TableManys14 : LoopSound Try.prog law18_TableManyc 1 (loopOf Try.f5 14) :=
  loopSound_by mixed law18_TableManyc_ok (AllP.of (l' := [loopOf Try.f5 19]) (by kernel_rfl) ⟨law18_TableManys19, trivial⟩) (q := 14) (kin := [0, 3, 7]) (kout := [0, 2, 3]) (by kernel_rfl) (by kernel_rfl) fun vs objs K r h => by
    replace h : law18_TableManyp14 vs objs K = some r := h
    unfold law18_TableManyp14 at h
    split at h
    · skip
      have g := (bif_some h).1
      replace h := (bif_some h).2
      obtain rfl := of_decide_eq_true g
      have g := (bif_some h).1
      replace h := (bif_some h).2
      obtain rfl := of_decide_eq_true g
      obtain ⟨t, h1, h2⟩ := ob_ok h
      refine ⟨_, law18_TableManyl14d, t, many, (law18_TableManyl14_eq many _ _ _ _ _ _ _ _ _).trans h1, fun e vs' objs' hd => ?_⟩
      unfold law18_TableManyl14d at hd
      split at hd
      · skip
        have g := (bif_some hd).1
        replace hd := (bif_some hd).2
        obtain rfl := of_decide_eq_true g
        have g := (bif_some hd).1
        replace hd := (bif_some hd).2
        obtain rfl := of_decide_eq_true g
        cases hd
        exact h2
      · skip
        have g := (bif_some hd).1
        replace hd := (bif_some hd).2
        obtain rfl := of_decide_eq_true g
        have g := (bif_some hd).1
        replace hd := (bif_some hd).2
        obtain rfl := of_decide_eq_true g
        cases hd
        exact h2
      · cases hd
    · cases h

def law18_TableManyd : V → List Obj → Option (Bool) := fun v objs => match v, objs with
  | V.s (S.b y0), [] => some (y0)
  | _, _ => none

theorem law18_TableMany_eq (x0 : Nat) (x1 : Nat) (x2 : Nat) (x3 : List (List Int)) : fnE law18_TableManyc Try.f5 ([V.s (S.sl 0 x0 x1 false)]) ([Obj.sli 34 true (Seg.rows kL1 x2 x3)]) (pureD 1 law18_TableManyd) = law18_TableMany x0 x1 x2 x3 := by kernel_rfl

def law18_TableManya {R : Type} (o : Orc) (vs : List V) (objs : List Obj) (K : Bool → V → List Obj → Option R) : Option R := match vs, List.map Obj.toRO objs with
  | [V.s (S.sl 0 x0 x1 false)], [Obj.sli 34 true (Seg.rows kk0 x2 x3)] => bif decide (kk0 = kL1) then ob (law18_TableMany x0 x1 x2 x3) fun y0 => K true (V.s (S.b y0)) ([]) else none
  | _, _ => o 5 vs objs K

def law18_TableManyo (o : Orc) : Orc := fun f vs objs K => bif Nat.beq f 5 then law18_TableManya o vs objs K else o f vs objs K

theorem law18_TableMany_ok {vs : List V} {objs : List Obj} (x0 : Nat) (x1 : Nat) (x2 : Nat) (x3 : List (List Int)) {R : Type} {K : Bool → V → List Obj → Option R} {r : R} (hv : vs = [V.s (S.sl 0 x0 x1 false)]) (ho : List.map Obj.toRO objs = [Obj.sli 34 true (Seg.rows kL1 x2 x3)]) (h : ob (law18_TableMany x0 x1 x2 x3) (fun y0 => K true (V.s (S.b y0)) ([])) = some r) :
    ∃ p v objs', K p v objs' = some r ∧ AnyOK Try.prog 5 vs objs p v objs' := by
  subst hv
  obtain ⟨t, h1, h2⟩ := ob_ok h
  refine purOK_by mixed law18_TableManyc_ok (m := 1) (fn := Try.f5) (b := (Try.f5).body.getD .skip) (by kernel_rfl) (by kernel_rfl) (by kernel_rfl) ho (by kernel_rfl) (by kernel_rfl) (AllP.of (l' := [loopOf Try.f5 9, loopOf Try.f5 14]) (by kernel_rfl) ⟨law18_TableManys9, law18_TableManys14, trivial⟩) ((law18_TableMany_eq x0 x1 x2 x3).trans h1) fun v objs' hd => ?_
  unfold law18_TableManyd at hd
  split at hd
  · skip
    cases hd
    exact h2
  · cases hd

theorem law18_TableManyo_ok (o : Orc) (ho : OSound Try.prog o) : OSound Try.prog (law18_TableManyo o) := by
  intro R f vs objs K r h
  replace h : (bif Nat.beq f 5 then law18_TableManya o vs objs K else o f vs objs K) = some r := h
  cases hf : Nat.beq f 5 with
  | false => rw [hf] at h; exact ho f vs objs K r h
  | true =>
    rw [hf] at h
    have e := Nat.eq_of_beq_eq_true hf
    subst e
    replace h : law18_TableManya o vs objs K = some r := h
    unfold law18_TableManya at h
    split at h
    · skip
      have g := (bif_some h).1
      replace h := (bif_some h).2
      obtain rfl := of_decide_eq_true g
      exact law18_TableMany_ok _ _ _ _ rfl (by assumption) h
    · exact ho _ _ _ _ _ h
end Go.Kk.KkT4
