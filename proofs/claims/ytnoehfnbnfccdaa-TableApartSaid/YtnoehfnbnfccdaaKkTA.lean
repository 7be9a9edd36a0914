/- Printed by a tool of this project (KkGen): the program's functions come to the plain ones. -/
import Derived.Test.YtnoehfnbnfccdaaProg
import Derived.Test.YtnoehfnbnfccdaaKkB
import Derived.Test.YtnoehfnbnfccdaaKkPl
namespace Go.Kk.KkTA
open Go.Proofs Go.Kk.Pl
set_option maxRecDepth 100000
set_option maxHeartbeats 4000000
def tab : Tab := [(1, .sc (.f)),
 (2, .sc (.i .i64)),
 (3, .sc (.i .i64)),
 (4, .sc (.b)),
 (5, .sc (.i .u8)),
 (6, .sc (.i .u8)),
 (7, .st [.one [.i .i64, .i .i64, .b, .i .u8]] [(0, 0, 2), (0, 1, 3), (0, 2, 4), (0, 3, 6)]),
 (8, .st [.one [.i .i64, .i .i64, .b, .i .u8]] [(0, 0, 2), (0, 1, 3), (0, 2, 4), (0, 3, 6)]),
 (9, .sc (.str)),
 (10, .sc (.str)),
 (11, .sc (.str)),
 (12, .sc (.i .u64)),
 (13, .st [.one [.str, .i .u64]] [(0, 0, 9), (0, 1, 12)]),
 (14, .st [.one [.str, .i .u64]] [(0, 0, 9), (0, 1, 12)]),
 (15, .sc (.p)),
 (16, .sc (.p)),
 (17, .sc (.p)),
 (18, .st [.one [.p]] [(0, 0, 17)]),
 (19, .st [.one [.p]] [(0, 0, 17)]),
 (21, .sc (.i .i32)),
 (22, .sc (.i .i8)),
 (23, .sc (.i .i8)),
 (24, .ar 81 1 23 (.arr .i8 81)),
 (25, .ar 8 1 22 (.arr .i8 8)),
 (26, .ar 2 8 25 (.arr .i8 16)),
 (27, .st [.arr .i8 81, .arr .i8 16, .one [.i .i8]] [(0, 0, 24), (1, 0, 26), (2, 0, 22)]),
 (28, .st [.arr .i8 81, .arr .i8 16, .one [.i .i8]] [(0, 0, 24), (1, 0, 26), (2, 0, 22)]),
 (29, .sc (.f)),
 (30, .sc (.p)),
 (31, .sc (.i .i64)),
 (33, .sc (.f)),
 (34, .st [.one [.i .i64, .i .i64, .i .i64, .b]] [(0, 0, 3), (0, 1, 3), (0, 2, 3), (0, 3, 4)]),
 (35, .st [.one [.i .i64, .i .i64, .i .i64, .b]] [(0, 0, 3), (0, 1, 3), (0, 2, 3), (0, 3, 4)]),
 (36, .st [.one [.i .i64, .i .i64, .i .i64, .i .i64, .i .i64, .i .i64, .b]] [(0, 0, 3), (0, 1, 3), (0, 2, 3), (0, 3, 35)]),
 (37, .st [.one [.i .i64, .i .i64, .i .i64, .i .i64, .i .i64, .i .i64, .b]] [(0, 0, 3), (0, 1, 3), (0, 2, 3), (0, 3, 35)]),
 (38, .sc (.f)),
 (39, .sc (.sl 28)),
 (41, .sc (.f)),
 (42, .sc (.f)),
 (43, .sc (.sl 46)),
 (44, .sc (.m 28 37)),
 (45, .st [.one [.i .i64], .arr .i8 81, .arr .i8 16, .one [.i .i8], .one [.i .i64, .i .i64, .i .i64, .i .i64, .i .i64, .i .i64, .b]] [(0, 0, 3), (1, 0, 28), (4, 0, 37)]),
 (46, .st [.one [.i .i64], .arr .i8 81, .arr .i8 16, .one [.i .i8], .one [.i .i64, .i .i64, .i .i64, .i .i64, .i .i64, .i .i64, .b]] [(0, 0, 3), (1, 0, 28), (4, 0, 37)]),
 (47, .sc (.f)),
 (48, .sc (.f)),
 (49, .sc (.f)),
 (50, .sc (.sl 56)),
 (51, .st [.one [.sl 56, .i .i64]] [(0, 0, 50), (0, 1, 3)]),
 (52, .st [.one [.sl 56, .i .i64]] [(0, 0, 50), (0, 1, 3)]),
 (53, .sc (.p)),
 (54, .sc (.f)),
 (55, .st [.one [.b], .arr .i8 81, .arr .i8 16, .one [.i .i8], .one [.i .i64, .i .i64, .i .i64, .i .i64, .i .i64, .i .i64, .b]] [(0, 0, 4), (1, 0, 28), (4, 0, 37)]),
 (56, .st [.one [.b], .arr .i8 81, .arr .i8 16, .one [.i .i8], .one [.i .i64, .i .i64, .i .i64, .i .i64, .i .i64, .i .i64, .b]] [(0, 0, 4), (1, 0, 28), (4, 0, 37)]),
 (57, .ar 9 1 3 (.arr .i64 9)),
 (58, .sc (.f)),
 (59, .sc (.f)),
 (60, .sc (.f)),
 (61, .sc (.i .u64)),
 (62, .sc (.i .u64)),
 (63, .sc (.f)),
 (64, .sc (.f)),
 (65, .sc (.f)),
 (66, .sc (.f)),
 (67, .sc (.f)),
 (68, .sc (.f)),
 (69, .sc (.i .u64)),
 (70, .sc (.f)),
 (71, .st [.one [.p, .p, .p, .str]] [(0, 0, 17), (0, 1, 17), (0, 2, 17), (0, 3, 9)]),
 (72, .st [.one [.p, .p, .p, .str]] [(0, 0, 17), (0, 1, 17), (0, 2, 17), (0, 3, 9)]),
 (76, .sc (.i .u32)),
 (77, .sc (.i .u8)),
 (78, .sc (.i .u8)),
 (79, .sc (.f)),
 (80, .sc (.p)),
 (81, .sc (.i .i32)),
 (82, .sc (.i .i32)),
 (83, .st [.one [.i .u64, .i .u64, .i .u32, .i .u8, .i .u8, .i .u8, .i .u8, .f, .p, .i .i32, .i .i32]] [(0, 0, 12), (0, 1, 12), (0, 2, 76), (0, 3, 77), (0, 4, 5), (0, 5, 5), (0, 6, 78), (0, 7, 79), (0, 8, 80), (0, 9, 81), (0, 10, 82)]),
 (84, .st [.one [.i .u64, .i .u64, .i .u32, .i .u8, .i .u8, .i .u8, .i .u8, .f, .p, .i .i32, .i .i32]] [(0, 0, 12), (0, 1, 12), (0, 2, 76), (0, 3, 77), (0, 4, 5), (0, 5, 5), (0, 6, 78), (0, 7, 79), (0, 8, 80), (0, 9, 81), (0, 10, 82)])]
def eqs : List TypeId := [28, 27, 37, 36, 35, 34]
def bytes : List (TypeId × Nat) := [(28, 98), (46, 168), (56, 160)]
theorem mixed : Try.prog.follows .mixedOrders = true := by kernel_rfl
theorem tab_ok : ∀ t L, Tab.get tab t = some L → LayOK Try.prog tab t L := tabB_ok (P := Try.prog) (tab := tab) (l := tab) (by kernel_rfl)
theorem eqs_ok : ∀ t L, memT t eqs = true → Tab.get tab t = some L → ∃ f ck, f ≤ 10000 ∧ tyCK Try.prog f t = some ck ∧ cksOf L.segTs = some ck ∧ Try.prog.eqGuardType Try.prog.depth t = false := eqsB_ok (P := Try.prog) (tab := tab) (l := eqs) (by kernel_rfl)
theorem bytes_ok : ∀ t n, byN t bytes = some n → ∃ i, Try.prog.info? t = some i ∧ i.bytes = n := bytesB_ok (P := Try.prog) (l := bytes) (by kernel_rfl)
def mkC (nt : Nat) (orc : Orc) (keeps : List (Nat × List Nat × List Nat)) (lp : {R : Type} → Nat → List V → List Obj → (Ex → List V → List Obj → Option R) → Option R) : Ctx := { tab := tab, eqs := eqs, bytes := bytes, nt := nt, orc := orc, keeps := keeps, lp := lp }
theorem mkC_ok {nt : Nat} {orc : Orc} {keeps : List (Nat × List Nat × List Nat)} {lp : {R : Type} → Nat → List V → List Obj → (Ex → List V → List Obj → Option R) → Option R} (h : OSound Try.prog orc) : CtxOK Try.prog (mkC nt orc keeps lp) := ⟨tab_ok, h, eqs_ok, bytes_ok, fun _ _ _ => rfl⟩
noncomputable def kL0 : List CK := List.replicate 1 (.b) ++ List.replicate 98 (.i .i8) ++ List.replicate 6 (.i .i64) ++ List.replicate 1 (.b)
noncomputable def kL1 : List CK := List.replicate 98 (.i .i8)
noncomputable def table_Newc : Ctx := mkC 14 (oNil) [] lpNil
theorem table_Newc_ok : CtxOK Try.prog table_Newc := mkC_ok (oNil_ok)
noncomputable def table_Newd : V → List Obj → Option ((Int) ⊕ (Int × Nat × Int × Nat × List (List Int))) := fun v objs => match v, objs with
 | .tup [W.s .nilp, W.s (.i .i64 y0)], [] => some (.inl (y0))
 | .tup [W.s (.ptr 0 0 none 0), W.s (.i .i64 y0)], [.cells 52 [.one [.sl 1 0 y1 true, .i .i64 y2]], .sli 56 false (.rows kk0 y3 y4)] => bif decide (kk0 = kL0) then some (.inr (y0, y1, y2, y3, y4)) else none
 | _, _ => none
theorem table_New_eq (x0 : Int) : fnE table_Newc Try.f6 ([.s (.i .i64 x0)]) ([]) table_Newd = table_New x0 := by kernel_rfl
noncomputable def table_Newa {R : Type} (o : Orc) (vs : List V) (objs : List Obj) (K : Bool → V → List Obj → Option R) : Option R := match vs, objs with
 | [.s (.i .i64 x0)], [] => ob (table_New x0) fun t0 => sw t0 (fun y0 => K false (.tup [W.s .nilp, W.s (.i .i64 y0)]) ([])) (fun z => K false (.tup [W.s (.ptr 0 0 none 0), W.s (.i .i64 (z.1))]) ([.cells 52 [.one [.sl 1 0 (z.2.1) true, .i .i64 (z.2.2.1)]], .sli 56 false (.rows kL0 (z.2.2.2.1) (z.2.2.2.2))]))
 | _, _ => o 6 vs objs K
noncomputable def table_Newo (o : Orc) : Orc := hook 6 (table_Newa o) o
theorem table_Newo_ok (o : Orc) (ho : OSound Try.prog o) : OSound Try.prog (table_Newo o) := hook_ok ho fun vs objs K r h => by
 unfold table_Newa at h
 split at h
 ·skip
  obtain ⟨t, h1, h2⟩ := ob_ok h
  refine anyOK_of mixed table_Newc_ok (fn := Try.f6) (b := (Try.f6).body.getD .skip) (by kernel_rfl) (by kernel_rfl) (by kernel_rfl) ((table_New_eq _).trans h1) (m := 0) rfl (AllP.of (l' := []) (by kernel_rfl) trivial) fun v objs' hd => ?_
  unfold table_Newd at hd
  split at hd
  ·skip
   cases hd
   exact h2
  ·skip
   have g := (bif_some hd).1
   replace hd := (bif_some hd).2
   obtain rfl := of_decide_eq_true g
   cases hd
   exact h2
  ·cases hd
 ·exact ho _ _ _ _ _ h
noncomputable def set_Squarec : Ctx := mkC 23 (oNil) [] lpNil
theorem set_Squarec_ok : CtxOK Try.prog set_Squarec := mkC_ok (oNil_ok)
noncomputable def set_Squared : V → List Obj → Option (Int) := fun v objs => match v, objs with
 | .s (.i .i64 y0), [] => some (y0)
 | _, _ => none
theorem set_Square_eq (x0 x1 : Int) : fnE set_Squarec Try.f14 ([.s (.i .i64 x0), .s (.i .i64 x1)]) ([]) set_Squared = set_Square x0 x1 := by kernel_rfl
noncomputable def set_Squarea {R : Type} (o : Orc) (vs : List V) (objs : List Obj) (K : Bool → V → List Obj → Option R) : Option R := match vs, objs with
 | [.s (.i .i64 x0), .s (.i .i64 x1)], [] => ob (set_Square x0 x1) fun y0 => K false (.s (.i .i64 y0)) ([])
 | _, _ => o 14 vs objs K
noncomputable def set_Squareo (o : Orc) : Orc := hook 14 (set_Squarea o) o
theorem set_Squareo_ok (o : Orc) (ho : OSound Try.prog o) : OSound Try.prog (set_Squareo o) := hook_ok ho fun vs objs K r h => by
 unfold set_Squarea at h
 split at h
 ·skip
  obtain ⟨t, h1, h2⟩ := ob_ok h
  refine anyOK_of mixed set_Squarec_ok (fn := Try.f14) (b := (Try.f14).body.getD .skip) (by kernel_rfl) (by kernel_rfl) (by kernel_rfl) ((set_Square_eq _ _).trans h1) (m := 0) rfl (AllP.of (l' := []) (by kernel_rfl) trivial) fun v objs' hd => ?_
  unfold set_Squared at hd
  split at hd
  ·skip
   cases hd
   exact h2
  ·cases hd
 ·exact ho _ _ _ _ _ h
noncomputable def board_Start_1c : Ctx := mkC 14 ((set_Squareo oNil)) [] lpNil
theorem board_Start_1c_ok : CtxOK Try.prog board_Start_1c := mkC_ok ((set_Squareo_ok _ oNil_ok))
noncomputable def board_Start_1d : V → List Obj → Option (Int) := fun v objs => match v, objs with
 | .s (.i .i64 y0), [] => some (y0)
 | _, _ => none
theorem board_Start_1_eq (x0 x1 x2 : Int) : fnE board_Start_1c Try.f13 ([.s (.i .i64 x0), .s (.ptr 0 0 none 0), .s (.ptr 1 0 none 0)]) ([.rcells 3 [.one [.i .i64 x1]], .rcells 3 [.one [.i .i64 x2]]]) (pureD 2 board_Start_1d) = board_Start_1 x0 x1 x2 := by kernel_rfl
noncomputable def board_Start_1a {R : Type} (o : Orc) (vs : List V) (objs : List Obj) (K : Bool → V → List Obj → Option R) : Option R := match vs, List.map Obj.toRO objs with
 | [.s (.i .i64 x0), .s (.ptr 0 0 none 0), .s (.ptr 1 0 none 0)], [.rcells 3 [.one [.i .i64 x1]], .rcells 3 [.one [.i .i64 x2]]] => ob (board_Start_1 x0 x1 x2) fun y0 => K true (.s (.i .i64 y0)) ([])
 | _, _ => o 13 vs objs K
noncomputable def board_Start_1o (o : Orc) : Orc := hook 13 (board_Start_1a o) o
theorem board_Start_1o_ok (o : Orc) (ho : OSound Try.prog o) : OSound Try.prog (board_Start_1o o) := hook_ok ho fun vs objs K r h => by
 unfold board_Start_1a at h
 split at h
 ·skip
  have hq : List.map Obj.toRO objs = _ := (by rename_i hq; first | exact hq | assumption)
  obtain ⟨t, h1, h2⟩ := ob_ok h
  refine purOK_by mixed board_Start_1c_ok (m := 2) (fn := Try.f13) (b := (Try.f13).body.getD .skip) (by kernel_rfl) (by kernel_rfl) (by kernel_rfl) hq (by kernel_rfl) (by kernel_rfl) (AllP.of (l' := []) (by kernel_rfl) trivial) ((board_Start_1_eq _ _ _).trans h1) fun v objs' hd => ?_
  unfold board_Start_1d at hd
  split at hd
  ·skip
   cases hd
   exact h2
  ·cases hd
 ·exact ho _ _ _ _ _ h
noncomputable def piece_Ofc : Ctx := mkC 28 (oNil) [] lpNil
theorem piece_Ofc_ok : CtxOK Try.prog piece_Ofc := mkC_ok (oNil_ok)
noncomputable def piece_Ofd : V → List Obj → Option (Int) := fun v objs => match v, objs with
 | .s (.i .i8 y0), [] => some (y0)
 | _, _ => none
theorem piece_Of_eq (x0 x1 : Int) : fnE piece_Ofc Try.f15 ([.s (.i .i64 x0), .s (.i .i64 x1)]) ([]) piece_Ofd = piece_Of x0 x1 := by kernel_rfl
noncomputable def piece_Ofa {R : Type} (o : Orc) (vs : List V) (objs : List Obj) (K : Bool → V → List Obj → Option R) : Option R := match vs, objs with
 | [.s (.i .i64 x0), .s (.i .i64 x1)], [] => ob (piece_Of x0 x1) fun y0 => K false (.s (.i .i8 y0)) ([])
 | _, _ => o 15 vs objs K
noncomputable def piece_Ofo (o : Orc) : Orc := hook 15 (piece_Ofa o) o
theorem piece_Ofo_ok (o : Orc) (ho : OSound Try.prog o) : OSound Try.prog (piece_Ofo o) := hook_ok ho fun vs objs K r h => by
 unfold piece_Ofa at h
 split at h
 ·skip
  obtain ⟨t, h1, h2⟩ := ob_ok h
  refine anyOK_of mixed piece_Ofc_ok (fn := Try.f15) (b := (Try.f15).body.getD .skip) (by kernel_rfl) (by kernel_rfl) (by kernel_rfl) ((piece_Of_eq _ _).trans h1) (m := 0) rfl (AllP.of (l' := []) (by kernel_rfl) trivial) fun v objs' hd => ?_
  unfold piece_Ofd at hd
  split at hd
  ·skip
   cases hd
   exact h2
  ·cases hd
 ·exact ho _ _ _ _ _ h
noncomputable def board_Startl7d : Ex → List V → List Obj → Option (Int × List Int × List Int × Int × List Int × List Int × Int × List Int) := fun e vs objs => match e, vs, objs with
 | .exit 2, [.s (.ptr 0 0 none 0), .s (.ptr 1 0 none 0), .s (.ptr 2 0 none 0), .s (.i .i64 y0)], [.cells 28 [.arr .i8 81 y1, .arr .i8 16 y2, .one [.i .i8 y3]], .cells 28 [.arr .i8 81 y4, .arr .i8 16 y5, .one [.i .i8 y6]], .cells 57 [.arr .i64 9 y7]] => some (y0, y1, y2, y3, y4, y5, y6, y7)
 | _, _, _ => none
noncomputable def board_Startl4d : Ex → List V → List Obj → Option (List Int × List Int × Int × List Int × List Int × Int) := fun e vs objs => match e, vs, objs with
 | .exit 0, [.s (.ptr 0 0 none 0), .s (.ptr 1 0 none 0)], [.cells 28 [.arr .i8 81 y0, .arr .i8 16 y1, .one [.i .i8 y2]], .cells 28 [.arr .i8 81 y3, .arr .i8 16 y4, .one [.i .i8 y5]]] => some (y0, y1, y2, y3, y4, y5)
 | _, _, _ => none
noncomputable def board_Startp7 {R : Type} (vs : List V) (objs : List Obj) (K : Ex → List V → List Obj → Option R) : Option R := match vs, objs with
 | [.s (.ptr 0 0 none 0), .s (.ptr 1 0 none 0), .s (.ptr 2 0 none 0), .s (.ptr 3 0 none 0), .s (.i .i64 x0), .s (.i .i64 x1)], [.cells 28 [.arr .i8 81 x2, .arr .i8 16 x3, .one [.i .i8 x4]], .cells 28 [.arr .i8 81 x5, .arr .i8 16 x6, .one [.i .i8 x7]], .cells 57 [.arr .i64 9 x8], .cells 3 [.one [.i .i64 x9]]] => ob (board_Startl7 many x0 x1 x2 x3 x4 x5 x6 x7 x8 x9) fun z => K (.exit 2) ([.s (.ptr 0 0 none 0), .s (.ptr 1 0 none 0), .s (.ptr 2 0 none 0), .s (.i .i64 (z.1))]) ([.cells 28 [.arr .i8 81 (z.2.1), .arr .i8 16 (z.2.2.1), .one [.i .i8 (z.2.2.2.1)]], .cells 28 [.arr .i8 81 (z.2.2.2.2.1), .arr .i8 16 (z.2.2.2.2.2.1), .one [.i .i8 (z.2.2.2.2.2.2.1)]], .cells 57 [.arr .i64 9 (z.2.2.2.2.2.2.2)]])
 | _, _ => none
noncomputable def board_Startp4 {R : Type} (vs : List V) (objs : List Obj) (K : Ex → List V → List Obj → Option R) : Option R := match vs, objs with
 | [.s (.ptr 0 0 none 0), .s (.ptr 1 0 none 0), .s (.ptr 2 0 none 0), .s (.i .i64 x0)], [.cells 28 [.arr .i8 81 x1, .arr .i8 16 x2, .one [.i .i8 x3]], .cells 28 [.arr .i8 81 x4, .arr .i8 16 x5, .one [.i .i8 x6]], .cells 57 [.arr .i64 9 x7]] => ob (board_Startl4 many x0 x1 x2 x3 x4 x5 x6 x7) fun z => K (.exit 0) ([.s (.ptr 0 0 none 0), .s (.ptr 1 0 none 0)]) ([.cells 28 [.arr .i8 81 (z.1), .arr .i8 16 (z.2.1), .one [.i .i8 (z.2.2.1)]], .cells 28 [.arr .i8 81 (z.2.2.2.1), .arr .i8 16 (z.2.2.2.2.1), .one [.i .i8 (z.2.2.2.2.2)]]])
 | _, _ => none
noncomputable def board_Startlp : {R : Type} → Nat → List V → List Obj → (Ex → List V → List Obj → Option R) → Option R := fun q vs objs K => bif Nat.beq q 7 then board_Startp7 vs objs K else bif Nat.beq q 4 then board_Startp4 vs objs K else none
noncomputable def board_Startc : Ctx := mkC 44 ((set_Squareo (piece_Ofo (board_Start_1o oNil)))) [(4, [0, 1, 2, 7], [0, 1]), (7, [0, 1, 2, 3, 7, 10], [0, 1, 2, 7])] board_Startlp
theorem board_Startc_ok : CtxOK Try.prog board_Startc := mkC_ok ((set_Squareo_ok _ (piece_Ofo_ok _ (board_Start_1o_ok _ oNil_ok))))
noncomputable def board_Startl7r (f : Nat) (x0 x1 : Int) (x2 x3 : List Int) (x4 : Int) (x5 x6 : List Int) (x7 : Int) (x8 : List Int) (x9 : Int) : Option (Int × List Int × List Int × Int × List Int × List Int × Int × List Int) := lrun board_Startc 0 [0, 1, 2, 3, 7, 10] [0, 1, 2, 7] (loopOf Try.f11 7) f ([.s (.ptr 0 0 none 0), .s (.ptr 1 0 none 0), .s (.ptr 2 0 none 0), .s (.ptr 3 0 none 0), .s (.i .i64 x0), .s (.i .i64 x1)]) ([.cells 28 [.arr .i8 81 x2, .arr .i8 16 x3, .one [.i .i8 x4]], .cells 28 [.arr .i8 81 x5, .arr .i8 16 x6, .one [.i .i8 x7]], .cells 57 [.arr .i64 9 x8], .cells 3 [.one [.i .i64 x9]]]) board_Startl7d
theorem board_Startl7_step (f : Nat) (x0 x1 : Int) (x2 x3 : List Int) (x4 : Int) (x5 x6 : List Int) (x7 : Int) (x8 : List Int) (x9 : Int) : board_Startl7r (f + 1) x0 x1 x2 x3 x4 x5 x6 x7 x8 x9 = board_Startl7s (board_Startl7r f) x0 x1 x2 x3 x4 x5 x6 x7 x8 x9 := by kernel_rfl
theorem board_Startl7_eq : ∀ f, board_Startl7r f = board_Startl7 f
 | 0 => rfl
 | f + 1 => by funext x0 x1 x2 x3 x4 x5 x6 x7 x8 x9; rw [board_Startl7_step, board_Startl7_eq f]; rfl
noncomputable def board_Startl4r (f : Nat) (x0 : Int) (x1 x2 : List Int) (x3 : Int) (x4 x5 : List Int) (x6 : Int) (x7 : List Int) : Option (List Int × List Int × Int × List Int × List Int × Int) := lrun board_Startc 0 [0, 1, 2, 7] [0, 1] (loopOf Try.f11 4) f ([.s (.ptr 0 0 none 0), .s (.ptr 1 0 none 0), .s (.ptr 2 0 none 0), .s (.i .i64 x0)]) ([.cells 28 [.arr .i8 81 x1, .arr .i8 16 x2, .one [.i .i8 x3]], .cells 28 [.arr .i8 81 x4, .arr .i8 16 x5, .one [.i .i8 x6]], .cells 57 [.arr .i64 9 x7]]) board_Startl4d
theorem board_Startl4_step (f : Nat) (x0 : Int) (x1 x2 : List Int) (x3 : Int) (x4 x5 : List Int) (x6 : Int) (x7 : List Int) : board_Startl4r (f + 1) x0 x1 x2 x3 x4 x5 x6 x7 = board_Startl4s (board_Startl4r f) x0 x1 x2 x3 x4 x5 x6 x7 := by kernel_rfl
theorem board_Startl4_eq : ∀ f, board_Startl4r f = board_Startl4 f
 | 0 => rfl
 | f + 1 => by funext x0 x1 x2 x3 x4 x5 x6 x7; rw [board_Startl4_step, board_Startl4_eq f]; rfl
theorem board_Starts7 : LoopSound Try.prog board_Startc 0 (loopOf Try.f11 7) :=
 loopSound_by mixed board_Startc_ok (AllP.of (l' := []) (by kernel_rfl) trivial) (q := 7) (kin := [0, 1, 2, 3, 7, 10]) (kout := [0, 1, 2, 7]) (by kernel_rfl) (by kernel_rfl) fun vs objs K r h => by
  replace h : board_Startp7 vs objs K = some r := h
  unfold board_Startp7 at h
  split at h
  ·skip
   obtain ⟨t, h1, h2⟩ := ob_ok h
   rw [← board_Startl7_eq] at h1
   refine ⟨_, board_Startl7d, t, many, h1, fun e vs' objs' hd => ?_⟩
   unfold board_Startl7d at hd
   split at hd
   ·skip
    cases hd
    exact h2
   ·cases hd
  ·cases h
theorem board_Starts4 : LoopSound Try.prog board_Startc 0 (loopOf Try.f11 4) :=
 loopSound_by mixed board_Startc_ok (AllP.of (l' := [loopOf Try.f11 7]) (by kernel_rfl) ⟨board_Starts7, trivial⟩) (q := 4) (kin := [0, 1, 2, 7]) (kout := [0, 1]) (by kernel_rfl) (by kernel_rfl) fun vs objs K r h => by
  replace h : board_Startp4 vs objs K = some r := h
  unfold board_Startp4 at h
  split at h
  ·skip
   obtain ⟨t, h1, h2⟩ := ob_ok h
   rw [← board_Startl4_eq] at h1
   refine ⟨_, board_Startl4d, t, many, h1, fun e vs' objs' hd => ?_⟩
   unfold board_Startl4d at hd
   split at hd
   ·skip
    cases hd
    exact h2
   ·cases hd
  ·cases h
noncomputable def board_Startd : V → List Obj → Option (List Int × List Int × Int) := fun v objs => match v, objs with
 | .agg [.arr .i8 81 y0, .arr .i8 16 y1, .one [.i .i8 y2]], [] => some (y0, y1, y2)
 | _, _ => none
theorem board_Start_eq : fnE board_Startc Try.f11 ([]) ([]) board_Startd = board_Start  := by kernel_rfl
noncomputable def board_Starta {R : Type} (o : Orc) (vs : List V) (objs : List Obj) (K : Bool → V → List Obj → Option R) : Option R := match vs, objs with
 | [], [] => ob (board_Start ) fun z => K false (.agg [.arr .i8 81 (z.1), .arr .i8 16 (z.2.1), .one [.i .i8 (z.2.2)]]) ([])
 | _, _ => o 11 vs objs K
noncomputable def board_Starto (o : Orc) : Orc := hook 11 (board_Starta o) o
theorem board_Starto_ok (o : Orc) (ho : OSound Try.prog o) : OSound Try.prog (board_Starto o) := hook_ok ho fun vs objs K r h => by
 unfold board_Starta at h
 split at h
 ·skip
  obtain ⟨t, h1, h2⟩ := ob_ok h
  refine anyOK_of mixed board_Startc_ok (fn := Try.f11) (b := (Try.f11).body.getD .skip) (by kernel_rfl) (by kernel_rfl) (by kernel_rfl) ((board_Start_eq).trans h1) (m := 0) rfl (AllP.of (l' := [loopOf Try.f11 4]) (by kernel_rfl) ⟨board_Starts4, trivial⟩) fun v objs' hd => ?_
  unfold board_Startd at hd
  split at hd
  ·skip
   cases hd
   exact h2
  ·cases hd
 ·exact ho _ _ _ _ _ h
noncomputable def piece_Kindc : Ctx := mkC 28 (oNil) [] lpNil
theorem piece_Kindc_ok : CtxOK Try.prog piece_Kindc := mkC_ok (oNil_ok)
noncomputable def piece_Kindd : V → List Obj → Option (Int) := fun v objs => match v, objs with
 | .s (.i .i64 y0), [] => some (y0)
 | _, _ => none
theorem piece_Kind_eq (x0 : Int) : fnE piece_Kindc Try.f20 ([.s (.i .i8 x0)]) ([]) piece_Kindd = piece_Kind x0 := by kernel_rfl
noncomputable def piece_Kinda {R : Type} (o : Orc) (vs : List V) (objs : List Obj) (K : Bool → V → List Obj → Option R) : Option R := match vs, objs with
 | [.s (.i .i8 x0)], [] => ob (piece_Kind x0) fun y0 => K false (.s (.i .i64 y0)) ([])
 | _, _ => o 20 vs objs K
noncomputable def piece_Kindo (o : Orc) : Orc := hook 20 (piece_Kinda o) o
theorem piece_Kindo_ok (o : Orc) (ho : OSound Try.prog o) : OSound Try.prog (piece_Kindo o) := hook_ok ho fun vs objs K r h => by
 unfold piece_Kinda at h
 split at h
 ·skip
  obtain ⟨t, h1, h2⟩ := ob_ok h
  refine anyOK_of mixed piece_Kindc_ok (fn := Try.f20) (b := (Try.f20).body.getD .skip) (by kernel_rfl) (by kernel_rfl) (by kernel_rfl) ((piece_Kind_eq _).trans h1) (m := 0) rfl (AllP.of (l' := []) (by kernel_rfl) trivial) fun v objs' hd => ?_
  unfold piece_Kindd at hd
  split at hd
  ·skip
   cases hd
   exact h2
  ·cases hd
 ·exact ho _ _ _ _ _ h
noncomputable def key_mixc : Ctx := mkC 19 (oNil) [] lpNil
theorem key_mixc_ok : CtxOK Try.prog key_mixc := mkC_ok (oNil_ok)
noncomputable def key_mixd : V → List Obj → Option (Int) := fun v objs => match v, objs with
 | .s (.i .u64 y0), [] => some (y0)
 | _, _ => none
theorem key_mix_eq (x0 : Int) : fnE key_mixc Try.f21 ([.s (.i .u64 x0)]) ([]) key_mixd = key_mix x0 := by kernel_rfl
noncomputable def key_mixa {R : Type} (o : Orc) (vs : List V) (objs : List Obj) (K : Bool → V → List Obj → Option R) : Option R := match vs, objs with
 | [.s (.i .u64 x0)], [] => ob (key_mix x0) fun y0 => K false (.s (.i .u64 y0)) ([])
 | _, _ => o 21 vs objs K
noncomputable def key_mixo (o : Orc) : Orc := hook 21 (key_mixa o) o
theorem key_mixo_ok (o : Orc) (ho : OSound Try.prog o) : OSound Try.prog (key_mixo o) := hook_ok ho fun vs objs K r h => by
 unfold key_mixa at h
 split at h
 ·skip
  obtain ⟨t, h1, h2⟩ := ob_ok h
  refine anyOK_of mixed key_mixc_ok (fn := Try.f21) (b := (Try.f21).body.getD .skip) (by kernel_rfl) (by kernel_rfl) (by kernel_rfl) ((key_mix_eq _).trans h1) (m := 0) rfl (AllP.of (l' := []) (by kernel_rfl) trivial) fun v objs' hd => ?_
  unfold key_mixd at hd
  split at hd
  ·skip
   cases hd
   exact h2
  ·cases hd
 ·exact ho _ _ _ _ _ h
noncomputable def key_Piecec : Ctx := mkC 23 ((key_mixo (piece_Kindo oNil))) [] lpNil
theorem key_Piecec_ok : CtxOK Try.prog key_Piecec := mkC_ok ((key_mixo_ok _ (piece_Kindo_ok _ oNil_ok)))
noncomputable def key_Pieced : V → List Obj → Option (Int) := fun v objs => match v, objs with
 | .s (.i .u64 y0), [] => some (y0)
 | _, _ => none
theorem key_Piece_eq (x0 x1 : Int) : fnE key_Piecec Try.f17 ([.s (.i .i64 x0), .s (.i .i8 x1)]) ([]) key_Pieced = key_Piece x0 x1 := by kernel_rfl
noncomputable def key_Piecea {R : Type} (o : Orc) (vs : List V) (objs : List Obj) (K : Bool → V → List Obj → Option R) : Option R := match vs, objs with
 | [.s (.i .i64 x0), .s (.i .i8 x1)], [] => ob (key_Piece x0 x1) fun y0 => K false (.s (.i .u64 y0)) ([])
 | _, _ => o 17 vs objs K
noncomputable def key_Pieceo (o : Orc) : Orc := hook 17 (key_Piecea o) o
theorem key_Pieceo_ok (o : Orc) (ho : OSound Try.prog o) : OSound Try.prog (key_Pieceo o) := hook_ok ho fun vs objs K r h => by
 unfold key_Piecea at h
 split at h
 ·skip
  obtain ⟨t, h1, h2⟩ := ob_ok h
  refine anyOK_of mixed key_Piecec_ok (fn := Try.f17) (b := (Try.f17).body.getD .skip) (by kernel_rfl) (by kernel_rfl) (by kernel_rfl) ((key_Piece_eq _ _).trans h1) (m := 0) rfl (AllP.of (l' := []) (by kernel_rfl) trivial) fun v objs' hd => ?_
  unfold key_Pieced at hd
  split at hd
  ·skip
   cases hd
   exact h2
  ·cases hd
 ·exact ho _ _ _ _ _ h
noncomputable def key_Handc : Ctx := mkC 41 ((key_mixo oNil)) [] lpNil
theorem key_Handc_ok : CtxOK Try.prog key_Handc := mkC_ok ((key_mixo_ok _ oNil_ok))
noncomputable def key_Handd : V → List Obj → Option (Int) := fun v objs => match v, objs with
 | .s (.i .u64 y0), [] => some (y0)
 | _, _ => none
theorem key_Hand_eq (x0 x1 x2 : Int) : fnE key_Handc Try.f18 ([.s (.i .i64 x0), .s (.i .i64 x1), .s (.i .i64 x2)]) ([]) key_Handd = key_Hand x0 x1 x2 := by kernel_rfl
noncomputable def key_Handa {R : Type} (o : Orc) (vs : List V) (objs : List Obj) (K : Bool → V → List Obj → Option R) : Option R := match vs, objs with
 | [.s (.i .i64 x0), .s (.i .i64 x1), .s (.i .i64 x2)], [] => ob (key_Hand x0 x1 x2) fun y0 => K false (.s (.i .u64 y0)) ([])
 | _, _ => o 18 vs objs K
noncomputable def key_Hando (o : Orc) : Orc := hook 18 (key_Handa o) o
theorem key_Hando_ok (o : Orc) (ho : OSound Try.prog o) : OSound Try.prog (key_Hando o) := hook_ok ho fun vs objs K r h => by
 unfold key_Handa at h
 split at h
 ·skip
  obtain ⟨t, h1, h2⟩ := ob_ok h
  refine anyOK_of mixed key_Handc_ok (fn := Try.f18) (b := (Try.f18).body.getD .skip) (by kernel_rfl) (by kernel_rfl) (by kernel_rfl) ((key_Hand_eq _ _ _).trans h1) (m := 0) rfl (AllP.of (l' := []) (by kernel_rfl) trivial) fun v objs' hd => ?_
  unfold key_Handd at hd
  split at hd
  ·skip
   cases hd
   exact h2
  ·cases hd
 ·exact ho _ _ _ _ _ h
noncomputable def key_Sidec : Ctx := mkC 2 ((key_mixo oNil)) [] lpNil
theorem key_Sidec_ok : CtxOK Try.prog key_Sidec := mkC_ok ((key_mixo_ok _ oNil_ok))
noncomputable def key_Sided : V → List Obj → Option (Int) := fun v objs => match v, objs with
 | .s (.i .u64 y0), [] => some (y0)
 | _, _ => none
theorem key_Side_eq : fnE key_Sidec Try.f19 ([]) ([]) key_Sided = key_Side  := by kernel_rfl
noncomputable def key_Sidea {R : Type} (o : Orc) (vs : List V) (objs : List Obj) (K : Bool → V → List Obj → Option R) : Option R := match vs, objs with
 | [], [] => ob (key_Side ) fun y0 => K false (.s (.i .u64 y0)) ([])
 | _, _ => o 19 vs objs K
noncomputable def key_Sideo (o : Orc) : Orc := hook 19 (key_Sidea o) o
theorem key_Sideo_ok (o : Orc) (ho : OSound Try.prog o) : OSound Try.prog (key_Sideo o) := hook_ok ho fun vs objs K r h => by
 unfold key_Sidea at h
 split at h
 ·skip
  obtain ⟨t, h1, h2⟩ := ob_ok h
  refine anyOK_of mixed key_Sidec_ok (fn := Try.f19) (b := (Try.f19).body.getD .skip) (by kernel_rfl) (by kernel_rfl) (by kernel_rfl) ((key_Side_eq).trans h1) (m := 0) rfl (AllP.of (l' := []) (by kernel_rfl) trivial) fun v objs' hd => ?_
  unfold key_Sided at hd
  split at hd
  ·skip
   cases hd
   exact h2
  ·cases hd
 ·exact ho _ _ _ _ _ h
noncomputable def key_Ofl3d : Ex → List V → List Obj → Option (Int × List Int × List Int × Int) := fun e vs objs => match e, vs, objs with
 | .exit 0, [.s (.ptr 0 0 none 0), .s (.i .u64 y0)], [.cells 28 [.arr .i8 81 y1, .arr .i8 16 y2, .one [.i .i8 y3]]] => some (y0, y1, y2, y3)
 | _, _, _ => none
noncomputable def key_Ofl11d : Ex → List V → List Obj → Option (Int × List Int × Int × List Int × List Int × Int) := fun e vs objs => match e, vs, objs with
 | .exit 4, [.s (.ptr 0 0 none 0), .s (.i .u64 y0), .agg [.arr .i8 16 y1], .s (.i .i64 y2)], [.cells 28 [.arr .i8 81 y3, .arr .i8 16 y4, .one [.i .i8 y5]]] => some (y0, y1, y2, y3, y4, y5)
 | _, _, _ => none
noncomputable def key_Ofl8d : Ex → List V → List Obj → Option (Int × List Int × List Int × Int) := fun e vs objs => match e, vs, objs with
 | .exit 2, [.s (.ptr 0 0 none 0), .s (.i .u64 y0)], [.cells 28 [.arr .i8 81 y1, .arr .i8 16 y2, .one [.i .i8 y3]]] => some (y0, y1, y2, y3)
 | _, _, _ => none
noncomputable def key_Ofp3 {R : Type} (vs : List V) (objs : List Obj) (K : Ex → List V → List Obj → Option R) : Option R := match vs, objs with
 | [.s (.ptr 0 0 none 0), .s (.i .u64 x0), .agg [.arr .i8 81 x1], .s (.i .i64 x2)], [.cells 28 [.arr .i8 81 x3, .arr .i8 16 x4, .one [.i .i8 x5]]] => ob (key_Ofl3 many x0 x1 x2 x3 x4 x5) fun z => K (.exit 0) ([.s (.ptr 0 0 none 0), .s (.i .u64 (z.1))]) ([.cells 28 [.arr .i8 81 (z.2.1), .arr .i8 16 (z.2.2.1), .one [.i .i8 (z.2.2.2)]]])
 | _, _ => none
noncomputable def key_Ofp11 {R : Type} (vs : List V) (objs : List Obj) (K : Ex → List V → List Obj → Option R) : Option R := match vs, objs with
 | [.s (.ptr 0 0 none 0), .s (.i .u64 x0), .s (.i .i64 x1), .agg [.arr .i8 16 x2], .s (.i .i64 x3), .agg [.arr .i8 8 x4], .s (.i .i64 x5)], [.cells 28 [.arr .i8 81 x6, .arr .i8 16 x7, .one [.i .i8 x8]]] => ob (key_Ofl11 many x0 x1 x2 x3 x4 x5 x6 x7 x8) fun z => K (.exit 4) ([.s (.ptr 0 0 none 0), .s (.i .u64 (z.1)), .agg [.arr .i8 16 (z.2.1)], .s (.i .i64 (z.2.2.1))]) ([.cells 28 [.arr .i8 81 (z.2.2.2.1), .arr .i8 16 (z.2.2.2.2.1), .one [.i .i8 (z.2.2.2.2.2)]]])
 | _, _ => none
noncomputable def key_Ofp8 {R : Type} (vs : List V) (objs : List Obj) (K : Ex → List V → List Obj → Option R) : Option R := match vs, objs with
 | [.s (.ptr 0 0 none 0), .s (.i .u64 x0), .agg [.arr .i8 16 x1], .s (.i .i64 x2)], [.cells 28 [.arr .i8 81 x3, .arr .i8 16 x4, .one [.i .i8 x5]]] => ob (key_Ofl8 many x0 x1 x2 x3 x4 x5) fun z => K (.exit 2) ([.s (.ptr 0 0 none 0), .s (.i .u64 (z.1))]) ([.cells 28 [.arr .i8 81 (z.2.1), .arr .i8 16 (z.2.2.1), .one [.i .i8 (z.2.2.2)]]])
 | _, _ => none
noncomputable def key_Oflp : {R : Type} → Nat → List V → List Obj → (Ex → List V → List Obj → Option R) → Option R := fun q vs objs K => bif Nat.beq q 3 then key_Ofp3 vs objs K else bif Nat.beq q 11 then key_Ofp11 vs objs K else bif Nat.beq q 8 then key_Ofp8 vs objs K else none
noncomputable def key_Ofc : Ctx := mkC 49 ((key_Sideo (key_Hando (key_Pieceo oNil)))) [(3, [1, 3, 11, 12], [1, 3]), (8, [1, 3, 23, 24], [1, 3]), (11, [1, 3, 6, 23, 24, 28, 29], [1, 3, 23, 24])] key_Oflp
theorem key_Ofc_ok : CtxOK Try.prog key_Ofc := mkC_ok ((key_Sideo_ok _ (key_Hando_ok _ (key_Pieceo_ok _ oNil_ok))))
noncomputable def key_Ofl3r (f : Nat) (x0 : Int) (x1 : List Int) (x2 : Int) (x3 x4 : List Int) (x5 : Int) : Option (Int × List Int × List Int × Int) := lrun key_Ofc 0 [1, 3, 11, 12] [1, 3] (loopOf Try.f16 3) f ([.s (.ptr 0 0 none 0), .s (.i .u64 x0), .agg [.arr .i8 81 x1], .s (.i .i64 x2)]) ([.cells 28 [.arr .i8 81 x3, .arr .i8 16 x4, .one [.i .i8 x5]]]) key_Ofl3d
theorem key_Ofl3_step (f : Nat) (x0 : Int) (x1 : List Int) (x2 : Int) (x3 x4 : List Int) (x5 : Int) : key_Ofl3r (f + 1) x0 x1 x2 x3 x4 x5 = key_Ofl3s (key_Ofl3r f) x0 x1 x2 x3 x4 x5 := by kernel_rfl
theorem key_Ofl3_eq : ∀ f, key_Ofl3r f = key_Ofl3 f
 | 0 => rfl
 | f + 1 => by funext x0 x1 x2 x3 x4 x5; rw [key_Ofl3_step, key_Ofl3_eq f]; rfl
noncomputable def key_Ofl11r (f : Nat) (x0 x1 : Int) (x2 : List Int) (x3 : Int) (x4 : List Int) (x5 : Int) (x6 x7 : List Int) (x8 : Int) : Option (Int × List Int × Int × List Int × List Int × Int) := lrun key_Ofc 0 [1, 3, 6, 23, 24, 28, 29] [1, 3, 23, 24] (loopOf Try.f16 11) f ([.s (.ptr 0 0 none 0), .s (.i .u64 x0), .s (.i .i64 x1), .agg [.arr .i8 16 x2], .s (.i .i64 x3), .agg [.arr .i8 8 x4], .s (.i .i64 x5)]) ([.cells 28 [.arr .i8 81 x6, .arr .i8 16 x7, .one [.i .i8 x8]]]) key_Ofl11d
theorem key_Ofl11_step (f : Nat) (x0 x1 : Int) (x2 : List Int) (x3 : Int) (x4 : List Int) (x5 : Int) (x6 x7 : List Int) (x8 : Int) : key_Ofl11r (f + 1) x0 x1 x2 x3 x4 x5 x6 x7 x8 = key_Ofl11s (key_Ofl11r f) x0 x1 x2 x3 x4 x5 x6 x7 x8 := by kernel_rfl
theorem key_Ofl11_eq : ∀ f, key_Ofl11r f = key_Ofl11 f
 | 0 => rfl
 | f + 1 => by funext x0 x1 x2 x3 x4 x5 x6 x7 x8; rw [key_Ofl11_step, key_Ofl11_eq f]; rfl
noncomputable def key_Ofl8r (f : Nat) (x0 : Int) (x1 : List Int) (x2 : Int) (x3 x4 : List Int) (x5 : Int) : Option (Int × List Int × List Int × Int) := lrun key_Ofc 0 [1, 3, 23, 24] [1, 3] (loopOf Try.f16 8) f ([.s (.ptr 0 0 none 0), .s (.i .u64 x0), .agg [.arr .i8 16 x1], .s (.i .i64 x2)]) ([.cells 28 [.arr .i8 81 x3, .arr .i8 16 x4, .one [.i .i8 x5]]]) key_Ofl8d
theorem key_Ofl8_step (f : Nat) (x0 : Int) (x1 : List Int) (x2 : Int) (x3 x4 : List Int) (x5 : Int) : key_Ofl8r (f + 1) x0 x1 x2 x3 x4 x5 = key_Ofl8s (key_Ofl8r f) x0 x1 x2 x3 x4 x5 := by kernel_rfl
theorem key_Ofl8_eq : ∀ f, key_Ofl8r f = key_Ofl8 f
 | 0 => rfl
 | f + 1 => by funext x0 x1 x2 x3 x4 x5; rw [key_Ofl8_step, key_Ofl8_eq f]; rfl
theorem key_Ofs3 : LoopSound Try.prog key_Ofc 0 (loopOf Try.f16 3) :=
 loopSound_by mixed key_Ofc_ok (AllP.of (l' := []) (by kernel_rfl) trivial) (q := 3) (kin := [1, 3, 11, 12]) (kout := [1, 3]) (by kernel_rfl) (by kernel_rfl) fun vs objs K r h => by
  replace h : key_Ofp3 vs objs K = some r := h
  unfold key_Ofp3 at h
  split at h
  ·skip
   obtain ⟨t, h1, h2⟩ := ob_ok h
   rw [← key_Ofl3_eq] at h1
   refine ⟨_, key_Ofl3d, t, many, h1, fun e vs' objs' hd => ?_⟩
   unfold key_Ofl3d at hd
   split at hd
   ·skip
    cases hd
    exact h2
   ·cases hd
  ·cases h
theorem key_Ofs11 : LoopSound Try.prog key_Ofc 0 (loopOf Try.f16 11) :=
 loopSound_by mixed key_Ofc_ok (AllP.of (l' := []) (by kernel_rfl) trivial) (q := 11) (kin := [1, 3, 6, 23, 24, 28, 29]) (kout := [1, 3, 23, 24]) (by kernel_rfl) (by kernel_rfl) fun vs objs K r h => by
  replace h : key_Ofp11 vs objs K = some r := h
  unfold key_Ofp11 at h
  split at h
  ·skip
   obtain ⟨t, h1, h2⟩ := ob_ok h
   rw [← key_Ofl11_eq] at h1
   refine ⟨_, key_Ofl11d, t, many, h1, fun e vs' objs' hd => ?_⟩
   unfold key_Ofl11d at hd
   split at hd
   ·skip
    cases hd
    exact h2
   ·cases hd
  ·cases h
theorem key_Ofs8 : LoopSound Try.prog key_Ofc 0 (loopOf Try.f16 8) :=
 loopSound_by mixed key_Ofc_ok (AllP.of (l' := [loopOf Try.f16 11]) (by kernel_rfl) ⟨key_Ofs11, trivial⟩) (q := 8) (kin := [1, 3, 23, 24]) (kout := [1, 3]) (by kernel_rfl) (by kernel_rfl) fun vs objs K r h => by
  replace h : key_Ofp8 vs objs K = some r := h
  unfold key_Ofp8 at h
  split at h
  ·skip
   obtain ⟨t, h1, h2⟩ := ob_ok h
   rw [← key_Ofl8_eq] at h1
   refine ⟨_, key_Ofl8d, t, many, h1, fun e vs' objs' hd => ?_⟩
   unfold key_Ofl8d at hd
   split at hd
   ·skip
    cases hd
    exact h2
   ·cases hd
  ·cases h
noncomputable def key_Ofd : V → List Obj → Option (Int) := fun v objs => match v, objs with
 | .s (.i .u64 y0), [] => some (y0)
 | _, _ => none
theorem key_Of_eq (x0 x1 : List Int) (x2 : Int) : fnE key_Ofc Try.f16 ([.agg [.arr .i8 81 x0, .arr .i8 16 x1, .one [.i .i8 x2]]]) ([]) key_Ofd = key_Of x0 x1 x2 := by kernel_rfl
noncomputable def key_Ofa {R : Type} (o : Orc) (vs : List V) (objs : List Obj) (K : Bool → V → List Obj → Option R) : Option R := match vs, objs with
 | [.agg [.arr .i8 81 x0, .arr .i8 16 x1, .one [.i .i8 x2]]], [] => ob (key_Of x0 x1 x2) fun y0 => K false (.s (.i .u64 y0)) ([])
 | _, _ => o 16 vs objs K
noncomputable def key_Ofo (o : Orc) : Orc := hook 16 (key_Ofa o) o
theorem key_Ofo_ok (o : Orc) (ho : OSound Try.prog o) : OSound Try.prog (key_Ofo o) := hook_ok ho fun vs objs K r h => by
 unfold key_Ofa at h
 split at h
 ·skip
  obtain ⟨t, h1, h2⟩ := ob_ok h
  refine anyOK_of mixed key_Ofc_ok (fn := Try.f16) (b := (Try.f16).body.getD .skip) (by kernel_rfl) (by kernel_rfl) (by kernel_rfl) ((key_Of_eq _ _ _).trans h1) (m := 0) rfl (AllP.of (l' := [loopOf Try.f16 3, loopOf Try.f16 8]) (by kernel_rfl) ⟨key_Ofs3, key_Ofs8, trivial⟩) fun v objs' hd => ?_
  unfold key_Ofd at hd
  split at hd
  ·skip
   cases hd
   exact h2
  ·cases hd
 ·exact ho _ _ _ _ _ h
noncomputable def table_atc : Ctx := mkC 19 ((key_Ofo oNil)) [] lpNil
theorem table_atc_ok : CtxOK Try.prog table_atc := mkC_ok ((key_Ofo_ok _ oNil_ok))
noncomputable def table_atd : V → List Obj → Option (Nat) := fun v objs => match v, objs with
 | .s (.ptr 1 0 (some (y0, 1)) 0), [] => some (y0)
 | _, _ => none
theorem table_at_eq (x0 x1 : List Int) (x2 : Int) (x3 : Nat) (x4 : Int) (x5 : Nat) (x6 : List (List Int)) : fnE table_atc Try.f12 ([.s (.ptr 0 0 none 0), .agg [.arr .i8 81 x0, .arr .i8 16 x1, .one [.i .i8 x2]]]) ([.rcells 52 [.one [.sl 1 0 x3 true, .i .i64 x4]], .sli 56 true (.rows kL0 x5 x6)]) (pureD 2 table_atd) = table_at x0 x1 x2 x3 x4 x5 x6 := by kernel_rfl
noncomputable def table_ata {R : Type} (o : Orc) (vs : List V) (objs : List Obj) (K : Bool → V → List Obj → Option R) : Option R := match vs, List.map Obj.toRO objs with
 | [.s (.ptr 0 0 none 0), .agg [.arr .i8 81 x0, .arr .i8 16 x1, .one [.i .i8 x2]]], [.rcells 52 [.one [.sl 1 0 x3 true, .i .i64 x4]], .sli 56 true (.rows kk0 x5 x6)] => bif decide (kk0 = kL0) then ob (table_at x0 x1 x2 x3 x4 x5 x6) fun y0 => K true (.s (.ptr 1 0 (some (y0, 1)) 0)) ([]) else none
 | _, _ => o 12 vs objs K
noncomputable def table_ato (o : Orc) : Orc := hook 12 (table_ata o) o
theorem table_ato_ok (o : Orc) (ho : OSound Try.prog o) : OSound Try.prog (table_ato o) := hook_ok ho fun vs objs K r h => by
 unfold table_ata at h
 split at h
 ·skip
  have g := (bif_some h).1
  replace h := (bif_some h).2
  obtain rfl := of_decide_eq_true g
  have hq : List.map Obj.toRO objs = _ := (by rename_i hq; first | exact hq | assumption)
  obtain ⟨t, h1, h2⟩ := ob_ok h
  refine purOK_by mixed table_atc_ok (m := 2) (fn := Try.f12) (b := (Try.f12).body.getD .skip) (by kernel_rfl) (by kernel_rfl) (by kernel_rfl) hq (by kernel_rfl) (by kernel_rfl) (AllP.of (l' := []) (by kernel_rfl) trivial) ((table_at_eq _ _ _ _ _ _ _).trans h1) fun v objs' hd => ?_
  unfold table_atd at hd
  split at hd
  ·skip
   cases hd
   exact h2
  ·cases hd
 ·exact ho _ _ _ _ _ h
noncomputable def table_Putc : Ctx := mkC 27 ((table_ato oNil)) [] lpNil
theorem table_Putc_ok : CtxOK Try.prog table_Putc := mkC_ok ((table_ato_ok _ oNil_ok))
noncomputable def table_Putd : V → List Obj → Option (Nat × Int × Nat × List (List Int)) := fun v objs => match v, objs with
 | .tup [], [.cells 52 [.one [.sl 1 0 y0 true, .i .i64 y1]], .sli 56 false (.rows kk0 y2 y3)] => bif decide (kk0 = kL0) then some (y0, y1, y2, y3) else none
 | _, _ => none
theorem table_Put_eq (x0 x1 : List Int) (x2 x3 : Int) (x4 x5 : Int) (x6 x7 x8 : Int) (x9 : Bool) (x10 : Nat) (x11 : Int) (x12 : Nat) (x13 : List (List Int)) : fnE table_Putc Try.f7 ([.s (.ptr 0 0 none 0), .agg [.arr .i8 81 x0, .arr .i8 16 x1, .one [.i .i8 x2]], .agg [.one [.i .i64 x3, .i .i64 x4, .i .i64 x5, .i .i64 x6, .i .i64 x7, .i .i64 x8, .b x9]]]) ([.cells 52 [.one [.sl 1 0 x10 true, .i .i64 x11]], .sli 56 false (.rows kL0 x12 x13)]) table_Putd = table_Put x0 x1 x2 x3 x4 x5 x6 x7 x8 x9 x10 x11 x12 x13 := by kernel_rfl
noncomputable def table_Puta {R : Type} (o : Orc) (vs : List V) (objs : List Obj) (K : Bool → V → List Obj → Option R) : Option R := match vs, objs with
 | [.s (.ptr 0 0 none 0), .agg [.arr .i8 81 x0, .arr .i8 16 x1, .one [.i .i8 x2]], .agg [.one [.i .i64 x3, .i .i64 x4, .i .i64 x5, .i .i64 x6, .i .i64 x7, .i .i64 x8, .b x9]]], [.cells 52 [.one [.sl 1 0 x10 true, .i .i64 x11]], .sli 56 false (.rows kk0 x12 x13)] => bif decide (kk0 = kL0) then ob (table_Put x0 x1 x2 x3 x4 x5 x6 x7 x8 x9 x10 x11 x12 x13) fun z => K false (.tup []) ([.cells 52 [.one [.sl 1 0 (z.1) true, .i .i64 (z.2.1)]], .sli 56 false (.rows kL0 (z.2.2.1) (z.2.2.2))]) else none
 | _, _ => o 7 vs objs K
noncomputable def table_Puto (o : Orc) : Orc := hook 7 (table_Puta o) o
theorem table_Puto_ok (o : Orc) (ho : OSound Try.prog o) : OSound Try.prog (table_Puto o) := hook_ok ho fun vs objs K r h => by
 unfold table_Puta at h
 split at h
 ·skip
  have g := (bif_some h).1
  replace h := (bif_some h).2
  obtain rfl := of_decide_eq_true g
  obtain ⟨t, h1, h2⟩ := ob_ok h
  refine anyOK_of mixed table_Putc_ok (fn := Try.f7) (b := (Try.f7).body.getD .skip) (by kernel_rfl) (by kernel_rfl) (by kernel_rfl) ((table_Put_eq _ _ _ _ _ _ _ _ _ _ _ _ _ _).trans h1) (m := 2) rfl (AllP.of (l' := []) (by kernel_rfl) trivial) fun v objs' hd => ?_
  unfold table_Putd at hd
  split at hd
  ·skip
   have g := (bif_some hd).1
   replace hd := (bif_some hd).2
   obtain rfl := of_decide_eq_true g
   cases hd
   exact h2
  ·cases hd
 ·exact ho _ _ _ _ _ h
noncomputable def table_Getc : Ctx := mkC 28 ((table_ato oNil)) [] lpNil
theorem table_Getc_ok : CtxOK Try.prog table_Getc := mkC_ok ((table_ato_ok _ oNil_ok))
noncomputable def table_Getd : V → List Obj → Option (Int × Int × Int × Int × Int × Int × Bool × Bool) := fun v objs => match v, objs with
 | .tup [W.agg [.one [.i .i64 y0, .i .i64 y1, .i .i64 y2, .i .i64 y3, .i .i64 y4, .i .i64 y5, .b y6]], W.s (.b y7)], [] => some (y0, y1, y2, y3, y4, y5, y6, y7)
 | _, _ => none
theorem table_Get_eq (x0 x1 : List Int) (x2 : Int) (x3 : Nat) (x4 : Int) (x5 : Nat) (x6 : List (List Int)) : fnE table_Getc Try.f8 ([.s (.ptr 0 0 none 0), .agg [.arr .i8 81 x0, .arr .i8 16 x1, .one [.i .i8 x2]]]) ([.rcells 52 [.one [.sl 1 0 x3 true, .i .i64 x4]], .sli 56 true (.rows kL0 x5 x6)]) (pureD 2 table_Getd) = table_Get x0 x1 x2 x3 x4 x5 x6 := by kernel_rfl
noncomputable def table_Geta {R : Type} (o : Orc) (vs : List V) (objs : List Obj) (K : Bool → V → List Obj → Option R) : Option R := match vs, List.map Obj.toRO objs with
 | [.s (.ptr 0 0 none 0), .agg [.arr .i8 81 x0, .arr .i8 16 x1, .one [.i .i8 x2]]], [.rcells 52 [.one [.sl 1 0 x3 true, .i .i64 x4]], .sli 56 true (.rows kk0 x5 x6)] => bif decide (kk0 = kL0) then ob (table_Get x0 x1 x2 x3 x4 x5 x6) fun z => K true (.tup [W.agg [.one [.i .i64 (z.1), .i .i64 (z.2.1), .i .i64 (z.2.2.1), .i .i64 (z.2.2.2.1), .i .i64 (z.2.2.2.2.1), .i .i64 (z.2.2.2.2.2.1), .b (z.2.2.2.2.2.2.1)]], W.s (.b (z.2.2.2.2.2.2.2))]) ([]) else none
 | _, _ => o 8 vs objs K
noncomputable def table_Geto (o : Orc) : Orc := hook 8 (table_Geta o) o
theorem table_Geto_ok (o : Orc) (ho : OSound Try.prog o) : OSound Try.prog (table_Geto o) := hook_ok ho fun vs objs K r h => by
 unfold table_Geta at h
 split at h
 ·skip
  have g := (bif_some h).1
  replace h := (bif_some h).2
  obtain rfl := of_decide_eq_true g
  have hq : List.map Obj.toRO objs = _ := (by rename_i hq; first | exact hq | assumption)
  obtain ⟨t, h1, h2⟩ := ob_ok h
  refine purOK_by mixed table_Getc_ok (m := 2) (fn := Try.f8) (b := (Try.f8).body.getD .skip) (by kernel_rfl) (by kernel_rfl) (by kernel_rfl) hq (by kernel_rfl) (by kernel_rfl) (AllP.of (l' := []) (by kernel_rfl) trivial) ((table_Get_eq _ _ _ _ _ _ _).trans h1) fun v objs' hd => ?_
  unfold table_Getd at hd
  split at hd
  ·skip
   cases hd
   exact h2
  ·cases hd
 ·exact ho _ _ _ _ _ h
noncomputable def table_Lenc : Ctx := mkC 7 (oNil) [] lpNil
theorem table_Lenc_ok : CtxOK Try.prog table_Lenc := mkC_ok (oNil_ok)
noncomputable def table_Lend : V → List Obj → Option (Int) := fun v objs => match v, objs with
 | .s (.i .i64 y0), [] => some (y0)
 | _, _ => none
theorem table_Len_eq (x0 : Nat) (x1 : Int) (x2 : Nat) (x3 : List (List Int)) : fnE table_Lenc Try.f10 ([.s (.ptr 0 0 none 0)]) ([.rcells 52 [.one [.sl 1 0 x0 true, .i .i64 x1]], .sli 56 true (.rows kL0 x2 x3)]) (pureD 2 table_Lend) = table_Len x0 x1 x2 x3 := by kernel_rfl
noncomputable def table_Lena {R : Type} (o : Orc) (vs : List V) (objs : List Obj) (K : Bool → V → List Obj → Option R) : Option R := match vs, List.map Obj.toRO objs with
 | [.s (.ptr 0 0 none 0)], [.rcells 52 [.one [.sl 1 0 x0 true, .i .i64 x1]], .sli 56 true (.rows kk0 x2 x3)] => bif decide (kk0 = kL0) then ob (table_Len x0 x1 x2 x3) fun y0 => K true (.s (.i .i64 y0)) ([]) else none
 | _, _ => o 10 vs objs K
noncomputable def table_Leno (o : Orc) : Orc := hook 10 (table_Lena o) o
theorem table_Leno_ok (o : Orc) (ho : OSound Try.prog o) : OSound Try.prog (table_Leno o) := hook_ok ho fun vs objs K r h => by
 unfold table_Lena at h
 split at h
 ·skip
  have g := (bif_some h).1
  replace h := (bif_some h).2
  obtain rfl := of_decide_eq_true g
  have hq : List.map Obj.toRO objs = _ := (by rename_i hq; first | exact hq | assumption)
  obtain ⟨t, h1, h2⟩ := ob_ok h
  refine purOK_by mixed table_Lenc_ok (m := 2) (fn := Try.f10) (b := (Try.f10).body.getD .skip) (by kernel_rfl) (by kernel_rfl) (by kernel_rfl) hq (by kernel_rfl) (by kernel_rfl) (AllP.of (l' := []) (by kernel_rfl) trivial) ((table_Len_eq _ _ _ _).trans h1) fun v objs' hd => ?_
  unfold table_Lend at hd
  split at hd
  ·skip
   cases hd
   exact h2
  ·cases hd
 ·exact ho _ _ _ _ _ h
noncomputable def law18_keepsc : Ctx := mkC 57 ((table_Leno (table_Geto (table_Puto (board_Starto (table_Newo oNil)))))) [] lpNil
theorem law18_keepsc_ok : CtxOK Try.prog law18_keepsc := mkC_ok ((table_Leno_ok _ (table_Geto_ok _ (table_Puto_ok _ (board_Starto_ok _ (table_Newo_ok _ oNil_ok))))))
noncomputable def law18_keepsd : V → List Obj → Option (Bool) := fun v objs => match v, objs with
 | .s (.b y0), [] => some (y0)
 | _, _ => none
theorem law18_keeps_eq : fnE law18_keepsc Try.f5 ([]) ([]) law18_keepsd = law18_keeps  := by kernel_rfl
noncomputable def law18_keepsa {R : Type} (o : Orc) (vs : List V) (objs : List Obj) (K : Bool → V → List Obj → Option R) : Option R := match vs, objs with
 | [], [] => ob (law18_keeps ) fun y0 => K false (.s (.b y0)) ([])
 | _, _ => o 5 vs objs K
noncomputable def law18_keepso (o : Orc) : Orc := hook 5 (law18_keepsa o) o
theorem law18_keepso_ok (o : Orc) (ho : OSound Try.prog o) : OSound Try.prog (law18_keepso o) := hook_ok ho fun vs objs K r h => by
 unfold law18_keepsa at h
 split at h
 ·skip
  obtain ⟨t, h1, h2⟩ := ob_ok h
  refine anyOK_of mixed law18_keepsc_ok (fn := Try.f5) (b := (Try.f5).body.getD .skip) (by kernel_rfl) (by kernel_rfl) (by kernel_rfl) ((law18_keeps_eq).trans h1) (m := 0) rfl (AllP.of (l' := []) (by kernel_rfl) trivial) fun v objs' hd => ?_
  unfold law18_keepsd at hd
  split at hd
  ·skip
   cases hd
   exact h2
  ·cases hd
 ·exact ho _ _ _ _ _ h
noncomputable def table_at_v1c : Ctx := mkC 19 (oNil) [] lpNil
theorem table_at_v1c_ok : CtxOK Try.prog table_at_v1c := mkC_ok (oNil_ok)
noncomputable def table_at_v1d : V → List Obj → Option (Empty) := fun v objs => match v, objs with
 | _, _ => none
theorem table_at_v1_eq (x0 x1 : List Int) (x2 : Int) : fnE table_at_v1c Try.f12 ([.s .nilp, .agg [.arr .i8 81 x0, .arr .i8 16 x1, .one [.i .i8 x2]]]) ([]) table_at_v1d = table_at_v1 x0 x1 x2 := by kernel_rfl
noncomputable def table_at_v1a {R : Type} (o : Orc) (vs : List V) (objs : List Obj) (K : Bool → V → List Obj → Option R) : Option R := match vs, objs with
 | [.s .nilp, .agg [.arr .i8 81 x0, .arr .i8 16 x1, .one [.i .i8 x2]]], [] => ob (table_at_v1 x0 x1 x2) fun _ => none
 | _, _ => o 12 vs objs K
noncomputable def table_at_v1o (o : Orc) : Orc := hook 12 (table_at_v1a o) o
theorem table_at_v1o_ok (o : Orc) (ho : OSound Try.prog o) : OSound Try.prog (table_at_v1o o) := hook_ok ho fun vs objs K r h => by
 unfold table_at_v1a at h
 split at h
 ·skip
  obtain ⟨t, h1, h2⟩ := ob_ok h
  refine anyOK_of mixed table_at_v1c_ok (fn := Try.f12) (b := (Try.f12).body.getD .skip) (by kernel_rfl) (by kernel_rfl) (by kernel_rfl) ((table_at_v1_eq _ _ _).trans h1) (m := 0) rfl (AllP.of (l' := []) (by kernel_rfl) trivial) fun v objs' hd => ?_
  unfold table_at_v1d at hd
  split at hd
  ·cases hd
 ·exact ho _ _ _ _ _ h
noncomputable def table_Put_v1c : Ctx := mkC 27 ((table_at_v1o oNil)) [] lpNil
theorem table_Put_v1c_ok : CtxOK Try.prog table_Put_v1c := mkC_ok ((table_at_v1o_ok _ oNil_ok))
noncomputable def table_Put_v1d : V → List Obj → Option (Empty) := fun v objs => match v, objs with
 | _, _ => none
theorem table_Put_v1_eq (x0 x1 : List Int) (x2 x3 : Int) (x4 x5 : Int) (x6 x7 x8 : Int) (x9 : Bool) : fnE table_Put_v1c Try.f7 ([.s .nilp, .agg [.arr .i8 81 x0, .arr .i8 16 x1, .one [.i .i8 x2]], .agg [.one [.i .i64 x3, .i .i64 x4, .i .i64 x5, .i .i64 x6, .i .i64 x7, .i .i64 x8, .b x9]]]) ([]) table_Put_v1d = table_Put_v1 x0 x1 x2 x3 x4 x5 x6 x7 x8 x9 := by kernel_rfl
noncomputable def table_Put_v1a {R : Type} (o : Orc) (vs : List V) (objs : List Obj) (K : Bool → V → List Obj → Option R) : Option R := match vs, objs with
 | [.s .nilp, .agg [.arr .i8 81 x0, .arr .i8 16 x1, .one [.i .i8 x2]], .agg [.one [.i .i64 x3, .i .i64 x4, .i .i64 x5, .i .i64 x6, .i .i64 x7, .i .i64 x8, .b x9]]], [] => ob (table_Put_v1 x0 x1 x2 x3 x4 x5 x6 x7 x8 x9) fun _ => none
 | _, _ => o 7 vs objs K
noncomputable def table_Put_v1o (o : Orc) : Orc := hook 7 (table_Put_v1a o) o
theorem table_Put_v1o_ok (o : Orc) (ho : OSound Try.prog o) : OSound Try.prog (table_Put_v1o o) := hook_ok ho fun vs objs K r h => by
 unfold table_Put_v1a at h
 split at h
 ·skip
  obtain ⟨t, h1, h2⟩ := ob_ok h
  refine anyOK_of mixed table_Put_v1c_ok (fn := Try.f7) (b := (Try.f7).body.getD .skip) (by kernel_rfl) (by kernel_rfl) (by kernel_rfl) ((table_Put_v1_eq _ _ _ _ _ _ _ _ _ _).trans h1) (m := 0) rfl (AllP.of (l' := []) (by kernel_rfl) trivial) fun v objs' hd => ?_
  unfold table_Put_v1d at hd
  split at hd
  ·cases hd
 ·exact ho _ _ _ _ _ h
noncomputable def law18_TableApartl12d : Ex → List V → List Obj → Option ((Bool) ⊕ (Unit)) := fun e vs objs => match e, vs, objs with
 | .ret, [.s (.b y0)], [] => some (.inl (y0))
 | .exit 0, [.s .bad], [] => some (.inr ())
 | _, _, _ => none
noncomputable def law18_TableApartp12 {R : Type} (vs : List V) (objs : List Obj) (K : Ex → List V → List Obj → Option R) : Option R := match vs, objs with
 | [.s (.ptr 0 0 none 0), .s (.ptr 1 0 none 0), .s (.ptr 2 0 none 0), .s (.sl 3 0 x0 true), .s (.i .i64 x1), .s (.i .i64 x2)], [.cells 28 [.arr .i8 81 x3, .arr .i8 16 x4, .one [.i .i8 x5]], .cells 52 [.one [.sl 4 0 x6 true, .i .i64 x7]], .cells 37 [.one [.i .i64 x8, .i .i64 x9, .i .i64 x10, .i .i64 x11, .i .i64 x12, .i .i64 x13, .b x14]], .sli 28 false (.rows kk0 x15 x16), .sli 56 false (.rows kk1 x17 x18)] => bif decide (kk0 = kL1) then bif decide (kk1 = kL0) then ob (law18_TableApartl12 many x0 x1 x2 x3 x4 x5 x6 x7 x8 x9 x10 x11 x12 x13 x14 x15 x16 x17 x18) fun t0 => sw t0 (fun y0 => K (.ret) ([.s (.b y0)]) ([])) (fun _ => K (.exit 0) ([.s .bad]) ([])) else none else none
 | _, _ => none
noncomputable def law18_TableApartlp : {R : Type} → Nat → List V → List Obj → (Ex → List V → List Obj → Option R) → Option R := fun q vs objs K => bif Nat.beq q 12 then law18_TableApartp12 vs objs K else none
noncomputable def law18_TableApartc : Ctx := mkC 86 ((table_Geto (table_Puto (table_Put_v1o (table_Newo (law18_keepso oNil)))))) [(12, [3, 7, 9, 60, 61, 62], [6])] law18_TableApartlp
theorem law18_TableApartc_ok : CtxOK Try.prog law18_TableApartc := mkC_ok ((table_Geto_ok _ (table_Puto_ok _ (table_Put_v1o_ok _ (table_Newo_ok _ (law18_keepso_ok _ oNil_ok))))))
noncomputable def law18_TableApartl12r (f : Nat) (x0 : Nat) (x1 x2 : Int) (x3 x4 : List Int) (x5 : Int) (x6 : Nat) (x7 x8 : Int) (x9 x10 : Int) (x11 x12 x13 : Int) (x14 : Bool) (x15 : Nat) (x16 : List (List Int)) (x17 : Nat) (x18 : List (List Int)) : Option ((Bool) ⊕ (Unit)) := lrun law18_TableApartc 0 [3, 7, 9, 60, 61, 62] [6] (loopOf Try.f3 12) f ([.s (.ptr 0 0 none 0), .s (.ptr 1 0 none 0), .s (.ptr 2 0 none 0), .s (.sl 3 0 x0 true), .s (.i .i64 x1), .s (.i .i64 x2)]) ([.cells 28 [.arr .i8 81 x3, .arr .i8 16 x4, .one [.i .i8 x5]], .cells 52 [.one [.sl 4 0 x6 true, .i .i64 x7]], .cells 37 [.one [.i .i64 x8, .i .i64 x9, .i .i64 x10, .i .i64 x11, .i .i64 x12, .i .i64 x13, .b x14]], .sli 28 false (.rows kL1 x15 x16), .sli 56 false (.rows kL0 x17 x18)]) law18_TableApartl12d
theorem law18_TableApartl12_step (f : Nat) (x0 : Nat) (x1 x2 : Int) (x3 x4 : List Int) (x5 : Int) (x6 : Nat) (x7 x8 : Int) (x9 x10 : Int) (x11 x12 x13 : Int) (x14 : Bool) (x15 : Nat) (x16 : List (List Int)) (x17 : Nat) (x18 : List (List Int)) : law18_TableApartl12r (f + 1) x0 x1 x2 x3 x4 x5 x6 x7 x8 x9 x10 x11 x12 x13 x14 x15 x16 x17 x18 = law18_TableApartl12s (law18_TableApartl12r f) x0 x1 x2 x3 x4 x5 x6 x7 x8 x9 x10 x11 x12 x13 x14 x15 x16 x17 x18 := by kernel_rfl
theorem law18_TableApartl12_eq : ∀ f, law18_TableApartl12r f = law18_TableApartl12 f
 | 0 => rfl
 | f + 1 => by funext x0 x1 x2 x3 x4 x5 x6 x7 x8 x9 x10 x11 x12 x13 x14 x15 x16 x17 x18; rw [law18_TableApartl12_step, law18_TableApartl12_eq f]; rfl
theorem law18_TableAparts12 : LoopSound Try.prog law18_TableApartc 0 (loopOf Try.f3 12) :=
 loopSound_by mixed law18_TableApartc_ok (AllP.of (l' := []) (by kernel_rfl) trivial) (q := 12) (kin := [3, 7, 9, 60, 61, 62]) (kout := [6]) (by kernel_rfl) (by kernel_rfl) fun vs objs K r h => by
  replace h : law18_TableApartp12 vs objs K = some r := h
  unfold law18_TableApartp12 at h
  split at h
  ·skip
   have g := (bif_some h).1
   replace h := (bif_some h).2
   obtain rfl := of_decide_eq_true g
   have g := (bif_some h).1
   replace h := (bif_some h).2
   obtain rfl := of_decide_eq_true g
   obtain ⟨t, h1, h2⟩ := ob_ok h
   rw [← law18_TableApartl12_eq] at h1
   refine ⟨_, law18_TableApartl12d, t, many, h1, fun e vs' objs' hd => ?_⟩
   unfold law18_TableApartl12d at hd
   split at hd
   ·skip
    cases hd
    exact h2
   ·skip
    cases hd
    exact h2
   ·cases hd
  ·cases h
noncomputable def law18_TableApartd : V → List Obj → Option (Bool) := fun v objs => match v, objs with
 | .s (.b y0), [] => some (y0)
 | _, _ => none
theorem law18_TableApart_eq (x0 x1 : List Int) (x2 x3 x4 : Int) : fnE law18_TableApartc Try.f3 ([.agg [.arr .i8 81 x0, .arr .i8 16 x1, .one [.i .i8 x2]], .s (.i .i64 x3), .s (.i .i8 x4)]) ([]) law18_TableApartd = law18_TableApart x0 x1 x2 x3 x4 := by kernel_rfl
noncomputable def law18_TableAparta {R : Type} (o : Orc) (vs : List V) (objs : List Obj) (K : Bool → V → List Obj → Option R) : Option R := match vs, objs with
 | [.agg [.arr .i8 81 x0, .arr .i8 16 x1, .one [.i .i8 x2]], .s (.i .i64 x3), .s (.i .i8 x4)], [] => ob (law18_TableApart x0 x1 x2 x3 x4) fun y0 => K false (.s (.b y0)) ([])
 | _, _ => o 3 vs objs K
noncomputable def law18_TableAparto (o : Orc) : Orc := hook 3 (law18_TableAparta o) o
theorem law18_TableApart_ok {vs : List V} {objs : List Obj} (x0 x1 : List Int) (x2 x3 x4 : Int) {R : Type} {K : Bool → V → List Obj → Option R} {r : R} (hv : vs = [.agg [.arr .i8 81 x0, .arr .i8 16 x1, .one [.i .i8 x2]], .s (.i .i64 x3), .s (.i .i8 x4)]) (ho : objs = []) (h : ob (law18_TableApart x0 x1 x2 x3 x4) (fun y0 => K false (.s (.b y0)) ([])) = some r) :
  ∃ p v objs', K p v objs' = some r ∧ AnyOK Try.prog 3 vs objs p v objs' := by
 subst hv
 subst ho
 obtain ⟨t, h1, h2⟩ := ob_ok h
 refine anyOK_of mixed law18_TableApartc_ok (fn := Try.f3) (b := (Try.f3).body.getD .skip) (by kernel_rfl) (by kernel_rfl) (by kernel_rfl) ((law18_TableApart_eq _ _ _ _ _).trans h1) (m := 0) rfl (AllP.of (l' := [loopOf Try.f3 12]) (by kernel_rfl) ⟨law18_TableAparts12, trivial⟩) fun v objs' hd => ?_
 unfold law18_TableApartd at hd
 split at hd
 ·skip
  cases hd
  exact h2
 ·cases hd
theorem law18_TableAparto_ok (o : Orc) (ho : OSound Try.prog o) : OSound Try.prog (law18_TableAparto o) := hook_ok ho fun vs objs K r h => by
 unfold law18_TableAparta at h
 split at h
 ·skip
  obtain ⟨t, h1, h2⟩ := ob_ok h
  refine anyOK_of mixed law18_TableApartc_ok (fn := Try.f3) (b := (Try.f3).body.getD .skip) (by kernel_rfl) (by kernel_rfl) (by kernel_rfl) ((law18_TableApart_eq _ _ _ _ _).trans h1) (m := 0) rfl (AllP.of (l' := [loopOf Try.f3 12]) (by kernel_rfl) ⟨law18_TableAparts12, trivial⟩) fun v objs' hd => ?_
  unfold law18_TableApartd at hd
  split at hd
  ·skip
   cases hd
   exact h2
  ·cases hd
 ·exact ho _ _ _ _ _ h
end Go.Kk.KkTA
