/- Printed by a tool of this project (KkGen): the program's functions come to the plain ones. -/
import Derived.Test.YthhkpianmpgeiaaDoorProg
import Derived.Test.YthhkpianmpgeiaaDoorKkB
import Derived.Test.YthhkpianmpgeiaaDoorKkPl
namespace Go.Kk.KkBS
open Go.Proofs Go.Kk.Pl
set_option maxRecDepth 100000
set_option maxHeartbeats 4000000
def tab : Tab := [(1, .sc (.f)),
 (2, .sc (.i .i64)),
 (3, .sc (.i .i64)),
 (4, .sc (.b)),
 (5, .sc (.i .u8)),
 (6, .sc (.i .u8)),
 (7, .st [.one [.i .i64, .i .i64, .b, .i .u8]] [(0, 0, 2), (0, 1, 3), (0, 2, 4), (0, 3, 6)]),
 (8, .st [.one [.i .i64, .i .i64, .b, .i .u8]] [(0, 0, 2), (0, 1, 3), (0, 2, 4), (0, 3, 6)]),
 (9, .sc (.str)),
 (10, .sc (.str)),
 (11, .sc (.str)),
 (12, .sc (.i .u64)),
 (13, .st [.one [.str, .i .u64]] [(0, 0, 9), (0, 1, 12)]),
 (14, .st [.one [.str, .i .u64]] [(0, 0, 9), (0, 1, 12)]),
 (15, .sc (.p)),
 (16, .sc (.p)),
 (17, .sc (.p)),
 (18, .st [.one [.p]] [(0, 0, 17)]),
 (19, .st [.one [.p]] [(0, 0, 17)]),
 (21, .sc (.i .i32)),
 (22, .sc (.i .i8)),
 (23, .sc (.i .i8)),
 (24, .sc (.f)),
 (25, .ar 81 1 23 (.arr .i8 81)),
 (26, .ar 8 1 22 (.arr .i8 8)),
 (27, .ar 2 8 26 (.arr .i8 16)),
 (28, .st [.arr .i8 81, .arr .i8 16, .one [.i .i8]] [(0, 0, 25), (1, 0, 27), (2, 0, 22)]),
 (29, .st [.arr .i8 81, .arr .i8 16, .one [.i .i8]] [(0, 0, 25), (1, 0, 27), (2, 0, 22)]),
 (30, .sc (.f)),
 (31, .sc (.i .i64)),
 (32, .sc (.f)),
 (33, .sc (.f)),
 (34, .sc (.f)),
 (35, .sc (.p)),
 (36, .sc (.f)),
 (37, .sc (.i .u64)),
 (38, .st [.one [.i .u64, .i .u64]] [(0, 0, 37), (0, 1, 37)]),
 (39, .st [.one [.i .u64, .i .u64]] [(0, 0, 37), (0, 1, 37)]),
 (40, .sc (.f)),
 (41, .sc (.f)),
 (42, .sc (.f)),
 (43, .sc (.f)),
 (44, .ar 9 1 3 (.arr .i64 9)),
 (45, .sc (.f)),
 (46, .sc (.f)),
 (47, .sc (.sl 9)),
 (48, .sc (.f)),
 (49, .ar 2 1 3 (.arr .i64 2)),
 (50, .sc (.f)),
 (51, .sc (.f)),
 (52, .sc (.f)),
 (53, .sc (.f)),
 (54, .ar 32 1 39 (.rows [.i .u64, .i .u64] 32)),
 (55, .ar 2 1 39 (.rows [.i .u64, .i .u64] 2)),
 (56, .st [.arr .i8 81, .arr .i8 16, .one [.i .i8], .rows [.i .u64, .i .u64] 32, .rows [.i .u64, .i .u64] 2] [(0, 0, 29), (3, 0, 54), (4, 0, 55)]),
 (57, .st [.arr .i8 81, .arr .i8 16, .one [.i .i8], .rows [.i .u64, .i .u64] 32, .rows [.i .u64, .i .u64] 2] [(0, 0, 29), (3, 0, 54), (4, 0, 55)]),
 (58, .sc (.f)),
 (59, .sc (.f)),
 (60, .sc (.f)),
 (61, .sc (.f)),
 (62, .sc (.f)),
 (63, .sc (.f)),
 (64, .sc (.sl 3)),
 (65, .sc (.i .u64)),
 (66, .ar 64 1 5 (.arr .u8 64)),
 (67, .sc (.f)),
 (68, .st [.one [.p, .p, .p, .str]] [(0, 0, 17), (0, 1, 17), (0, 2, 17), (0, 3, 9)]),
 (69, .st [.one [.p, .p, .p, .str]] [(0, 0, 17), (0, 1, 17), (0, 2, 17), (0, 3, 9)]),
 (73, .sc (.i .u32)),
 (74, .sc (.i .u8)),
 (75, .sc (.i .u8)),
 (76, .sc (.f)),
 (77, .sc (.p)),
 (78, .sc (.i .i32)),
 (79, .sc (.i .i32)),
 (80, .st [.one [.i .u64, .i .u64, .i .u32, .i .u8, .i .u8, .i .u8, .i .u8, .f, .p, .i .i32, .i .i32]] [(0, 0, 12), (0, 1, 12), (0, 2, 73), (0, 3, 74), (0, 4, 5), (0, 5, 5), (0, 6, 75), (0, 7, 76), (0, 8, 77), (0, 9, 78), (0, 10, 79)]),
 (81, .st [.one [.i .u64, .i .u64, .i .u32, .i .u8, .i .u8, .i .u8, .i .u8, .f, .p, .i .i32, .i .i32]] [(0, 0, 12), (0, 1, 12), (0, 2, 73), (0, 3, 74), (0, 4, 5), (0, 5, 5), (0, 6, 75), (0, 7, 76), (0, 8, 77), (0, 9, 78), (0, 10, 79)])]
def eqs : List TypeId := [3, 25, 26, 27, 28, 29, 38, 39, 49]
def bytes : List (TypeId × Nat) := [(9, 16), (3, 8)]
theorem mixed : Tryd.prog.follows .mixedOrders = true := by kernel_rfl
theorem tab_ok : ∀ t L, Tab.get tab t = some L → LayOK Tryd.prog tab t L := tabB_ok (P := Tryd.prog) (tab := tab) (l := tab) (by kernel_rfl)
theorem eqs_ok : ∀ t L, memT t eqs = true → Tab.get tab t = some L → ∃ f ck, f ≤ 10000 ∧ tyCK Tryd.prog f t = some ck ∧ cksOf L.segTs = some ck ∧ Tryd.prog.eqGuardType Tryd.prog.depth t = false := eqsB_ok (P := Tryd.prog) (tab := tab) (l := eqs) (by kernel_rfl)
theorem bytes_ok : ∀ t n, byN t bytes = some n → ∃ i, Tryd.prog.info? t = some i ∧ i.bytes = n := bytesB_ok (P := Tryd.prog) (l := bytes) (by kernel_rfl)
def mkC (nt : Nat) (orc : Orc) (keeps : List (Nat × List Nat × List Nat)) (lp : {R : Type} → Nat → List V → List Obj → (Ex → List V → List Obj → Option R) → Option R) : Ctx := { tab := tab, eqs := eqs, bytes := bytes, nt := nt, orc := orc, keeps := keeps, lp := lp }
theorem mkC_ok {nt : Nat} {orc : Orc} {keeps : List (Nat × List Nat × List Nat)} {lp : {R : Type} → Nat → List V → List Obj → (Ex → List V → List Obj → Option R) → Option R} (h : OSound Tryd.prog orc) : CtxOK Tryd.prog (mkC nt orc keeps lp) := ⟨tab_ok, h, eqs_ok, bytes_ok, fun _ _ _ => rfl⟩
noncomputable def set_Squarec : Ctx := mkC 23 (oNil) [] lpNil
theorem set_Squarec_ok : CtxOK Tryd.prog set_Squarec := mkC_ok (oNil_ok)
noncomputable def set_Squared : V → List Obj → Option (Int) := fun v objs => match v, objs with
 | .s (.i .i64 y0), [] => some (y0)
 | _, _ => none
theorem set_Square_eq (x0 x1 : Int) : fnE set_Squarec Tryd.f15 ([.s (.i .i64 x0), .s (.i .i64 x1)]) ([]) set_Squared = set_Square x0 x1 := by kernel_rfl
noncomputable def set_Squarea {R : Type} (o : Orc) (vs : List V) (objs : List Obj) (K : Bool → V → List Obj → Option R) : Option R := match vs, objs with
 | [.s (.i .i64 x0), .s (.i .i64 x1)], [] => ob (set_Square x0 x1) fun y0 => K false (.s (.i .i64 y0)) ([])
 | _, _ => o 15 vs objs K
noncomputable def set_Squareo (o : Orc) : Orc := hook 15 (set_Squarea o) o
theorem set_Squareo_ok (o : Orc) (ho : OSound Tryd.prog o) : OSound Tryd.prog (set_Squareo o) := hook_ok ho fun vs objs K r h => by
 unfold set_Squarea at h
 split at h
 ·skip
  obtain ⟨t, h1, h2⟩ := ob_ok h
  refine anyOK_of mixed set_Squarec_ok (fn := Tryd.f15) (b := (Tryd.f15).body.getD .skip) (by kernel_rfl) (by kernel_rfl) (by kernel_rfl) ((set_Square_eq _ _).trans h1) (m := 0) rfl (AllP.of (l' := []) (by kernel_rfl) trivial) fun v objs' hd => ?_
  unfold set_Squared at hd
  split at hd
  ·skip
   cases hd
   exact h2
  ·cases hd
 ·exact ho _ _ _ _ _ h
noncomputable def board_Start_1c : Ctx := mkC 14 ((set_Squareo oNil)) [] lpNil
theorem board_Start_1c_ok : CtxOK Tryd.prog board_Start_1c := mkC_ok ((set_Squareo_ok _ oNil_ok))
noncomputable def board_Start_1d : V → List Obj → Option (Int) := fun v objs => match v, objs with
 | .s (.i .i64 y0), [] => some (y0)
 | _, _ => none
theorem board_Start_1_eq (x0 x1 x2 : Int) : fnE board_Start_1c Tryd.f14 ([.s (.i .i64 x0), .s (.ptr 0 0 none 0), .s (.ptr 1 0 none 0)]) ([.rcells 3 [.one [.i .i64 x1]], .rcells 3 [.one [.i .i64 x2]]]) (pureD 2 board_Start_1d) = board_Start_1 x0 x1 x2 := by kernel_rfl
noncomputable def board_Start_1a {R : Type} (o : Orc) (vs : List V) (objs : List Obj) (K : Bool → V → List Obj → Option R) : Option R := match vs, List.map Obj.toRO objs with
 | [.s (.i .i64 x0), .s (.ptr 0 0 none 0), .s (.ptr 1 0 none 0)], [.rcells 3 [.one [.i .i64 x1]], .rcells 3 [.one [.i .i64 x2]]] => ob (board_Start_1 x0 x1 x2) fun y0 => K true (.s (.i .i64 y0)) ([])
 | _, _ => o 14 vs objs K
noncomputable def board_Start_1o (o : Orc) : Orc := hook 14 (board_Start_1a o) o
theorem board_Start_1o_ok (o : Orc) (ho : OSound Tryd.prog o) : OSound Tryd.prog (board_Start_1o o) := hook_ok ho fun vs objs K r h => by
 unfold board_Start_1a at h
 split at h
 ·skip
  have hq : List.map Obj.toRO objs = _ := (by rename_i hq; first | exact hq | assumption)
  obtain ⟨t, h1, h2⟩ := ob_ok h
  refine purOK_by mixed board_Start_1c_ok (m := 2) (fn := Tryd.f14) (b := (Tryd.f14).body.getD .skip) (by kernel_rfl) (by kernel_rfl) (by kernel_rfl) hq (by kernel_rfl) (by kernel_rfl) (AllP.of (l' := []) (by kernel_rfl) trivial) ((board_Start_1_eq _ _ _).trans h1) fun v objs' hd => ?_
  unfold board_Start_1d at hd
  split at hd
  ·skip
   cases hd
   exact h2
  ·cases hd
 ·exact ho _ _ _ _ _ h
noncomputable def piece_Ofc : Ctx := mkC 28 (oNil) [] lpNil
theorem piece_Ofc_ok : CtxOK Tryd.prog piece_Ofc := mkC_ok (oNil_ok)
noncomputable def piece_Ofd : V → List Obj → Option (Int) := fun v objs => match v, objs with
 | .s (.i .i8 y0), [] => some (y0)
 | _, _ => none
theorem piece_Of_eq (x0 x1 : Int) : fnE piece_Ofc Tryd.f16 ([.s (.i .i64 x0), .s (.i .i64 x1)]) ([]) piece_Ofd = piece_Of x0 x1 := by kernel_rfl
noncomputable def piece_Ofa {R : Type} (o : Orc) (vs : List V) (objs : List Obj) (K : Bool → V → List Obj → Option R) : Option R := match vs, objs with
 | [.s (.i .i64 x0), .s (.i .i64 x1)], [] => ob (piece_Of x0 x1) fun y0 => K false (.s (.i .i8 y0)) ([])
 | _, _ => o 16 vs objs K
noncomputable def piece_Ofo (o : Orc) : Orc := hook 16 (piece_Ofa o) o
theorem piece_Ofo_ok (o : Orc) (ho : OSound Tryd.prog o) : OSound Tryd.prog (piece_Ofo o) := hook_ok ho fun vs objs K r h => by
 unfold piece_Ofa at h
 split at h
 ·skip
  obtain ⟨t, h1, h2⟩ := ob_ok h
  refine anyOK_of mixed piece_Ofc_ok (fn := Tryd.f16) (b := (Tryd.f16).body.getD .skip) (by kernel_rfl) (by kernel_rfl) (by kernel_rfl) ((piece_Of_eq _ _).trans h1) (m := 0) rfl (AllP.of (l' := []) (by kernel_rfl) trivial) fun v objs' hd => ?_
  unfold piece_Ofd at hd
  split at hd
  ·skip
   cases hd
   exact h2
  ·cases hd
 ·exact ho _ _ _ _ _ h
noncomputable def board_Startl7d : Ex → List V → List Obj → Option (Int × List Int × List Int × Int × List Int × List Int × Int × List Int) := fun e vs objs => match e, vs, objs with
 | .exit 2, [.s (.ptr 0 0 none 0), .s (.ptr 1 0 none 0), .s (.ptr 2 0 none 0), .s (.i .i64 y0)], [.cells 29 [.arr .i8 81 y1, .arr .i8 16 y2, .one [.i .i8 y3]], .cells 29 [.arr .i8 81 y4, .arr .i8 16 y5, .one [.i .i8 y6]], .cells 44 [.arr .i64 9 y7]] => some (y0, y1, y2, y3, y4, y5, y6, y7)
 | _, _, _ => none
noncomputable def board_Startl4d : Ex → List V → List Obj → Option (List Int × List Int × Int × List Int × List Int × Int) := fun e vs objs => match e, vs, objs with
 | .exit 0, [.s (.ptr 0 0 none 0), .s (.ptr 1 0 none 0)], [.cells 29 [.arr .i8 81 y0, .arr .i8 16 y1, .one [.i .i8 y2]], .cells 29 [.arr .i8 81 y3, .arr .i8 16 y4, .one [.i .i8 y5]]] => some (y0, y1, y2, y3, y4, y5)
 | _, _, _ => none
noncomputable def board_Startp7 {R : Type} (vs : List V) (objs : List Obj) (K : Ex → List V → List Obj → Option R) : Option R := match vs, objs with
 | [.s (.ptr 0 0 none 0), .s (.ptr 1 0 none 0), .s (.ptr 2 0 none 0), .s (.ptr 3 0 none 0), .s (.i .i64 x0), .s (.i .i64 x1)], [.cells 29 [.arr .i8 81 x2, .arr .i8 16 x3, .one [.i .i8 x4]], .cells 29 [.arr .i8 81 x5, .arr .i8 16 x6, .one [.i .i8 x7]], .cells 44 [.arr .i64 9 x8], .cells 3 [.one [.i .i64 x9]]] => ob (board_Startl7 many x0 x1 x2 x3 x4 x5 x6 x7 x8 x9) fun z => K (.exit 2) ([.s (.ptr 0 0 none 0), .s (.ptr 1 0 none 0), .s (.ptr 2 0 none 0), .s (.i .i64 (z.1))]) ([.cells 29 [.arr .i8 81 (z.2.1), .arr .i8 16 (z.2.2.1), .one [.i .i8 (z.2.2.2.1)]], .cells 29 [.arr .i8 81 (z.2.2.2.2.1), .arr .i8 16 (z.2.2.2.2.2.1), .one [.i .i8 (z.2.2.2.2.2.2.1)]], .cells 44 [.arr .i64 9 (z.2.2.2.2.2.2.2)]])
 | _, _ => none
noncomputable def board_Startp4 {R : Type} (vs : List V) (objs : List Obj) (K : Ex → List V → List Obj → Option R) : Option R := match vs, objs with
 | [.s (.ptr 0 0 none 0), .s (.ptr 1 0 none 0), .s (.ptr 2 0 none 0), .s (.i .i64 x0)], [.cells 29 [.arr .i8 81 x1, .arr .i8 16 x2, .one [.i .i8 x3]], .cells 29 [.arr .i8 81 x4, .arr .i8 16 x5, .one [.i .i8 x6]], .cells 44 [.arr .i64 9 x7]] => ob (board_Startl4 many x0 x1 x2 x3 x4 x5 x6 x7) fun z => K (.exit 0) ([.s (.ptr 0 0 none 0), .s (.ptr 1 0 none 0)]) ([.cells 29 [.arr .i8 81 (z.1), .arr .i8 16 (z.2.1), .one [.i .i8 (z.2.2.1)]], .cells 29 [.arr .i8 81 (z.2.2.2.1), .arr .i8 16 (z.2.2.2.2.1), .one [.i .i8 (z.2.2.2.2.2)]]])
 | _, _ => none
noncomputable def board_Startlp : {R : Type} → Nat → List V → List Obj → (Ex → List V → List Obj → Option R) → Option R := fun q vs objs K => bif Nat.beq q 7 then board_Startp7 vs objs K else bif Nat.beq q 4 then board_Startp4 vs objs K else none
noncomputable def board_Startc : Ctx := mkC 44 ((set_Squareo (piece_Ofo (board_Start_1o oNil)))) [(4, [0, 1, 2, 7], [0, 1]), (7, [0, 1, 2, 3, 7, 10], [0, 1, 2, 7])] board_Startlp
theorem board_Startc_ok : CtxOK Tryd.prog board_Startc := mkC_ok ((set_Squareo_ok _ (piece_Ofo_ok _ (board_Start_1o_ok _ oNil_ok))))
noncomputable def board_Startl7r (f : Nat) (x0 x1 : Int) (x2 x3 : List Int) (x4 : Int) (x5 x6 : List Int) (x7 : Int) (x8 : List Int) (x9 : Int) : Option (Int × List Int × List Int × Int × List Int × List Int × Int × List Int) := lrun board_Startc 0 [0, 1, 2, 3, 7, 10] [0, 1, 2, 7] (loopOf Tryd.f5 7) f ([.s (.ptr 0 0 none 0), .s (.ptr 1 0 none 0), .s (.ptr 2 0 none 0), .s (.ptr 3 0 none 0), .s (.i .i64 x0), .s (.i .i64 x1)]) ([.cells 29 [.arr .i8 81 x2, .arr .i8 16 x3, .one [.i .i8 x4]], .cells 29 [.arr .i8 81 x5, .arr .i8 16 x6, .one [.i .i8 x7]], .cells 44 [.arr .i64 9 x8], .cells 3 [.one [.i .i64 x9]]]) board_Startl7d
theorem board_Startl7_step (f : Nat) (x0 x1 : Int) (x2 x3 : List Int) (x4 : Int) (x5 x6 : List Int) (x7 : Int) (x8 : List Int) (x9 : Int) : board_Startl7r (f + 1) x0 x1 x2 x3 x4 x5 x6 x7 x8 x9 = board_Startl7s (board_Startl7r f) x0 x1 x2 x3 x4 x5 x6 x7 x8 x9 := by kernel_rfl
theorem board_Startl7_eq : ∀ f, board_Startl7r f = board_Startl7 f
 | 0 => rfl
 | f + 1 => by funext x0 x1 x2 x3 x4 x5 x6 x7 x8 x9; rw [board_Startl7_step, board_Startl7_eq f]; rfl
noncomputable def board_Startl4r (f : Nat) (x0 : Int) (x1 x2 : List Int) (x3 : Int) (x4 x5 : List Int) (x6 : Int) (x7 : List Int) : Option (List Int × List Int × Int × List Int × List Int × Int) := lrun board_Startc 0 [0, 1, 2, 7] [0, 1] (loopOf Tryd.f5 4) f ([.s (.ptr 0 0 none 0), .s (.ptr 1 0 none 0), .s (.ptr 2 0 none 0), .s (.i .i64 x0)]) ([.cells 29 [.arr .i8 81 x1, .arr .i8 16 x2, .one [.i .i8 x3]], .cells 29 [.arr .i8 81 x4, .arr .i8 16 x5, .one [.i .i8 x6]], .cells 44 [.arr .i64 9 x7]]) board_Startl4d
theorem board_Startl4_step (f : Nat) (x0 : Int) (x1 x2 : List Int) (x3 : Int) (x4 x5 : List Int) (x6 : Int) (x7 : List Int) : board_Startl4r (f + 1) x0 x1 x2 x3 x4 x5 x6 x7 = board_Startl4s (board_Startl4r f) x0 x1 x2 x3 x4 x5 x6 x7 := by kernel_rfl
theorem board_Startl4_eq : ∀ f, board_Startl4r f = board_Startl4 f
 | 0 => rfl
 | f + 1 => by funext x0 x1 x2 x3 x4 x5 x6 x7; rw [board_Startl4_step, board_Startl4_eq f]; rfl
theorem board_Starts7 : LoopSound Tryd.prog board_Startc 0 (loopOf Tryd.f5 7) :=
 loopSound_by mixed board_Startc_ok (AllP.of (l' := []) (by kernel_rfl) trivial) (q := 7) (kin := [0, 1, 2, 3, 7, 10]) (kout := [0, 1, 2, 7]) (by kernel_rfl) (by kernel_rfl) fun vs objs K r h => by
  replace h : board_Startp7 vs objs K = some r := h
  unfold board_Startp7 at h
  split at h
  ·skip
   obtain ⟨t, h1, h2⟩ := ob_ok h
   rw [← board_Startl7_eq] at h1
   refine ⟨_, board_Startl7d, t, many, h1, fun e vs' objs' hd => ?_⟩
   unfold board_Startl7d at hd
   split at hd
   ·skip
    cases hd
    exact h2
   ·cases hd
  ·cases h
theorem board_Starts4 : LoopSound Tryd.prog board_Startc 0 (loopOf Tryd.f5 4) :=
 loopSound_by mixed board_Startc_ok (AllP.of (l' := [loopOf Tryd.f5 7]) (by kernel_rfl) ⟨board_Starts7, trivial⟩) (q := 4) (kin := [0, 1, 2, 7]) (kout := [0, 1]) (by kernel_rfl) (by kernel_rfl) fun vs objs K r h => by
  replace h : board_Startp4 vs objs K = some r := h
  unfold board_Startp4 at h
  split at h
  ·skip
   obtain ⟨t, h1, h2⟩ := ob_ok h
   rw [← board_Startl4_eq] at h1
   refine ⟨_, board_Startl4d, t, many, h1, fun e vs' objs' hd => ?_⟩
   unfold board_Startl4d at hd
   split at hd
   ·skip
    cases hd
    exact h2
   ·cases hd
  ·cases h
noncomputable def board_Startd : V → List Obj → Option (List Int × List Int × Int) := fun v objs => match v, objs with
 | .agg [.arr .i8 81 y0, .arr .i8 16 y1, .one [.i .i8 y2]], [] => some (y0, y1, y2)
 | _, _ => none
theorem board_Start_eq : fnE board_Startc Tryd.f5 ([]) ([]) board_Startd = board_Start  := by kernel_rfl
noncomputable def board_Starta {R : Type} (o : Orc) (vs : List V) (objs : List Obj) (K : Bool → V → List Obj → Option R) : Option R := match vs, objs with
 | [], [] => ob (board_Start ) fun z => K false (.agg [.arr .i8 81 (z.1), .arr .i8 16 (z.2.1), .one [.i .i8 (z.2.2)]]) ([])
 | _, _ => o 5 vs objs K
noncomputable def board_Starto (o : Orc) : Orc := hook 5 (board_Starta o) o
theorem board_Starto_ok (o : Orc) (ho : OSound Tryd.prog o) : OSound Tryd.prog (board_Starto o) := hook_ok ho fun vs objs K r h => by
 unfold board_Starta at h
 split at h
 ·skip
  obtain ⟨t, h1, h2⟩ := ob_ok h
  refine anyOK_of mixed board_Startc_ok (fn := Tryd.f5) (b := (Tryd.f5).body.getD .skip) (by kernel_rfl) (by kernel_rfl) (by kernel_rfl) ((board_Start_eq).trans h1) (m := 0) rfl (AllP.of (l' := [loopOf Tryd.f5 4]) (by kernel_rfl) ⟨board_Starts4, trivial⟩) fun v objs' hd => ?_
  unfold board_Startd at hd
  split at hd
  ·skip
   cases hd
   exact h2
  ·cases hd
 ·exact ho _ _ _ _ _ h
noncomputable def set_bitc : Ctx := mkC 21 (oNil) [] lpNil
theorem set_bitc_ok : CtxOK Tryd.prog set_bitc := mkC_ok (oNil_ok)
noncomputable def set_bitd : V → List Obj → Option (Int × Int) := fun v objs => match v, objs with
 | .agg [.one [.i .u64 y0, .i .u64 y1]], [] => some (y0, y1)
 | _, _ => none
theorem set_bit_eq (x0 : Int) : fnE set_bitc Tryd.f45 ([.s (.i .i64 x0)]) ([]) set_bitd = set_bit x0 := by kernel_rfl
noncomputable def set_bita {R : Type} (o : Orc) (vs : List V) (objs : List Obj) (K : Bool → V → List Obj → Option R) : Option R := match vs, objs with
 | [.s (.i .i64 x0)], [] => ob (set_bit x0) fun z => K false (.agg [.one [.i .u64 (z.1), .i .u64 (z.2)]]) ([])
 | _, _ => o 45 vs objs K
noncomputable def set_bito (o : Orc) : Orc := hook 45 (set_bita o) o
theorem set_bito_ok (o : Orc) (ho : OSound Tryd.prog o) : OSound Tryd.prog (set_bito o) := hook_ok ho fun vs objs K r h => by
 unfold set_bita at h
 split at h
 ·skip
  obtain ⟨t, h1, h2⟩ := ob_ok h
  refine anyOK_of mixed set_bitc_ok (fn := Tryd.f45) (b := (Tryd.f45).body.getD .skip) (by kernel_rfl) (by kernel_rfl) (by kernel_rfl) ((set_bit_eq _).trans h1) (m := 0) rfl (AllP.of (l' := []) (by kernel_rfl) trivial) fun v objs' hd => ?_
  unfold set_bitd at hd
  split at hd
  ·skip
   cases hd
   exact h2
  ·cases hd
 ·exact ho _ _ _ _ _ h
noncomputable def set_Minusc : Ctx := mkC 16 (oNil) [] lpNil
theorem set_Minusc_ok : CtxOK Tryd.prog set_Minusc := mkC_ok (oNil_ok)
noncomputable def set_Minusd : V → List Obj → Option (Int × Int) := fun v objs => match v, objs with
 | .agg [.one [.i .u64 y0, .i .u64 y1]], [] => some (y0, y1)
 | _, _ => none
theorem set_Minus_eq (x0 x1 : Int) (x2 x3 : Int) : fnE set_Minusc Tryd.f44 ([.agg [.one [.i .u64 x0, .i .u64 x1]], .agg [.one [.i .u64 x2, .i .u64 x3]]]) ([]) set_Minusd = set_Minus x0 x1 x2 x3 := by kernel_rfl
noncomputable def set_Minusa {R : Type} (o : Orc) (vs : List V) (objs : List Obj) (K : Bool → V → List Obj → Option R) : Option R := match vs, objs with
 | [.agg [.one [.i .u64 x0, .i .u64 x1]], .agg [.one [.i .u64 x2, .i .u64 x3]]], [] => ob (set_Minus x0 x1 x2 x3) fun z => K false (.agg [.one [.i .u64 (z.1), .i .u64 (z.2)]]) ([])
 | _, _ => o 44 vs objs K
noncomputable def set_Minuso (o : Orc) : Orc := hook 44 (set_Minusa o) o
theorem set_Minuso_ok (o : Orc) (ho : OSound Tryd.prog o) : OSound Tryd.prog (set_Minuso o) := hook_ok ho fun vs objs K r h => by
 unfold set_Minusa at h
 split at h
 ·skip
  obtain ⟨t, h1, h2⟩ := ob_ok h
  refine anyOK_of mixed set_Minusc_ok (fn := Tryd.f44) (b := (Tryd.f44).body.getD .skip) (by kernel_rfl) (by kernel_rfl) (by kernel_rfl) ((set_Minus_eq _ _ _ _).trans h1) (m := 0) rfl (AllP.of (l' := []) (by kernel_rfl) trivial) fun v objs' hd => ?_
  unfold set_Minusd at hd
  split at hd
  ·skip
   cases hd
   exact h2
  ·cases hd
 ·exact ho _ _ _ _ _ h
noncomputable def set_Withoutc : Ctx := mkC 9 ((set_Minuso (set_bito oNil))) [] lpNil
theorem set_Withoutc_ok : CtxOK Tryd.prog set_Withoutc := mkC_ok ((set_Minuso_ok _ (set_bito_ok _ oNil_ok)))
noncomputable def set_Withoutd : V → List Obj → Option (Int × Int) := fun v objs => match v, objs with
 | .agg [.one [.i .u64 y0, .i .u64 y1]], [] => some (y0, y1)
 | _, _ => none
theorem set_Without_eq (x0 x1 x2 : Int) : fnE set_Withoutc Tryd.f40 ([.agg [.one [.i .u64 x0, .i .u64 x1]], .s (.i .i64 x2)]) ([]) set_Withoutd = set_Without x0 x1 x2 := by kernel_rfl
noncomputable def set_Withouta {R : Type} (o : Orc) (vs : List V) (objs : List Obj) (K : Bool → V → List Obj → Option R) : Option R := match vs, objs with
 | [.agg [.one [.i .u64 x0, .i .u64 x1]], .s (.i .i64 x2)], [] => ob (set_Without x0 x1 x2) fun z => K false (.agg [.one [.i .u64 (z.1), .i .u64 (z.2)]]) ([])
 | _, _ => o 40 vs objs K
noncomputable def set_Withouto (o : Orc) : Orc := hook 40 (set_Withouta o) o
theorem set_Withouto_ok (o : Orc) (ho : OSound Tryd.prog o) : OSound Tryd.prog (set_Withouto o) := hook_ok ho fun vs objs K r h => by
 unfold set_Withouta at h
 split at h
 ·skip
  obtain ⟨t, h1, h2⟩ := ob_ok h
  refine anyOK_of mixed set_Withoutc_ok (fn := Tryd.f40) (b := (Tryd.f40).body.getD .skip) (by kernel_rfl) (by kernel_rfl) (by kernel_rfl) ((set_Without_eq _ _ _).trans h1) (m := 0) rfl (AllP.of (l' := []) (by kernel_rfl) trivial) fun v objs' hd => ?_
  unfold set_Withoutd at hd
  split at hd
  ·skip
   cases hd
   exact h2
  ·cases hd
 ·exact ho _ _ _ _ _ h
noncomputable def piece_Kindc : Ctx := mkC 28 (oNil) [] lpNil
theorem piece_Kindc_ok : CtxOK Tryd.prog piece_Kindc := mkC_ok (oNil_ok)
noncomputable def piece_Kindd : V → List Obj → Option (Int) := fun v objs => match v, objs with
 | .s (.i .i64 y0), [] => some (y0)
 | _, _ => none
theorem piece_Kind_eq (x0 : Int) : fnE piece_Kindc Tryd.f18 ([.s (.i .i8 x0)]) ([]) piece_Kindd = piece_Kind x0 := by kernel_rfl
noncomputable def piece_Kinda {R : Type} (o : Orc) (vs : List V) (objs : List Obj) (K : Bool → V → List Obj → Option R) : Option R := match vs, objs with
 | [.s (.i .i8 x0)], [] => ob (piece_Kind x0) fun y0 => K false (.s (.i .i64 y0)) ([])
 | _, _ => o 18 vs objs K
noncomputable def piece_Kindo (o : Orc) : Orc := hook 18 (piece_Kinda o) o
theorem piece_Kindo_ok (o : Orc) (ho : OSound Tryd.prog o) : OSound Tryd.prog (piece_Kindo o) := hook_ok ho fun vs objs K r h => by
 unfold piece_Kinda at h
 split at h
 ·skip
  obtain ⟨t, h1, h2⟩ := ob_ok h
  refine anyOK_of mixed piece_Kindc_ok (fn := Tryd.f18) (b := (Tryd.f18).body.getD .skip) (by kernel_rfl) (by kernel_rfl) (by kernel_rfl) ((piece_Kind_eq _).trans h1) (m := 0) rfl (AllP.of (l' := []) (by kernel_rfl) trivial) fun v objs' hd => ?_
  unfold piece_Kindd at hd
  split at hd
  ·skip
   cases hd
   exact h2
  ·cases hd
 ·exact ho _ _ _ _ _ h
noncomputable def piece_Sidec : Ctx := mkC 10 ((piece_Kindo oNil)) [] lpNil
theorem piece_Sidec_ok : CtxOK Tryd.prog piece_Sidec := mkC_ok ((piece_Kindo_ok _ oNil_ok))
noncomputable def piece_Sided : V → List Obj → Option (Int) := fun v objs => match v, objs with
 | .s (.i .i64 y0), [] => some (y0)
 | _, _ => none
theorem piece_Side_eq (x0 : Int) : fnE piece_Sidec Tryd.f19 ([.s (.i .i8 x0)]) ([]) piece_Sided = piece_Side x0 := by kernel_rfl
noncomputable def piece_Sidea {R : Type} (o : Orc) (vs : List V) (objs : List Obj) (K : Bool → V → List Obj → Option R) : Option R := match vs, objs with
 | [.s (.i .i8 x0)], [] => ob (piece_Side x0) fun y0 => K false (.s (.i .i64 y0)) ([])
 | _, _ => o 19 vs objs K
noncomputable def piece_Sideo (o : Orc) : Orc := hook 19 (piece_Sidea o) o
theorem piece_Sideo_ok (o : Orc) (ho : OSound Tryd.prog o) : OSound Tryd.prog (piece_Sideo o) := hook_ok ho fun vs objs K r h => by
 unfold piece_Sidea at h
 split at h
 ·skip
  obtain ⟨t, h1, h2⟩ := ob_ok h
  refine anyOK_of mixed piece_Sidec_ok (fn := Tryd.f19) (b := (Tryd.f19).body.getD .skip) (by kernel_rfl) (by kernel_rfl) (by kernel_rfl) ((piece_Side_eq _).trans h1) (m := 0) rfl (AllP.of (l' := []) (by kernel_rfl) trivial) fun v objs' hd => ?_
  unfold piece_Sided at hd
  split at hd
  ·skip
   cases hd
   exact h2
  ·cases hd
 ·exact ho _ _ _ _ _ h
noncomputable def set_Orc : Ctx := mkC 16 (oNil) [] lpNil
theorem set_Orc_ok : CtxOK Tryd.prog set_Orc := mkC_ok (oNil_ok)
noncomputable def set_Ord : V → List Obj → Option (Int × Int) := fun v objs => match v, objs with
 | .agg [.one [.i .u64 y0, .i .u64 y1]], [] => some (y0, y1)
 | _, _ => none
theorem set_Or_eq (x0 x1 : Int) (x2 x3 : Int) : fnE set_Orc Tryd.f30 ([.agg [.one [.i .u64 x0, .i .u64 x1]], .agg [.one [.i .u64 x2, .i .u64 x3]]]) ([]) set_Ord = set_Or x0 x1 x2 x3 := by kernel_rfl
noncomputable def set_Ora {R : Type} (o : Orc) (vs : List V) (objs : List Obj) (K : Bool → V → List Obj → Option R) : Option R := match vs, objs with
 | [.agg [.one [.i .u64 x0, .i .u64 x1]], .agg [.one [.i .u64 x2, .i .u64 x3]]], [] => ob (set_Or x0 x1 x2 x3) fun z => K false (.agg [.one [.i .u64 (z.1), .i .u64 (z.2)]]) ([])
 | _, _ => o 30 vs objs K
noncomputable def set_Oro (o : Orc) : Orc := hook 30 (set_Ora o) o
theorem set_Oro_ok (o : Orc) (ho : OSound Tryd.prog o) : OSound Tryd.prog (set_Oro o) := hook_ok ho fun vs objs K r h => by
 unfold set_Ora at h
 split at h
 ·skip
  obtain ⟨t, h1, h2⟩ := ob_ok h
  refine anyOK_of mixed set_Orc_ok (fn := Tryd.f30) (b := (Tryd.f30).body.getD .skip) (by kernel_rfl) (by kernel_rfl) (by kernel_rfl) ((set_Or_eq _ _ _ _).trans h1) (m := 0) rfl (AllP.of (l' := []) (by kernel_rfl) trivial) fun v objs' hd => ?_
  unfold set_Ord at hd
  split at hd
  ·skip
   cases hd
   exact h2
  ·cases hd
 ·exact ho _ _ _ _ _ h
noncomputable def set_Withc : Ctx := mkC 9 ((set_Oro (set_bito oNil))) [] lpNil
theorem set_Withc_ok : CtxOK Tryd.prog set_Withc := mkC_ok ((set_Oro_ok _ (set_bito_ok _ oNil_ok)))
noncomputable def set_Withd : V → List Obj → Option (Int × Int) := fun v objs => match v, objs with
 | .agg [.one [.i .u64 y0, .i .u64 y1]], [] => some (y0, y1)
 | _, _ => none
theorem set_With_eq (x0 x1 x2 : Int) : fnE set_Withc Tryd.f41 ([.agg [.one [.i .u64 x0, .i .u64 x1]], .s (.i .i64 x2)]) ([]) set_Withd = set_With x0 x1 x2 := by kernel_rfl
noncomputable def set_Witha {R : Type} (o : Orc) (vs : List V) (objs : List Obj) (K : Bool → V → List Obj → Option R) : Option R := match vs, objs with
 | [.agg [.one [.i .u64 x0, .i .u64 x1]], .s (.i .i64 x2)], [] => ob (set_With x0 x1 x2) fun z => K false (.agg [.one [.i .u64 (z.1), .i .u64 (z.2)]]) ([])
 | _, _ => o 41 vs objs K
noncomputable def set_Witho (o : Orc) : Orc := hook 41 (set_Witha o) o
theorem set_Witho_ok (o : Orc) (ho : OSound Tryd.prog o) : OSound Tryd.prog (set_Witho o) := hook_ok ho fun vs objs K r h => by
 unfold set_Witha at h
 split at h
 ·skip
  obtain ⟨t, h1, h2⟩ := ob_ok h
  refine anyOK_of mixed set_Withc_ok (fn := Tryd.f41) (b := (Tryd.f41).body.getD .skip) (by kernel_rfl) (by kernel_rfl) (by kernel_rfl) ((set_With_eq _ _ _).trans h1) (m := 0) rfl (AllP.of (l' := []) (by kernel_rfl) trivial) fun v objs' hd => ?_
  unfold set_Withd at hd
  split at hd
  ·skip
   cases hd
   exact h2
  ·cases hd
 ·exact ho _ _ _ _ _ h
noncomputable def board_Putc : Ctx := mkC 90 ((set_Witho (piece_Kindo (piece_Sideo (set_Withouto oNil))))) [] lpNil
theorem board_Putc_ok : CtxOK Tryd.prog board_Putc := mkC_ok ((set_Witho_ok _ (piece_Kindo_ok _ (piece_Sideo_ok _ (set_Withouto_ok _ oNil_ok)))))
noncomputable def board_Putd : V → List Obj → Option (List Int × List Int × Int × List (List Int) × List (List Int)) := fun v objs => match v, objs with
 | .tup [], [.cells 57 [.arr .i8 81 y0, .arr .i8 16 y1, .one [.i .i8 y2], .rows [.i .u64, .i .u64] 32 y3, .rows [.i .u64, .i .u64] 2 y4]] => some (y0, y1, y2, y3, y4)
 | _, _ => none
theorem board_Put_eq (x0 x1 : Int) (x2 x3 : List Int) (x4 : Int) (x5 x6 : List (List Int)) : fnE board_Putc Tryd.f29 ([.s (.ptr 0 0 none 0), .s (.i .i64 x0), .s (.i .i8 x1)]) ([.cells 57 [.arr .i8 81 x2, .arr .i8 16 x3, .one [.i .i8 x4], .rows [.i .u64, .i .u64] 32 x5, .rows [.i .u64, .i .u64] 2 x6]]) board_Putd = board_Put x0 x1 x2 x3 x4 x5 x6 := by kernel_rfl
noncomputable def board_Puta {R : Type} (o : Orc) (vs : List V) (objs : List Obj) (K : Bool → V → List Obj → Option R) : Option R := match vs, objs with
 | [.s (.ptr 0 0 none 0), .s (.i .i64 x0), .s (.i .i8 x1)], [.cells 57 [.arr .i8 81 x2, .arr .i8 16 x3, .one [.i .i8 x4], .rows [.i .u64, .i .u64] 32 x5, .rows [.i .u64, .i .u64] 2 x6]] => ob (board_Put x0 x1 x2 x3 x4 x5 x6) fun z => K false (.tup []) ([.cells 57 [.arr .i8 81 (z.1), .arr .i8 16 (z.2.1), .one [.i .i8 (z.2.2.1)], .rows [.i .u64, .i .u64] 32 (z.2.2.2.1), .rows [.i .u64, .i .u64] 2 (z.2.2.2.2)]])
 | _, _ => o 29 vs objs K
noncomputable def board_Puto (o : Orc) : Orc := hook 29 (board_Puta o) o
theorem board_Puto_ok (o : Orc) (ho : OSound Tryd.prog o) : OSound Tryd.prog (board_Puto o) := hook_ok ho fun vs objs K r h => by
 unfold board_Puta at h
 split at h
 ·skip
  obtain ⟨t, h1, h2⟩ := ob_ok h
  refine anyOK_of mixed board_Putc_ok (fn := Tryd.f29) (b := (Tryd.f29).body.getD .skip) (by kernel_rfl) (by kernel_rfl) (by kernel_rfl) ((board_Put_eq _ _ _ _ _ _ _).trans h1) (m := 1) rfl (AllP.of (l' := []) (by kernel_rfl) trivial) fun v objs' hd => ?_
  unfold board_Putd at hd
  split at hd
  ·skip
   cases hd
   exact h2
  ·cases hd
 ·exact ho _ _ _ _ _ h
noncomputable def board_Newl4d : Ex → List V → List Obj → Option (List Int × List Int × Int × List (List Int) × List (List Int)) := fun e vs objs => match e, vs, objs with
 | .exit 0, [.s (.ptr 0 0 none 0)], [.cells 57 [.arr .i8 81 y0, .arr .i8 16 y1, .one [.i .i8 y2], .rows [.i .u64, .i .u64] 32 y3, .rows [.i .u64, .i .u64] 2 y4]] => some (y0, y1, y2, y3, y4)
 | _, _, _ => none
noncomputable def board_Newp4 {R : Type} (vs : List V) (objs : List Obj) (K : Ex → List V → List Obj → Option R) : Option R := match vs, objs with
 | [.s (.ptr 0 0 none 0), .agg [.arr .i8 81 x0], .s (.i .i64 x1)], [.cells 57 [.arr .i8 81 x2, .arr .i8 16 x3, .one [.i .i8 x4], .rows [.i .u64, .i .u64] 32 x5, .rows [.i .u64, .i .u64] 2 x6]] => ob (board_Newl4 many x0 x1 x2 x3 x4 x5 x6) fun z => K (.exit 0) ([.s (.ptr 0 0 none 0)]) ([.cells 57 [.arr .i8 81 (z.1), .arr .i8 16 (z.2.1), .one [.i .i8 (z.2.2.1)], .rows [.i .u64, .i .u64] 32 (z.2.2.2.1), .rows [.i .u64, .i .u64] 2 (z.2.2.2.2)]])
 | _, _ => none
noncomputable def board_Newlp : {R : Type} → Nat → List V → List Obj → (Ex → List V → List Obj → Option R) → Option R := fun q vs objs K => bif Nat.beq q 4 then board_Newp4 vs objs K else none
noncomputable def board_Newc : Ctx := mkC 32 ((board_Puto oNil)) [(4, [3, 21, 22], [3])] board_Newlp
theorem board_Newc_ok : CtxOK Tryd.prog board_Newc := mkC_ok ((board_Puto_ok _ oNil_ok))
noncomputable def board_Newl4r (f : Nat) (x0 : List Int) (x1 : Int) (x2 x3 : List Int) (x4 : Int) (x5 x6 : List (List Int)) : Option (List Int × List Int × Int × List (List Int) × List (List Int)) := lrun board_Newc 0 [3, 21, 22] [3] (loopOf Tryd.f9 4) f ([.s (.ptr 0 0 none 0), .agg [.arr .i8 81 x0], .s (.i .i64 x1)]) ([.cells 57 [.arr .i8 81 x2, .arr .i8 16 x3, .one [.i .i8 x4], .rows [.i .u64, .i .u64] 32 x5, .rows [.i .u64, .i .u64] 2 x6]]) board_Newl4d
theorem board_Newl4_step (f : Nat) (x0 : List Int) (x1 : Int) (x2 x3 : List Int) (x4 : Int) (x5 x6 : List (List Int)) : board_Newl4r (f + 1) x0 x1 x2 x3 x4 x5 x6 = board_Newl4s (board_Newl4r f) x0 x1 x2 x3 x4 x5 x6 := by kernel_rfl
theorem board_Newl4_eq : ∀ f, board_Newl4r f = board_Newl4 f
 | 0 => rfl
 | f + 1 => by funext x0 x1 x2 x3 x4 x5 x6; rw [board_Newl4_step, board_Newl4_eq f]; rfl
theorem board_News4 : LoopSound Tryd.prog board_Newc 0 (loopOf Tryd.f9 4) :=
 loopSound_by mixed board_Newc_ok (AllP.of (l' := []) (by kernel_rfl) trivial) (q := 4) (kin := [3, 21, 22]) (kout := [3]) (by kernel_rfl) (by kernel_rfl) fun vs objs K r h => by
  replace h : board_Newp4 vs objs K = some r := h
  unfold board_Newp4 at h
  split at h
  ·skip
   obtain ⟨t, h1, h2⟩ := ob_ok h
   rw [← board_Newl4_eq] at h1
   refine ⟨_, board_Newl4d, t, many, h1, fun e vs' objs' hd => ?_⟩
   unfold board_Newl4d at hd
   split at hd
   ·skip
    cases hd
    exact h2
   ·cases hd
  ·cases h
noncomputable def board_Newd : V → List Obj → Option (List Int × List Int × Int × List (List Int) × List (List Int)) := fun v objs => match v, objs with
 | .s (.ptr 0 0 none 0), [.cells 57 [.arr .i8 81 y0, .arr .i8 16 y1, .one [.i .i8 y2], .rows [.i .u64, .i .u64] 32 y3, .rows [.i .u64, .i .u64] 2 y4]] => some (y0, y1, y2, y3, y4)
 | _, _ => none
theorem board_New_eq (x0 x1 : List Int) (x2 : Int) : fnE board_Newc Tryd.f9 ([.agg [.arr .i8 81 x0, .arr .i8 16 x1, .one [.i .i8 x2]]]) ([]) board_Newd = board_New x0 x1 x2 := by kernel_rfl
noncomputable def board_Newa {R : Type} (o : Orc) (vs : List V) (objs : List Obj) (K : Bool → V → List Obj → Option R) : Option R := match vs, objs with
 | [.agg [.arr .i8 81 x0, .arr .i8 16 x1, .one [.i .i8 x2]]], [] => ob (board_New x0 x1 x2) fun z => K false (.s (.ptr 0 0 none 0)) ([.cells 57 [.arr .i8 81 (z.1), .arr .i8 16 (z.2.1), .one [.i .i8 (z.2.2.1)], .rows [.i .u64, .i .u64] 32 (z.2.2.2.1), .rows [.i .u64, .i .u64] 2 (z.2.2.2.2)]])
 | _, _ => o 9 vs objs K
noncomputable def board_Newo (o : Orc) : Orc := hook 9 (board_Newa o) o
theorem board_Newo_ok (o : Orc) (ho : OSound Tryd.prog o) : OSound Tryd.prog (board_Newo o) := hook_ok ho fun vs objs K r h => by
 unfold board_Newa at h
 split at h
 ·skip
  obtain ⟨t, h1, h2⟩ := ob_ok h
  refine anyOK_of mixed board_Newc_ok (fn := Tryd.f9) (b := (Tryd.f9).body.getD .skip) (by kernel_rfl) (by kernel_rfl) (by kernel_rfl) ((board_New_eq _ _ _).trans h1) (m := 0) rfl (AllP.of (l' := [loopOf Tryd.f9 4]) (by kernel_rfl) ⟨board_News4, trivial⟩) fun v objs' hd => ?_
  unfold board_Newd at hd
  split at hd
  ·skip
   cases hd
   exact h2
  ·cases hd
 ·exact ho _ _ _ _ _ h
noncomputable def board_Takenc : Ctx := mkC 14 ((set_Oro oNil)) [] lpNil
theorem board_Takenc_ok : CtxOK Tryd.prog board_Takenc := mkC_ok ((set_Oro_ok _ oNil_ok))
noncomputable def board_Takend : V → List Obj → Option (Int × Int) := fun v objs => match v, objs with
 | .agg [.one [.i .u64 y0, .i .u64 y1]], [] => some (y0, y1)
 | _, _ => none
theorem board_Taken_eq (x0 x1 : List Int) (x2 : Int) (x3 x4 : List (List Int)) : fnE board_Takenc Tryd.f10 ([.s (.ptr 0 0 none 0)]) ([.rcells 57 [.arr .i8 81 x0, .arr .i8 16 x1, .one [.i .i8 x2], .rows [.i .u64, .i .u64] 32 x3, .rows [.i .u64, .i .u64] 2 x4]]) (pureD 1 board_Takend) = board_Taken x0 x1 x2 x3 x4 := by kernel_rfl
noncomputable def board_Takena {R : Type} (o : Orc) (vs : List V) (objs : List Obj) (K : Bool → V → List Obj → Option R) : Option R := match vs, List.map Obj.toRO objs with
 | [.s (.ptr 0 0 none 0)], [.rcells 57 [.arr .i8 81 x0, .arr .i8 16 x1, .one [.i .i8 x2], .rows [.i .u64, .i .u64] 32 x3, .rows [.i .u64, .i .u64] 2 x4]] => ob (board_Taken x0 x1 x2 x3 x4) fun z => K true (.agg [.one [.i .u64 (z.1), .i .u64 (z.2)]]) ([])
 | _, _ => o 10 vs objs K
noncomputable def board_Takeno (o : Orc) : Orc := hook 10 (board_Takena o) o
theorem board_Takeno_ok (o : Orc) (ho : OSound Tryd.prog o) : OSound Tryd.prog (board_Takeno o) := hook_ok ho fun vs objs K r h => by
 unfold board_Takena at h
 split at h
 ·skip
  have hq : List.map Obj.toRO objs = _ := (by rename_i hq; first | exact hq | assumption)
  obtain ⟨t, h1, h2⟩ := ob_ok h
  refine purOK_by mixed board_Takenc_ok (m := 1) (fn := Tryd.f10) (b := (Tryd.f10).body.getD .skip) (by kernel_rfl) (by kernel_rfl) (by kernel_rfl) hq (by kernel_rfl) (by kernel_rfl) (AllP.of (l' := []) (by kernel_rfl) trivial) ((board_Taken_eq _ _ _ _ _).trans h1) fun v objs' hd => ?_
  unfold board_Takend at hd
  split at hd
  ·skip
   cases hd
   exact h2
  ·cases hd
 ·exact ho _ _ _ _ _ h
noncomputable def bits_OnesCount64c : Ctx := mkC 35 (oNil) [] lpNil
theorem bits_OnesCount64c_ok : CtxOK Tryd.prog bits_OnesCount64c := mkC_ok (oNil_ok)
noncomputable def bits_OnesCount64d : V → List Obj → Option (Int) := fun v objs => match v, objs with
 | .s (.i .i64 y0), [] => some (y0)
 | _, _ => none
theorem bits_OnesCount64_eq (x0 : Int) : fnE bits_OnesCount64c Tryd.f31 ([.s (.i .u64 x0)]) ([]) bits_OnesCount64d = bits_OnesCount64 x0 := by kernel_rfl
noncomputable def bits_OnesCount64a {R : Type} (o : Orc) (vs : List V) (objs : List Obj) (K : Bool → V → List Obj → Option R) : Option R := match vs, objs with
 | [.s (.i .u64 x0)], [] => ob (bits_OnesCount64 x0) fun y0 => K false (.s (.i .i64 y0)) ([])
 | _, _ => o 31 vs objs K
noncomputable def bits_OnesCount64o (o : Orc) : Orc := hook 31 (bits_OnesCount64a o) o
theorem bits_OnesCount64o_ok (o : Orc) (ho : OSound Tryd.prog o) : OSound Tryd.prog (bits_OnesCount64o o) := hook_ok ho fun vs objs K r h => by
 unfold bits_OnesCount64a at h
 split at h
 ·skip
  obtain ⟨t, h1, h2⟩ := ob_ok h
  refine anyOK_of mixed bits_OnesCount64c_ok (fn := Tryd.f31) (b := (Tryd.f31).body.getD .skip) (by kernel_rfl) (by kernel_rfl) (by kernel_rfl) ((bits_OnesCount64_eq _).trans h1) (m := 0) rfl (AllP.of (l' := []) (by kernel_rfl) trivial) fun v objs' hd => ?_
  unfold bits_OnesCount64d at hd
  split at hd
  ·skip
   cases hd
   exact h2
  ·cases hd
 ·exact ho _ _ _ _ _ h
noncomputable def set_Countc : Ctx := mkC 10 ((bits_OnesCount64o oNil)) [] lpNil
theorem set_Countc_ok : CtxOK Tryd.prog set_Countc := mkC_ok ((bits_OnesCount64o_ok _ oNil_ok))
noncomputable def set_Countd : V → List Obj → Option (Int) := fun v objs => match v, objs with
 | .s (.i .i64 y0), [] => some (y0)
 | _, _ => none
theorem set_Count_eq (x0 x1 : Int) : fnE set_Countc Tryd.f11 ([.agg [.one [.i .u64 x0, .i .u64 x1]]]) ([]) set_Countd = set_Count x0 x1 := by kernel_rfl
noncomputable def set_Counta {R : Type} (o : Orc) (vs : List V) (objs : List Obj) (K : Bool → V → List Obj → Option R) : Option R := match vs, objs with
 | [.agg [.one [.i .u64 x0, .i .u64 x1]]], [] => ob (set_Count x0 x1) fun y0 => K false (.s (.i .i64 y0)) ([])
 | _, _ => o 11 vs objs K
noncomputable def set_Counto (o : Orc) : Orc := hook 11 (set_Counta o) o
theorem set_Counto_ok (o : Orc) (ho : OSound Tryd.prog o) : OSound Tryd.prog (set_Counto o) := hook_ok ho fun vs objs K r h => by
 unfold set_Counta at h
 split at h
 ·skip
  obtain ⟨t, h1, h2⟩ := ob_ok h
  refine anyOK_of mixed set_Countc_ok (fn := Tryd.f11) (b := (Tryd.f11).body.getD .skip) (by kernel_rfl) (by kernel_rfl) (by kernel_rfl) ((set_Count_eq _ _).trans h1) (m := 0) rfl (AllP.of (l' := []) (by kernel_rfl) trivial) fun v objs' hd => ?_
  unfold set_Countd at hd
  split at hd
  ·skip
   cases hd
   exact h2
  ·cases hd
 ·exact ho _ _ _ _ _ h
noncomputable def board_Atc : Ctx := mkC 18 (oNil) [] lpNil
theorem board_Atc_ok : CtxOK Tryd.prog board_Atc := mkC_ok (oNil_ok)
noncomputable def board_Atd : V → List Obj → Option (Int) := fun v objs => match v, objs with
 | .s (.i .i8 y0), [] => some (y0)
 | _, _ => none
theorem board_At_eq (x0 : Int) (x1 x2 : List Int) (x3 : Int) (x4 x5 : List (List Int)) : fnE board_Atc Tryd.f12 ([.s (.ptr 0 0 none 0), .s (.i .i64 x0)]) ([.rcells 57 [.arr .i8 81 x1, .arr .i8 16 x2, .one [.i .i8 x3], .rows [.i .u64, .i .u64] 32 x4, .rows [.i .u64, .i .u64] 2 x5]]) (pureD 1 board_Atd) = board_At x0 x1 x2 x3 x4 x5 := by kernel_rfl
noncomputable def board_Ata {R : Type} (o : Orc) (vs : List V) (objs : List Obj) (K : Bool → V → List Obj → Option R) : Option R := match vs, List.map Obj.toRO objs with
 | [.s (.ptr 0 0 none 0), .s (.i .i64 x0)], [.rcells 57 [.arr .i8 81 x1, .arr .i8 16 x2, .one [.i .i8 x3], .rows [.i .u64, .i .u64] 32 x4, .rows [.i .u64, .i .u64] 2 x5]] => ob (board_At x0 x1 x2 x3 x4 x5) fun y0 => K true (.s (.i .i8 y0)) ([])
 | _, _ => o 12 vs objs K
noncomputable def board_Ato (o : Orc) : Orc := hook 12 (board_Ata o) o
theorem board_Ato_ok (o : Orc) (ho : OSound Tryd.prog o) : OSound Tryd.prog (board_Ato o) := hook_ok ho fun vs objs K r h => by
 unfold board_Ata at h
 split at h
 ·skip
  have hq : List.map Obj.toRO objs = _ := (by rename_i hq; first | exact hq | assumption)
  obtain ⟨t, h1, h2⟩ := ob_ok h
  refine purOK_by mixed board_Atc_ok (m := 1) (fn := Tryd.f12) (b := (Tryd.f12).body.getD .skip) (by kernel_rfl) (by kernel_rfl) (by kernel_rfl) hq (by kernel_rfl) (by kernel_rfl) (AllP.of (l' := []) (by kernel_rfl) trivial) ((board_At_eq _ _ _ _ _ _).trans h1) fun v objs' hd => ?_
  unfold board_Atd at hd
  split at hd
  ·skip
   cases hd
   exact h2
  ·cases hd
 ·exact ho _ _ _ _ _ h
noncomputable def board_Ofc : Ctx := mkC 20 ((piece_Ofo oNil)) [] lpNil
theorem board_Ofc_ok : CtxOK Tryd.prog board_Ofc := mkC_ok ((piece_Ofo_ok _ oNil_ok))
noncomputable def board_Ofd : V → List Obj → Option (Int × Int) := fun v objs => match v, objs with
 | .agg [.one [.i .u64 y0, .i .u64 y1]], [] => some (y0, y1)
 | _, _ => none
theorem board_Of_eq (x0 x1 : Int) (x2 x3 : List Int) (x4 : Int) (x5 x6 : List (List Int)) : fnE board_Ofc Tryd.f32 ([.s (.ptr 0 0 none 0), .s (.i .i64 x0), .s (.i .i64 x1)]) ([.rcells 57 [.arr .i8 81 x2, .arr .i8 16 x3, .one [.i .i8 x4], .rows [.i .u64, .i .u64] 32 x5, .rows [.i .u64, .i .u64] 2 x6]]) (pureD 1 board_Ofd) = board_Of x0 x1 x2 x3 x4 x5 x6 := by kernel_rfl
noncomputable def board_Ofa {R : Type} (o : Orc) (vs : List V) (objs : List Obj) (K : Bool → V → List Obj → Option R) : Option R := match vs, List.map Obj.toRO objs with
 | [.s (.ptr 0 0 none 0), .s (.i .i64 x0), .s (.i .i64 x1)], [.rcells 57 [.arr .i8 81 x2, .arr .i8 16 x3, .one [.i .i8 x4], .rows [.i .u64, .i .u64] 32 x5, .rows [.i .u64, .i .u64] 2 x6]] => ob (board_Of x0 x1 x2 x3 x4 x5 x6) fun z => K true (.agg [.one [.i .u64 (z.1), .i .u64 (z.2)]]) ([])
 | _, _ => o 32 vs objs K
noncomputable def board_Ofo (o : Orc) : Orc := hook 32 (board_Ofa o) o
theorem board_Ofo_ok (o : Orc) (ho : OSound Tryd.prog o) : OSound Tryd.prog (board_Ofo o) := hook_ok ho fun vs objs K r h => by
 unfold board_Ofa at h
 split at h
 ·skip
  have hq : List.map Obj.toRO objs = _ := (by rename_i hq; first | exact hq | assumption)
  obtain ⟨t, h1, h2⟩ := ob_ok h
  refine purOK_by mixed board_Ofc_ok (m := 1) (fn := Tryd.f32) (b := (Tryd.f32).body.getD .skip) (by kernel_rfl) (by kernel_rfl) (by kernel_rfl) hq (by kernel_rfl) (by kernel_rfl) (AllP.of (l' := []) (by kernel_rfl) trivial) ((board_Of_eq _ _ _ _ _ _ _).trans h1) fun v objs' hd => ?_
  unfold board_Ofd at hd
  split at hd
  ·skip
   cases hd
   exact h2
  ·cases hd
 ·exact ho _ _ _ _ _ h
noncomputable def bits_TrailingZeros64c : Ctx := mkC 14 (oNil) [] lpNil
theorem bits_TrailingZeros64c_ok : CtxOK Tryd.prog bits_TrailingZeros64c := mkC_ok (oNil_ok)
noncomputable def bits_TrailingZeros64d : V → List Obj → Option (Int) := fun v objs => match v, objs with
 | .s (.i .i64 y0), [] => some (y0)
 | _, _ => none
theorem bits_TrailingZeros64_eqb (B : {R : Type} → Bool → Option R → Option R → Option R) (x0 : Int) : fnE { bits_TrailingZeros64c with brg := B } Tryd.f42 ([.s (.i .u64 x0)]) ([]) bits_TrailingZeros64d = bits_TrailingZeros64b B x0 := by kernel_rfl
theorem bits_TrailingZeros64_eq (x0 : Int) : fnE bits_TrailingZeros64c Tryd.f42 ([.s (.i .u64 x0)]) ([]) bits_TrailingZeros64d = bits_TrailingZeros64 x0 := bits_TrailingZeros64_eqb br x0
noncomputable def bits_TrailingZeros64a {R : Type} (o : Orc) (vs : List V) (objs : List Obj) (K : Bool → V → List Obj → Option R) : Option R := match vs, objs with
 | [.s (.i .u64 x0)], [] => ob (bits_TrailingZeros64 x0) fun y0 => K false (.s (.i .i64 y0)) ([])
 | _, _ => o 42 vs objs K
noncomputable def bits_TrailingZeros64o (o : Orc) : Orc := hook 42 (bits_TrailingZeros64a o) o
theorem bits_TrailingZeros64o_ok (o : Orc) (ho : OSound Tryd.prog o) : OSound Tryd.prog (bits_TrailingZeros64o o) := hook_ok ho fun vs objs K r h => by
 unfold bits_TrailingZeros64a at h
 split at h
 ·skip
  obtain ⟨t, h1, h2⟩ := ob_ok h
  refine anyOK_of mixed bits_TrailingZeros64c_ok (fn := Tryd.f42) (b := (Tryd.f42).body.getD .skip) (by kernel_rfl) (by kernel_rfl) (by kernel_rfl) ((bits_TrailingZeros64_eq _).trans h1) (m := 0) rfl (AllP.of (l' := []) (by kernel_rfl) trivial) fun v objs' hd => ?_
  unfold bits_TrailingZeros64d at hd
  split at hd
  ·skip
   cases hd
   exact h2
  ·cases hd
 ·exact ho _ _ _ _ _ h
noncomputable def set_Firstc : Ctx := mkC 18 ((bits_TrailingZeros64o oNil)) [] lpNil
theorem set_Firstc_ok : CtxOK Tryd.prog set_Firstc := mkC_ok ((bits_TrailingZeros64o_ok _ oNil_ok))
noncomputable def set_Firstd : V → List Obj → Option (Int) := fun v objs => match v, objs with
 | .s (.i .i64 y0), [] => some (y0)
 | _, _ => none
theorem set_First_eq (x0 x1 : Int) : fnE set_Firstc Tryd.f33 ([.agg [.one [.i .u64 x0, .i .u64 x1]]]) ([]) set_Firstd = set_First x0 x1 := by kernel_rfl
noncomputable def set_Firsta {R : Type} (o : Orc) (vs : List V) (objs : List Obj) (K : Bool → V → List Obj → Option R) : Option R := match vs, objs with
 | [.agg [.one [.i .u64 x0, .i .u64 x1]]], [] => ob (set_First x0 x1) fun y0 => K false (.s (.i .i64 y0)) ([])
 | _, _ => o 33 vs objs K
noncomputable def set_Firsto (o : Orc) : Orc := hook 33 (set_Firsta o) o
theorem set_Firsto_ok (o : Orc) (ho : OSound Tryd.prog o) : OSound Tryd.prog (set_Firsto o) := hook_ok ho fun vs objs K r h => by
 unfold set_Firsta at h
 split at h
 ·skip
  obtain ⟨t, h1, h2⟩ := ob_ok h
  refine anyOK_of mixed set_Firstc_ok (fn := Tryd.f33) (b := (Tryd.f33).body.getD .skip) (by kernel_rfl) (by kernel_rfl) (by kernel_rfl) ((set_First_eq _ _).trans h1) (m := 0) rfl (AllP.of (l' := []) (by kernel_rfl) trivial) fun v objs' hd => ?_
  unfold set_Firstd at hd
  split at hd
  ·skip
   cases hd
   exact h2
  ·cases hd
 ·exact ho _ _ _ _ _ h
noncomputable def board_Kingc : Ctx := mkC 9 ((set_Firsto (board_Ofo oNil))) [] lpNil
theorem board_Kingc_ok : CtxOK Tryd.prog board_Kingc := mkC_ok ((set_Firsto_ok _ (board_Ofo_ok _ oNil_ok)))
noncomputable def board_Kingd : V → List Obj → Option (Int) := fun v objs => match v, objs with
 | .s (.i .i64 y0), [] => some (y0)
 | _, _ => none
theorem board_King_eq (x0 : Int) (x1 x2 : List Int) (x3 : Int) (x4 x5 : List (List Int)) : fnE board_Kingc Tryd.f13 ([.s (.ptr 0 0 none 0), .s (.i .i64 x0)]) ([.rcells 57 [.arr .i8 81 x1, .arr .i8 16 x2, .one [.i .i8 x3], .rows [.i .u64, .i .u64] 32 x4, .rows [.i .u64, .i .u64] 2 x5]]) (pureD 1 board_Kingd) = board_King x0 x1 x2 x3 x4 x5 := by kernel_rfl
noncomputable def board_Kinga {R : Type} (o : Orc) (vs : List V) (objs : List Obj) (K : Bool → V → List Obj → Option R) : Option R := match vs, List.map Obj.toRO objs with
 | [.s (.ptr 0 0 none 0), .s (.i .i64 x0)], [.rcells 57 [.arr .i8 81 x1, .arr .i8 16 x2, .one [.i .i8 x3], .rows [.i .u64, .i .u64] 32 x4, .rows [.i .u64, .i .u64] 2 x5]] => ob (board_King x0 x1 x2 x3 x4 x5) fun y0 => K true (.s (.i .i64 y0)) ([])
 | _, _ => o 13 vs objs K
noncomputable def board_Kingo (o : Orc) : Orc := hook 13 (board_Kinga o) o
theorem board_Kingo_ok (o : Orc) (ho : OSound Tryd.prog o) : OSound Tryd.prog (board_Kingo o) := hook_ok ho fun vs objs K r h => by
 unfold board_Kinga at h
 split at h
 ·skip
  have hq : List.map Obj.toRO objs = _ := (by rename_i hq; first | exact hq | assumption)
  obtain ⟨t, h1, h2⟩ := ob_ok h
  refine purOK_by mixed board_Kingc_ok (m := 1) (fn := Tryd.f13) (b := (Tryd.f13).body.getD .skip) (by kernel_rfl) (by kernel_rfl) (by kernel_rfl) hq (by kernel_rfl) (by kernel_rfl) (AllP.of (l' := []) (by kernel_rfl) trivial) ((board_King_eq _ _ _ _ _ _).trans h1) fun v objs' hd => ?_
  unfold board_Kingd at hd
  split at hd
  ·skip
   cases hd
   exact h2
  ·cases hd
 ·exact ho _ _ _ _ _ h
noncomputable def piece_Rawc : Ctx := mkC 13 ((piece_Ofo oNil)) [] lpNil
theorem piece_Rawc_ok : CtxOK Tryd.prog piece_Rawc := mkC_ok ((piece_Ofo_ok _ oNil_ok))
noncomputable def piece_Rawd : V → List Obj → Option (Int) := fun v objs => match v, objs with
 | .s (.i .i64 y0), [] => some (y0)
 | _, _ => none
theorem piece_Raw_eq (x0 : Int) : fnE piece_Rawc Tryd.f20 ([.s (.i .i64 x0)]) ([]) piece_Rawd = piece_Raw x0 := by kernel_rfl
noncomputable def piece_Rawa {R : Type} (o : Orc) (vs : List V) (objs : List Obj) (K : Bool → V → List Obj → Option R) : Option R := match vs, objs with
 | [.s (.i .i64 x0)], [] => ob (piece_Raw x0) fun y0 => K false (.s (.i .i64 y0)) ([])
 | _, _ => o 20 vs objs K
noncomputable def piece_Rawo (o : Orc) : Orc := hook 20 (piece_Rawa o) o
theorem piece_Rawo_ok (o : Orc) (ho : OSound Tryd.prog o) : OSound Tryd.prog (piece_Rawo o) := hook_ok ho fun vs objs K r h => by
 unfold piece_Rawa at h
 split at h
 ·skip
  obtain ⟨t, h1, h2⟩ := ob_ok h
  refine anyOK_of mixed piece_Rawc_ok (fn := Tryd.f20) (b := (Tryd.f20).body.getD .skip) (by kernel_rfl) (by kernel_rfl) (by kernel_rfl) ((piece_Raw_eq _).trans h1) (m := 0) rfl (AllP.of (l' := []) (by kernel_rfl) trivial) fun v objs' hd => ?_
  unfold piece_Rawd at hd
  split at hd
  ·skip
   cases hd
   exact h2
  ·cases hd
 ·exact ho _ _ _ _ _ h
noncomputable def piece_Totalc : Ctx := mkC 15 (oNil) [] lpNil
theorem piece_Totalc_ok : CtxOK Tryd.prog piece_Totalc := mkC_ok (oNil_ok)
noncomputable def piece_Totald : V → List Obj → Option (Int) := fun v objs => match v, objs with
 | .s (.i .i64 y0), [] => some (y0)
 | _, _ => none
theorem piece_Total_eq (x0 : Int) : fnE piece_Totalc Tryd.f21 ([.s (.i .i64 x0)]) ([]) piece_Totald = piece_Total x0 := by kernel_rfl
noncomputable def piece_Totala {R : Type} (o : Orc) (vs : List V) (objs : List Obj) (K : Bool → V → List Obj → Option R) : Option R := match vs, objs with
 | [.s (.i .i64 x0)], [] => ob (piece_Total x0) fun y0 => K false (.s (.i .i64 y0)) ([])
 | _, _ => o 21 vs objs K
noncomputable def piece_Totalo (o : Orc) : Orc := hook 21 (piece_Totala o) o
theorem piece_Totalo_ok (o : Orc) (ho : OSound Tryd.prog o) : OSound Tryd.prog (piece_Totalo o) := hook_ok ho fun vs objs K r h => by
 unfold piece_Totala at h
 split at h
 ·skip
  obtain ⟨t, h1, h2⟩ := ob_ok h
  refine anyOK_of mixed piece_Totalc_ok (fn := Tryd.f21) (b := (Tryd.f21).body.getD .skip) (by kernel_rfl) (by kernel_rfl) (by kernel_rfl) ((piece_Total_eq _).trans h1) (m := 0) rfl (AllP.of (l' := []) (by kernel_rfl) trivial) fun v objs' hd => ?_
  unfold piece_Totald at hd
  split at hd
  ·skip
   cases hd
   exact h2
  ·cases hd
 ·exact ho _ _ _ _ _ h
noncomputable def set_Rankc : Ctx := mkC 5 (oNil) [] lpNil
theorem set_Rankc_ok : CtxOK Tryd.prog set_Rankc := mkC_ok (oNil_ok)
noncomputable def set_Rankd : V → List Obj → Option (Int) := fun v objs => match v, objs with
 | .s (.i .i64 y0), [] => some (y0)
 | _, _ => none
theorem set_Rank_eq (x0 : Int) : fnE set_Rankc Tryd.f46 ([.s (.i .i64 x0)]) ([]) set_Rankd = set_Rank x0 := by kernel_rfl
noncomputable def set_Ranka {R : Type} (o : Orc) (vs : List V) (objs : List Obj) (K : Bool → V → List Obj → Option R) : Option R := match vs, objs with
 | [.s (.i .i64 x0)], [] => ob (set_Rank x0) fun y0 => K false (.s (.i .i64 y0)) ([])
 | _, _ => o 46 vs objs K
noncomputable def set_Ranko (o : Orc) : Orc := hook 46 (set_Ranka o) o
theorem set_Ranko_ok (o : Orc) (ho : OSound Tryd.prog o) : OSound Tryd.prog (set_Ranko o) := hook_ok ho fun vs objs K r h => by
 unfold set_Ranka at h
 split at h
 ·skip
  obtain ⟨t, h1, h2⟩ := ob_ok h
  refine anyOK_of mixed set_Rankc_ok (fn := Tryd.f46) (b := (Tryd.f46).body.getD .skip) (by kernel_rfl) (by kernel_rfl) (by kernel_rfl) ((set_Rank_eq _).trans h1) (m := 0) rfl (AllP.of (l' := []) (by kernel_rfl) trivial) fun v objs' hd => ?_
  unfold set_Rankd at hd
  split at hd
  ·skip
   cases hd
   exact h2
  ·cases hd
 ·exact ho _ _ _ _ _ h
noncomputable def step_Farc : Ctx := mkC 23 ((set_Ranko oNil)) [] lpNil
theorem step_Farc_ok : CtxOK Tryd.prog step_Farc := mkC_ok ((set_Ranko_ok _ oNil_ok))
noncomputable def step_Fard : V → List Obj → Option (Int) := fun v objs => match v, objs with
 | .s (.i .i64 y0), [] => some (y0)
 | _, _ => none
theorem step_Far_eq (x0 x1 : Int) : fnE step_Farc Tryd.f43 ([.s (.i .i64 x0), .s (.i .i64 x1)]) ([]) step_Fard = step_Far x0 x1 := by kernel_rfl
noncomputable def step_Fara {R : Type} (o : Orc) (vs : List V) (objs : List Obj) (K : Bool → V → List Obj → Option R) : Option R := match vs, objs with
 | [.s (.i .i64 x0), .s (.i .i64 x1)], [] => ob (step_Far x0 x1) fun y0 => K false (.s (.i .i64 y0)) ([])
 | _, _ => o 43 vs objs K
noncomputable def step_Faro (o : Orc) : Orc := hook 43 (step_Fara o) o
theorem step_Faro_ok (o : Orc) (ho : OSound Tryd.prog o) : OSound Tryd.prog (step_Faro o) := hook_ok ho fun vs objs K r h => by
 unfold step_Fara at h
 split at h
 ·skip
  obtain ⟨t, h1, h2⟩ := ob_ok h
  refine anyOK_of mixed step_Farc_ok (fn := Tryd.f43) (b := (Tryd.f43).body.getD .skip) (by kernel_rfl) (by kernel_rfl) (by kernel_rfl) ((step_Far_eq _ _).trans h1) (m := 0) rfl (AllP.of (l' := []) (by kernel_rfl) trivial) fun v objs' hd => ?_
  unfold step_Fard at hd
  split at hd
  ·skip
   cases hd
   exact h2
  ·cases hd
 ·exact ho _ _ _ _ _ h
noncomputable def step_Deadc : Ctx := mkC 25 ((piece_Kindo (step_Faro (piece_Sideo oNil)))) [] lpNil
theorem step_Deadc_ok : CtxOK Tryd.prog step_Deadc := mkC_ok ((piece_Kindo_ok _ (step_Faro_ok _ (piece_Sideo_ok _ oNil_ok))))
noncomputable def step_Deadd : V → List Obj → Option (Bool) := fun v objs => match v, objs with
 | .s (.b y0), [] => some (y0)
 | _, _ => none
theorem step_Dead_eq (x0 x1 : Int) : fnE step_Deadc Tryd.f34 ([.s (.i .i8 x0), .s (.i .i64 x1)]) ([]) step_Deadd = step_Dead x0 x1 := by kernel_rfl
noncomputable def step_Deada {R : Type} (o : Orc) (vs : List V) (objs : List Obj) (K : Bool → V → List Obj → Option R) : Option R := match vs, objs with
 | [.s (.i .i8 x0), .s (.i .i64 x1)], [] => ob (step_Dead x0 x1) fun y0 => K false (.s (.b y0)) ([])
 | _, _ => o 34 vs objs K
noncomputable def step_Deado (o : Orc) : Orc := hook 34 (step_Deada o) o
theorem step_Deado_ok (o : Orc) (ho : OSound Tryd.prog o) : OSound Tryd.prog (step_Deado o) := hook_ok ho fun vs objs K r h => by
 unfold step_Deada at h
 split at h
 ·skip
  obtain ⟨t, h1, h2⟩ := ob_ok h
  refine anyOK_of mixed step_Deadc_ok (fn := Tryd.f34) (b := (Tryd.f34).body.getD .skip) (by kernel_rfl) (by kernel_rfl) (by kernel_rfl) ((step_Dead_eq _ _).trans h1) (m := 0) rfl (AllP.of (l' := []) (by kernel_rfl) trivial) fun v objs' hd => ?_
  unfold step_Deadd at hd
  split at hd
  ·skip
   cases hd
   exact h2
  ·cases hd
 ·exact ho _ _ _ _ _ h
noncomputable def set_InFilel3d : Ex → List V → List Obj → Option (Int × Int × Int × Int) := fun e vs objs => match e, vs, objs with
 | .exit 0, [.s (.ptr 0 0 none 0), .s (.ptr 1 0 none 0)], [.cells 39 [.one [.i .u64 y0, .i .u64 y1]], .cells 39 [.one [.i .u64 y2, .i .u64 y3]]] => some (y0, y1, y2, y3)
 | _, _, _ => none
noncomputable def set_InFilep3 {R : Type} (vs : List V) (objs : List Obj) (K : Ex → List V → List Obj → Option R) : Option R := match vs, objs with
 | [.s (.i .i64 x0), .s (.ptr 0 0 none 0), .s (.ptr 1 0 none 0), .s (.i .i64 x1)], [.cells 39 [.one [.i .u64 x2, .i .u64 x3]], .cells 39 [.one [.i .u64 x4, .i .u64 x5]]] => ob (set_InFilel3 many x0 x1 x2 x3 x4 x5) fun z => K (.exit 0) ([.s (.ptr 0 0 none 0), .s (.ptr 1 0 none 0)]) ([.cells 39 [.one [.i .u64 (z.1), .i .u64 (z.2.1)]], .cells 39 [.one [.i .u64 (z.2.2.1), .i .u64 (z.2.2.2)]]])
 | _, _ => none
noncomputable def set_InFilelp : {R : Type} → Nat → List V → List Obj → (Ex → List V → List Obj → Option R) → Option R := fun q vs objs K => bif Nat.beq q 3 then set_InFilep3 vs objs K else none
noncomputable def set_InFilec : Ctx := mkC 15 ((set_Witho (set_Squareo oNil))) [(3, [0, 2, 3, 5], [2, 3])] set_InFilelp
theorem set_InFilec_ok : CtxOK Tryd.prog set_InFilec := mkC_ok ((set_Witho_ok _ (set_Squareo_ok _ oNil_ok)))
noncomputable def set_InFilel3r (f : Nat) (x0 x1 : Int) (x2 x3 : Int) (x4 x5 : Int) : Option (Int × Int × Int × Int) := lrun set_InFilec 0 [0, 2, 3, 5] [2, 3] (loopOf Tryd.f36 3) f ([.s (.i .i64 x0), .s (.ptr 0 0 none 0), .s (.ptr 1 0 none 0), .s (.i .i64 x1)]) ([.cells 39 [.one [.i .u64 x2, .i .u64 x3]], .cells 39 [.one [.i .u64 x4, .i .u64 x5]]]) set_InFilel3d
theorem set_InFilel3_step (f : Nat) (x0 x1 : Int) (x2 x3 : Int) (x4 x5 : Int) : set_InFilel3r (f + 1) x0 x1 x2 x3 x4 x5 = set_InFilel3s (set_InFilel3r f) x0 x1 x2 x3 x4 x5 := by kernel_rfl
theorem set_InFilel3_eq : ∀ f, set_InFilel3r f = set_InFilel3 f
 | 0 => rfl
 | f + 1 => by funext x0 x1 x2 x3 x4 x5; rw [set_InFilel3_step, set_InFilel3_eq f]; rfl
theorem set_InFiles3 : LoopSound Tryd.prog set_InFilec 0 (loopOf Tryd.f36 3) :=
 loopSound_by mixed set_InFilec_ok (AllP.of (l' := []) (by kernel_rfl) trivial) (q := 3) (kin := [0, 2, 3, 5]) (kout := [2, 3]) (by kernel_rfl) (by kernel_rfl) fun vs objs K r h => by
  replace h : set_InFilep3 vs objs K = some r := h
  unfold set_InFilep3 at h
  split at h
  ·skip
   obtain ⟨t, h1, h2⟩ := ob_ok h
   rw [← set_InFilel3_eq] at h1
   refine ⟨_, set_InFilel3d, t, many, h1, fun e vs' objs' hd => ?_⟩
   unfold set_InFilel3d at hd
   split at hd
   ·skip
    cases hd
    exact h2
   ·cases hd
  ·cases h
noncomputable def set_InFiled : V → List Obj → Option (Int × Int) := fun v objs => match v, objs with
 | .agg [.one [.i .u64 y0, .i .u64 y1]], [] => some (y0, y1)
 | _, _ => none
theorem set_InFile_eq (x0 : Int) : fnE set_InFilec Tryd.f36 ([.s (.i .i64 x0)]) ([]) set_InFiled = set_InFile x0 := by kernel_rfl
noncomputable def set_InFilea {R : Type} (o : Orc) (vs : List V) (objs : List Obj) (K : Bool → V → List Obj → Option R) : Option R := match vs, objs with
 | [.s (.i .i64 x0)], [] => ob (set_InFile x0) fun z => K false (.agg [.one [.i .u64 (z.1), .i .u64 (z.2)]]) ([])
 | _, _ => o 36 vs objs K
noncomputable def set_InFileo (o : Orc) : Orc := hook 36 (set_InFilea o) o
theorem set_InFileo_ok (o : Orc) (ho : OSound Tryd.prog o) : OSound Tryd.prog (set_InFileo o) := hook_ok ho fun vs objs K r h => by
 unfold set_InFilea at h
 split at h
 ·skip
  obtain ⟨t, h1, h2⟩ := ob_ok h
  refine anyOK_of mixed set_InFilec_ok (fn := Tryd.f36) (b := (Tryd.f36).body.getD .skip) (by kernel_rfl) (by kernel_rfl) (by kernel_rfl) ((set_InFile_eq _).trans h1) (m := 0) rfl (AllP.of (l' := [loopOf Tryd.f36 3]) (by kernel_rfl) ⟨set_InFiles3, trivial⟩) fun v objs' hd => ?_
  unfold set_InFiled at hd
  split at hd
  ·skip
   cases hd
   exact h2
  ·cases hd
 ·exact ho _ _ _ _ _ h
noncomputable def set_Andc : Ctx := mkC 16 (oNil) [] lpNil
theorem set_Andc_ok : CtxOK Tryd.prog set_Andc := mkC_ok (oNil_ok)
noncomputable def set_Andd : V → List Obj → Option (Int × Int) := fun v objs => match v, objs with
 | .agg [.one [.i .u64 y0, .i .u64 y1]], [] => some (y0, y1)
 | _, _ => none
theorem set_And_eq (x0 x1 : Int) (x2 x3 : Int) : fnE set_Andc Tryd.f35 ([.agg [.one [.i .u64 x0, .i .u64 x1]], .agg [.one [.i .u64 x2, .i .u64 x3]]]) ([]) set_Andd = set_And x0 x1 x2 x3 := by kernel_rfl
noncomputable def set_Anda {R : Type} (o : Orc) (vs : List V) (objs : List Obj) (K : Bool → V → List Obj → Option R) : Option R := match vs, objs with
 | [.agg [.one [.i .u64 x0, .i .u64 x1]], .agg [.one [.i .u64 x2, .i .u64 x3]]], [] => ob (set_And x0 x1 x2 x3) fun z => K false (.agg [.one [.i .u64 (z.1), .i .u64 (z.2)]]) ([])
 | _, _ => o 35 vs objs K
noncomputable def set_Ando (o : Orc) : Orc := hook 35 (set_Anda o) o
theorem set_Ando_ok (o : Orc) (ho : OSound Tryd.prog o) : OSound Tryd.prog (set_Ando o) := hook_ok ho fun vs objs K r h => by
 unfold set_Anda at h
 split at h
 ·skip
  obtain ⟨t, h1, h2⟩ := ob_ok h
  refine anyOK_of mixed set_Andc_ok (fn := Tryd.f35) (b := (Tryd.f35).body.getD .skip) (by kernel_rfl) (by kernel_rfl) (by kernel_rfl) ((set_And_eq _ _ _ _).trans h1) (m := 0) rfl (AllP.of (l' := []) (by kernel_rfl) trivial) fun v objs' hd => ?_
  unfold set_Andd at hd
  split at hd
  ·skip
   cases hd
   exact h2
  ·cases hd
 ·exact ho _ _ _ _ _ h
noncomputable def board_filesl2d : Ex → List V → List Obj → Option ((Int × List Int × List Int × Int) ⊕ (List Int × List Int × Int)) := fun e vs objs => match e, vs, objs with
 | .ret, [.s (.ptr 0 0 none 0), .s (.i .i64 y0)], [.cells 29 [.arr .i8 81 y1, .arr .i8 16 y2, .one [.i .i8 y3]]] => some (.inl (y0, y1, y2, y3))
 | .exit 0, [.s (.ptr 0 0 none 0), .s .bad], [.cells 29 [.arr .i8 81 y0, .arr .i8 16 y1, .one [.i .i8 y2]]] => some (.inr (y0, y1, y2))
 | _, _, _ => none
noncomputable def board_filesl12d : Ex → List V → List Obj → Option ((Int × Int × List Int × List Int × Int × List (List Int) × List (List Int)) ⊕ (Int × List Int × List Int × Int × List (List Int) × List (List Int))) := fun e vs objs => match e, vs, objs with
 | .ret, [.s (.i .i64 y0), .s (.ptr 0 0 none 0), .s (.i .i64 y1)], [.cells 57 [.arr .i8 81 y2, .arr .i8 16 y3, .one [.i .i8 y4], .rows [.i .u64, .i .u64] 32 y5, .rows [.i .u64, .i .u64] 2 y6]] => some (.inl (y0, y1, y2, y3, y4, y5, y6))
 | .exit 4, [.s .bad, .s (.ptr 0 0 none 0), .s (.i .i64 y0)], [.cells 57 [.arr .i8 81 y1, .arr .i8 16 y2, .one [.i .i8 y3], .rows [.i .u64, .i .u64] 32 y4, .rows [.i .u64, .i .u64] 2 y5]] => some (.inr (y0, y1, y2, y3, y4, y5))
 | _, _, _ => none
noncomputable def board_filesl9d : Ex → List V → List Obj → Option ((Int) ⊕ (Unit)) := fun e vs objs => match e, vs, objs with
 | .ret, [.s (.i .i64 y0)], [] => some (.inl (y0))
 | .exit 2, [.s .bad], [] => some (.inr ())
 | _, _, _ => none
noncomputable def board_filesp2 {R : Type} (vs : List V) (objs : List Obj) (K : Ex → List V → List Obj → Option R) : Option R := match vs, objs with
 | [.s (.ptr 0 0 none 0), .agg [.arr .i8 81 x0], .s (.i .i64 x1)], [.cells 29 [.arr .i8 81 x2, .arr .i8 16 x3, .one [.i .i8 x4]]] => ob (board_filesl2 many x0 x1 x2 x3 x4) fun t0 => sw t0 (fun z => K (.ret) ([.s (.ptr 0 0 none 0), .s (.i .i64 (z.1))]) ([.cells 29 [.arr .i8 81 (z.2.1), .arr .i8 16 (z.2.2.1), .one [.i .i8 (z.2.2.2)]]])) (fun z => K (.exit 0) ([.s (.ptr 0 0 none 0), .s .bad]) ([.cells 29 [.arr .i8 81 (z.1), .arr .i8 16 (z.2.1), .one [.i .i8 (z.2.2)]]]))
 | _, _ => none
noncomputable def board_filesp12 {R : Type} (vs : List V) (objs : List Obj) (K : Ex → List V → List Obj → Option R) : Option R := match vs, objs with
 | [.s (.ptr 0 0 none 0), .s (.i .i64 x0), .s (.i .i64 x1), .s (.i .i64 x2)], [.cells 57 [.arr .i8 81 x3, .arr .i8 16 x4, .one [.i .i8 x5], .rows [.i .u64, .i .u64] 32 x6, .rows [.i .u64, .i .u64] 2 x7]] => ob (board_filesl12 many x0 x1 x2 x3 x4 x5 x6 x7) fun t0 => sw t0 (fun z => K (.ret) ([.s (.i .i64 (z.1)), .s (.ptr 0 0 none 0), .s (.i .i64 (z.2.1))]) ([.cells 57 [.arr .i8 81 (z.2.2.1), .arr .i8 16 (z.2.2.2.1), .one [.i .i8 (z.2.2.2.2.1)], .rows [.i .u64, .i .u64] 32 (z.2.2.2.2.2.1), .rows [.i .u64, .i .u64] 2 (z.2.2.2.2.2.2)]])) (fun z => K (.exit 4) ([.s .bad, .s (.ptr 0 0 none 0), .s (.i .i64 (z.1))]) ([.cells 57 [.arr .i8 81 (z.2.1), .arr .i8 16 (z.2.2.1), .one [.i .i8 (z.2.2.2.1)], .rows [.i .u64, .i .u64] 32 (z.2.2.2.2.1), .rows [.i .u64, .i .u64] 2 (z.2.2.2.2.2)]]))
 | _, _ => none
noncomputable def board_filesp9 {R : Type} (vs : List V) (objs : List Obj) (K : Ex → List V → List Obj → Option R) : Option R := match vs, objs with
 | [.s (.ptr 0 0 none 0), .s (.i .i64 x0)], [.cells 57 [.arr .i8 81 x1, .arr .i8 16 x2, .one [.i .i8 x3], .rows [.i .u64, .i .u64] 32 x4, .rows [.i .u64, .i .u64] 2 x5]] => ob (board_filesl9 many x0 x1 x2 x3 x4 x5) fun t0 => sw t0 (fun y0 => K (.ret) ([.s (.i .i64 y0)]) ([])) (fun _ => K (.exit 2) ([.s .bad]) ([]))
 | _, _ => none
noncomputable def board_fileslp : {R : Type} → Nat → List V → List Obj → (Ex → List V → List Obj → Option R) → Option R := fun q vs objs K => bif Nat.beq q 2 then board_filesp2 vs objs K else bif Nat.beq q 12 then board_filesp12 vs objs K else bif Nat.beq q 9 then board_filesp9 vs objs K else none
noncomputable def board_filesc : Ctx := mkC 36 ((set_Counto (set_Ando (set_InFileo (board_Ofo (board_Newo (step_Deado oNil))))))) [(2, [1, 9, 10], [1, 2]), (9, [5, 20], [2]), (12, [5, 6, 20, 23], [2, 5, 20])] board_fileslp
theorem board_filesc_ok : CtxOK Tryd.prog board_filesc := mkC_ok ((set_Counto_ok _ (set_Ando_ok _ (set_InFileo_ok _ (board_Ofo_ok _ (board_Newo_ok _ (step_Deado_ok _ oNil_ok)))))))
noncomputable def board_filesl2r (f : Nat) (x0 : List Int) (x1 : Int) (x2 x3 : List Int) (x4 : Int) : Option ((Int × List Int × List Int × Int) ⊕ (List Int × List Int × Int)) := lrun board_filesc 0 [1, 9, 10] [1, 2] (loopOf Tryd.f22 2) f ([.s (.ptr 0 0 none 0), .agg [.arr .i8 81 x0], .s (.i .i64 x1)]) ([.cells 29 [.arr .i8 81 x2, .arr .i8 16 x3, .one [.i .i8 x4]]]) board_filesl2d
theorem board_filesl2_step (f : Nat) (x0 : List Int) (x1 : Int) (x2 x3 : List Int) (x4 : Int) : board_filesl2r (f + 1) x0 x1 x2 x3 x4 = board_filesl2s (board_filesl2r f) x0 x1 x2 x3 x4 := by kernel_rfl
theorem board_filesl2_eq : ∀ f, board_filesl2r f = board_filesl2 f
 | 0 => rfl
 | f + 1 => by funext x0 x1 x2 x3 x4; rw [board_filesl2_step, board_filesl2_eq f]; rfl
noncomputable def board_filesl12r (f : Nat) (x0 x1 x2 : Int) (x3 x4 : List Int) (x5 : Int) (x6 x7 : List (List Int)) : Option ((Int × Int × List Int × List Int × Int × List (List Int) × List (List Int)) ⊕ (Int × List Int × List Int × Int × List (List Int) × List (List Int))) := lrun board_filesc 0 [5, 6, 20, 23] [2, 5, 20] (loopOf Tryd.f22 12) f ([.s (.ptr 0 0 none 0), .s (.i .i64 x0), .s (.i .i64 x1), .s (.i .i64 x2)]) ([.cells 57 [.arr .i8 81 x3, .arr .i8 16 x4, .one [.i .i8 x5], .rows [.i .u64, .i .u64] 32 x6, .rows [.i .u64, .i .u64] 2 x7]]) board_filesl12d
theorem board_filesl12_step (f : Nat) (x0 x1 x2 : Int) (x3 x4 : List Int) (x5 : Int) (x6 x7 : List (List Int)) : board_filesl12r (f + 1) x0 x1 x2 x3 x4 x5 x6 x7 = board_filesl12s (board_filesl12r f) x0 x1 x2 x3 x4 x5 x6 x7 := by kernel_rfl
theorem board_filesl12_eq : ∀ f, board_filesl12r f = board_filesl12 f
 | 0 => rfl
 | f + 1 => by funext x0 x1 x2 x3 x4 x5 x6 x7; rw [board_filesl12_step, board_filesl12_eq f]; rfl
noncomputable def board_filesl9r (f : Nat) (x0 : Int) (x1 x2 : List Int) (x3 : Int) (x4 x5 : List (List Int)) : Option ((Int) ⊕ (Unit)) := lrun board_filesc 0 [5, 20] [2] (loopOf Tryd.f22 9) f ([.s (.ptr 0 0 none 0), .s (.i .i64 x0)]) ([.cells 57 [.arr .i8 81 x1, .arr .i8 16 x2, .one [.i .i8 x3], .rows [.i .u64, .i .u64] 32 x4, .rows [.i .u64, .i .u64] 2 x5]]) board_filesl9d
theorem board_filesl9_step (f : Nat) (x0 : Int) (x1 x2 : List Int) (x3 : Int) (x4 x5 : List (List Int)) : board_filesl9r (f + 1) x0 x1 x2 x3 x4 x5 = board_filesl9s (board_filesl9r f) x0 x1 x2 x3 x4 x5 := by kernel_rfl
theorem board_filesl9_eq : ∀ f, board_filesl9r f = board_filesl9 f
 | 0 => rfl
 | f + 1 => by funext x0 x1 x2 x3 x4 x5; rw [board_filesl9_step, board_filesl9_eq f]; rfl
theorem board_filess2 : LoopSound Tryd.prog board_filesc 0 (loopOf Tryd.f22 2) :=
 loopSound_by mixed board_filesc_ok (AllP.of (l' := []) (by kernel_rfl) trivial) (q := 2) (kin := [1, 9, 10]) (kout := [1, 2]) (by kernel_rfl) (by kernel_rfl) fun vs objs K r h => by
  replace h : board_filesp2 vs objs K = some r := h
  unfold board_filesp2 at h
  split at h
  ·skip
   obtain ⟨t, h1, h2⟩ := ob_ok h
   rw [← board_filesl2_eq] at h1
   refine ⟨_, board_filesl2d, t, many, h1, fun e vs' objs' hd => ?_⟩
   unfold board_filesl2d at hd
   split at hd
   ·skip
    cases hd
    exact h2
   ·skip
    cases hd
    exact h2
   ·cases hd
  ·cases h
theorem board_filess12 : LoopSound Tryd.prog board_filesc 0 (loopOf Tryd.f22 12) :=
 loopSound_by mixed board_filesc_ok (AllP.of (l' := []) (by kernel_rfl) trivial) (q := 12) (kin := [5, 6, 20, 23]) (kout := [2, 5, 20]) (by kernel_rfl) (by kernel_rfl) fun vs objs K r h => by
  replace h : board_filesp12 vs objs K = some r := h
  unfold board_filesp12 at h
  split at h
  ·skip
   obtain ⟨t, h1, h2⟩ := ob_ok h
   rw [← board_filesl12_eq] at h1
   refine ⟨_, board_filesl12d, t, many, h1, fun e vs' objs' hd => ?_⟩
   unfold board_filesl12d at hd
   split at hd
   ·skip
    cases hd
    exact h2
   ·skip
    cases hd
    exact h2
   ·cases hd
  ·cases h
theorem board_filess9 : LoopSound Tryd.prog board_filesc 0 (loopOf Tryd.f22 9) :=
 loopSound_by mixed board_filesc_ok (AllP.of (l' := [loopOf Tryd.f22 12]) (by kernel_rfl) ⟨board_filess12, trivial⟩) (q := 9) (kin := [5, 20]) (kout := [2]) (by kernel_rfl) (by kernel_rfl) fun vs objs K r h => by
  replace h : board_filesp9 vs objs K = some r := h
  unfold board_filesp9 at h
  split at h
  ·skip
   obtain ⟨t, h1, h2⟩ := ob_ok h
   rw [← board_filesl9_eq] at h1
   refine ⟨_, board_filesl9d, t, many, h1, fun e vs' objs' hd => ?_⟩
   unfold board_filesl9d at hd
   split at hd
   ·skip
    cases hd
    exact h2
   ·skip
    cases hd
    exact h2
   ·cases hd
  ·cases h
noncomputable def board_filesd : V → List Obj → Option (Int) := fun v objs => match v, objs with
 | .s (.i .i64 y0), [] => some (y0)
 | _, _ => none
theorem board_files_eq (x0 x1 : List Int) (x2 : Int) : fnE board_filesc Tryd.f22 ([.agg [.arr .i8 81 x0, .arr .i8 16 x1, .one [.i .i8 x2]]]) ([]) board_filesd = board_files x0 x1 x2 := by kernel_rfl
noncomputable def board_filesa {R : Type} (o : Orc) (vs : List V) (objs : List Obj) (K : Bool → V → List Obj → Option R) : Option R := match vs, objs with
 | [.agg [.arr .i8 81 x0, .arr .i8 16 x1, .one [.i .i8 x2]]], [] => ob (board_files x0 x1 x2) fun y0 => K false (.s (.i .i64 y0)) ([])
 | _, _ => o 22 vs objs K
noncomputable def board_fileso (o : Orc) : Orc := hook 22 (board_filesa o) o
theorem board_fileso_ok (o : Orc) (ho : OSound Tryd.prog o) : OSound Tryd.prog (board_fileso o) := hook_ok ho fun vs objs K r h => by
 unfold board_filesa at h
 split at h
 ·skip
  obtain ⟨t, h1, h2⟩ := ob_ok h
  refine anyOK_of mixed board_filesc_ok (fn := Tryd.f22) (b := (Tryd.f22).body.getD .skip) (by kernel_rfl) (by kernel_rfl) (by kernel_rfl) ((board_files_eq _ _ _).trans h1) (m := 0) rfl (AllP.of (l' := [loopOf Tryd.f22 2, loopOf Tryd.f22 9]) (by kernel_rfl) ⟨board_filess2, board_filess9, trivial⟩) fun v objs' hd => ?_
  unfold board_filesd at hd
  split at hd
  ·skip
   cases hd
   exact h2
  ·cases hd
 ·exact ho _ _ _ _ _ h
noncomputable def board_Checkl6d : Ex → List V → List Obj → Option ((Int × List Int × List Int × Int × List Int × List Int) ⊕ (List Int × List Int × Int × List Int × List Int)) := fun e vs objs => match e, vs, objs with
 | .ret, [.s (.ptr 0 0 none 0), .s (.i .i64 y0), .s (.ptr 1 0 none 0), .s (.ptr 2 0 none 0)], [.cells 29 [.arr .i8 81 y1, .arr .i8 16 y2, .one [.i .i8 y3]], .cells 44 [.arr .i64 9 y4], .cells 49 [.arr .i64 2 y5]] => some (.inl (y0, y1, y2, y3, y4, y5))
 | .exit 0, [.s (.ptr 0 0 none 0), .s .bad, .s (.ptr 1 0 none 0), .s (.ptr 2 0 none 0)], [.cells 29 [.arr .i8 81 y0, .arr .i8 16 y1, .one [.i .i8 y2]], .cells 44 [.arr .i64 9 y3], .cells 49 [.arr .i64 2 y4]] => some (.inr (y0, y1, y2, y3, y4))
 | _, _, _ => none
noncomputable def board_Checkl20d : Ex → List V → List Obj → Option ((Int × List Int × Int × List Int × List Int × Int × List Int × List Int) ⊕ (List Int × Int × List Int × List Int × Int × List Int × List Int)) := fun e vs objs => match e, vs, objs with
 | .ret, [.s (.ptr 0 0 none 0), .s (.i .i64 y0), .s (.ptr 1 0 none 0), .s (.ptr 2 0 none 0), .agg [.arr .i8 16 y1], .s (.i .i64 y2)], [.cells 29 [.arr .i8 81 y3, .arr .i8 16 y4, .one [.i .i8 y5]], .cells 44 [.arr .i64 9 y6], .cells 49 [.arr .i64 2 y7]] => some (.inl (y0, y1, y2, y3, y4, y5, y6, y7))
 | .exit 9, [.s (.ptr 0 0 none 0), .s .bad, .s (.ptr 1 0 none 0), .s (.ptr 2 0 none 0), .agg [.arr .i8 16 y0], .s (.i .i64 y1)], [.cells 29 [.arr .i8 81 y2, .arr .i8 16 y3, .one [.i .i8 y4]], .cells 44 [.arr .i64 9 y5], .cells 49 [.arr .i64 2 y6]] => some (.inr (y0, y1, y2, y3, y4, y5, y6))
 | _, _, _ => none
noncomputable def board_Checkl17d : Ex → List V → List Obj → Option ((Int × List Int × List Int × Int × List Int × List Int) ⊕ (List Int × List Int × Int × List Int × List Int)) := fun e vs objs => match e, vs, objs with
 | .ret, [.s (.ptr 0 0 none 0), .s (.i .i64 y0), .s (.ptr 1 0 none 0), .s (.ptr 2 0 none 0)], [.cells 29 [.arr .i8 81 y1, .arr .i8 16 y2, .one [.i .i8 y3]], .cells 44 [.arr .i64 9 y4], .cells 49 [.arr .i64 2 y5]] => some (.inl (y0, y1, y2, y3, y4, y5))
 | .exit 7, [.s (.ptr 0 0 none 0), .s .bad, .s (.ptr 1 0 none 0), .s (.ptr 2 0 none 0)], [.cells 29 [.arr .i8 81 y0, .arr .i8 16 y1, .one [.i .i8 y2]], .cells 44 [.arr .i64 9 y3], .cells 49 [.arr .i64 2 y4]] => some (.inr (y0, y1, y2, y3, y4))
 | _, _, _ => none
noncomputable def board_Checkl30d : Ex → List V → List Obj → Option ((Int × List Int × List Int × Int) ⊕ (List Int × List Int × Int)) := fun e vs objs => match e, vs, objs with
 | .ret, [.s (.ptr 0 0 none 0), .s (.i .i64 y0)], [.cells 29 [.arr .i8 81 y1, .arr .i8 16 y2, .one [.i .i8 y3]]] => some (.inl (y0, y1, y2, y3))
 | .exit 11, [.s (.ptr 0 0 none 0), .s .bad], [.cells 29 [.arr .i8 81 y0, .arr .i8 16 y1, .one [.i .i8 y2]]] => some (.inr (y0, y1, y2))
 | _, _, _ => none
noncomputable def board_Checkp6 {R : Type} (vs : List V) (objs : List Obj) (K : Ex → List V → List Obj → Option R) : Option R := match vs, objs with
 | [.s (.ptr 0 0 none 0), .s (.ptr 1 0 none 0), .s (.ptr 2 0 none 0), .agg [.arr .i8 81 x0], .s (.i .i64 x1)], [.cells 29 [.arr .i8 81 x2, .arr .i8 16 x3, .one [.i .i8 x4]], .cells 44 [.arr .i64 9 x5], .cells 49 [.arr .i64 2 x6]] => ob (board_Checkl6 many x0 x1 x2 x3 x4 x5 x6) fun t0 => sw t0 (fun z => K (.ret) ([.s (.ptr 0 0 none 0), .s (.i .i64 (z.1)), .s (.ptr 1 0 none 0), .s (.ptr 2 0 none 0)]) ([.cells 29 [.arr .i8 81 (z.2.1), .arr .i8 16 (z.2.2.1), .one [.i .i8 (z.2.2.2.1)]], .cells 44 [.arr .i64 9 (z.2.2.2.2.1)], .cells 49 [.arr .i64 2 (z.2.2.2.2.2)]])) (fun z => K (.exit 0) ([.s (.ptr 0 0 none 0), .s .bad, .s (.ptr 1 0 none 0), .s (.ptr 2 0 none 0)]) ([.cells 29 [.arr .i8 81 (z.1), .arr .i8 16 (z.2.1), .one [.i .i8 (z.2.2.1)]], .cells 44 [.arr .i64 9 (z.2.2.2.1)], .cells 49 [.arr .i64 2 (z.2.2.2.2)]]))
 | _, _ => none
noncomputable def board_Checkp20 {R : Type} (vs : List V) (objs : List Obj) (K : Ex → List V → List Obj → Option R) : Option R := match vs, objs with
 | [.s (.ptr 0 0 none 0), .s (.ptr 1 0 none 0), .s (.ptr 2 0 none 0), .agg [.arr .i8 16 x0], .s (.i .i64 x1), .agg [.arr .i8 8 x2], .s (.i .i64 x3)], [.cells 29 [.arr .i8 81 x4, .arr .i8 16 x5, .one [.i .i8 x6]], .cells 44 [.arr .i64 9 x7], .cells 49 [.arr .i64 2 x8]] => ob (board_Checkl20 many x0 x1 x2 x3 x4 x5 x6 x7 x8) fun t0 => sw t0 (fun z => K (.ret) ([.s (.ptr 0 0 none 0), .s (.i .i64 (z.1)), .s (.ptr 1 0 none 0), .s (.ptr 2 0 none 0), .agg [.arr .i8 16 (z.2.1)], .s (.i .i64 (z.2.2.1))]) ([.cells 29 [.arr .i8 81 (z.2.2.2.1), .arr .i8 16 (z.2.2.2.2.1), .one [.i .i8 (z.2.2.2.2.2.1)]], .cells 44 [.arr .i64 9 (z.2.2.2.2.2.2.1)], .cells 49 [.arr .i64 2 (z.2.2.2.2.2.2.2)]])) (fun z => K (.exit 9) ([.s (.ptr 0 0 none 0), .s .bad, .s (.ptr 1 0 none 0), .s (.ptr 2 0 none 0), .agg [.arr .i8 16 (z.1)], .s (.i .i64 (z.2.1))]) ([.cells 29 [.arr .i8 81 (z.2.2.1), .arr .i8 16 (z.2.2.2.1), .one [.i .i8 (z.2.2.2.2.1)]], .cells 44 [.arr .i64 9 (z.2.2.2.2.2.1)], .cells 49 [.arr .i64 2 (z.2.2.2.2.2.2)]]))
 | _, _ => none
noncomputable def board_Checkp17 {R : Type} (vs : List V) (objs : List Obj) (K : Ex → List V → List Obj → Option R) : Option R := match vs, objs with
 | [.s (.ptr 0 0 none 0), .s (.ptr 1 0 none 0), .s (.ptr 2 0 none 0), .agg [.arr .i8 16 x0], .s (.i .i64 x1)], [.cells 29 [.arr .i8 81 x2, .arr .i8 16 x3, .one [.i .i8 x4]], .cells 44 [.arr .i64 9 x5], .cells 49 [.arr .i64 2 x6]] => ob (board_Checkl17 many x0 x1 x2 x3 x4 x5 x6) fun t0 => sw t0 (fun z => K (.ret) ([.s (.ptr 0 0 none 0), .s (.i .i64 (z.1)), .s (.ptr 1 0 none 0), .s (.ptr 2 0 none 0)]) ([.cells 29 [.arr .i8 81 (z.2.1), .arr .i8 16 (z.2.2.1), .one [.i .i8 (z.2.2.2.1)]], .cells 44 [.arr .i64 9 (z.2.2.2.2.1)], .cells 49 [.arr .i64 2 (z.2.2.2.2.2)]])) (fun z => K (.exit 7) ([.s (.ptr 0 0 none 0), .s .bad, .s (.ptr 1 0 none 0), .s (.ptr 2 0 none 0)]) ([.cells 29 [.arr .i8 81 (z.1), .arr .i8 16 (z.2.1), .one [.i .i8 (z.2.2.1)]], .cells 44 [.arr .i64 9 (z.2.2.2.1)], .cells 49 [.arr .i64 2 (z.2.2.2.2)]]))
 | _, _ => none
noncomputable def board_Checkp30 {R : Type} (vs : List V) (objs : List Obj) (K : Ex → List V → List Obj → Option R) : Option R := match vs, objs with
 | [.s (.ptr 0 0 none 0), .s (.ptr 1 0 none 0), .s (.i .i64 x0)], [.cells 29 [.arr .i8 81 x1, .arr .i8 16 x2, .one [.i .i8 x3]], .cells 44 [.arr .i64 9 x4]] => ob (board_Checkl30 many x0 x1 x2 x3 x4) fun t0 => sw t0 (fun z => K (.ret) ([.s (.ptr 0 0 none 0), .s (.i .i64 (z.1))]) ([.cells 29 [.arr .i8 81 (z.2.1), .arr .i8 16 (z.2.2.1), .one [.i .i8 (z.2.2.2)]]])) (fun z => K (.exit 11) ([.s (.ptr 0 0 none 0), .s .bad]) ([.cells 29 [.arr .i8 81 (z.1), .arr .i8 16 (z.2.1), .one [.i .i8 (z.2.2)]]]))
 | _, _ => none
noncomputable def board_Checklp : {R : Type} → Nat → List V → List Obj → (Ex → List V → List Obj → Option R) → Option R := fun q vs objs K => bif Nat.beq q 6 then board_Checkp6 vs objs K else bif Nat.beq q 20 then board_Checkp20 vs objs K else bif Nat.beq q 17 then board_Checkp17 vs objs K else bif Nat.beq q 30 then board_Checkp30 vs objs K else none
noncomputable def board_Checkc : Ctx := mkC 98 ((board_fileso (piece_Totalo (piece_Rawo (piece_Sideo (piece_Kindo oNil)))))) [(6, [1, 3, 4, 22, 23], [1, 2, 3, 4]), (17, [1, 3, 4, 51, 52], [1, 2, 3, 4]), (20, [1, 3, 4, 51, 52, 55, 56], [1, 2, 3, 4, 51, 52]), (30, [1, 3, 12], [1, 2])] board_Checklp
theorem board_Checkc_ok : CtxOK Tryd.prog board_Checkc := mkC_ok ((board_fileso_ok _ (piece_Totalo_ok _ (piece_Rawo_ok _ (piece_Sideo_ok _ (piece_Kindo_ok _ oNil_ok))))))
noncomputable def board_Checkl6r (f : Nat) (x0 : List Int) (x1 : Int) (x2 x3 : List Int) (x4 : Int) (x5 x6 : List Int) : Option ((Int × List Int × List Int × Int × List Int × List Int) ⊕ (List Int × List Int × Int × List Int × List Int)) := lrun board_Checkc 0 [1, 3, 4, 22, 23] [1, 2, 3, 4] (loopOf Tryd.f7 6) f ([.s (.ptr 0 0 none 0), .s (.ptr 1 0 none 0), .s (.ptr 2 0 none 0), .agg [.arr .i8 81 x0], .s (.i .i64 x1)]) ([.cells 29 [.arr .i8 81 x2, .arr .i8 16 x3, .one [.i .i8 x4]], .cells 44 [.arr .i64 9 x5], .cells 49 [.arr .i64 2 x6]]) board_Checkl6d
theorem board_Checkl6_step (f : Nat) (x0 : List Int) (x1 : Int) (x2 x3 : List Int) (x4 : Int) (x5 x6 : List Int) : board_Checkl6r (f + 1) x0 x1 x2 x3 x4 x5 x6 = board_Checkl6s (board_Checkl6r f) x0 x1 x2 x3 x4 x5 x6 := by kernel_rfl
theorem board_Checkl6_eq : ∀ f, board_Checkl6r f = board_Checkl6 f
 | 0 => rfl
 | f + 1 => by funext x0 x1 x2 x3 x4 x5 x6; rw [board_Checkl6_step, board_Checkl6_eq f]; rfl
noncomputable def board_Checkl20r (f : Nat) (x0 : List Int) (x1 : Int) (x2 : List Int) (x3 : Int) (x4 x5 : List Int) (x6 : Int) (x7 x8 : List Int) : Option ((Int × List Int × Int × List Int × List Int × Int × List Int × List Int) ⊕ (List Int × Int × List Int × List Int × Int × List Int × List Int)) := lrun board_Checkc 0 [1, 3, 4, 51, 52, 55, 56] [1, 2, 3, 4, 51, 52] (loopOf Tryd.f7 20) f ([.s (.ptr 0 0 none 0), .s (.ptr 1 0 none 0), .s (.ptr 2 0 none 0), .agg [.arr .i8 16 x0], .s (.i .i64 x1), .agg [.arr .i8 8 x2], .s (.i .i64 x3)]) ([.cells 29 [.arr .i8 81 x4, .arr .i8 16 x5, .one [.i .i8 x6]], .cells 44 [.arr .i64 9 x7], .cells 49 [.arr .i64 2 x8]]) board_Checkl20d
theorem board_Checkl20_step (f : Nat) (x0 : List Int) (x1 : Int) (x2 : List Int) (x3 : Int) (x4 x5 : List Int) (x6 : Int) (x7 x8 : List Int) : board_Checkl20r (f + 1) x0 x1 x2 x3 x4 x5 x6 x7 x8 = board_Checkl20s (board_Checkl20r f) x0 x1 x2 x3 x4 x5 x6 x7 x8 := by kernel_rfl
theorem board_Checkl20_eq : ∀ f, board_Checkl20r f = board_Checkl20 f
 | 0 => rfl
 | f + 1 => by funext x0 x1 x2 x3 x4 x5 x6 x7 x8; rw [board_Checkl20_step, board_Checkl20_eq f]; rfl
noncomputable def board_Checkl17r (f : Nat) (x0 : List Int) (x1 : Int) (x2 x3 : List Int) (x4 : Int) (x5 x6 : List Int) : Option ((Int × List Int × List Int × Int × List Int × List Int) ⊕ (List Int × List Int × Int × List Int × List Int)) := lrun board_Checkc 0 [1, 3, 4, 51, 52] [1, 2, 3, 4] (loopOf Tryd.f7 17) f ([.s (.ptr 0 0 none 0), .s (.ptr 1 0 none 0), .s (.ptr 2 0 none 0), .agg [.arr .i8 16 x0], .s (.i .i64 x1)]) ([.cells 29 [.arr .i8 81 x2, .arr .i8 16 x3, .one [.i .i8 x4]], .cells 44 [.arr .i64 9 x5], .cells 49 [.arr .i64 2 x6]]) board_Checkl17d
theorem board_Checkl17_step (f : Nat) (x0 : List Int) (x1 : Int) (x2 x3 : List Int) (x4 : Int) (x5 x6 : List Int) : board_Checkl17r (f + 1) x0 x1 x2 x3 x4 x5 x6 = board_Checkl17s (board_Checkl17r f) x0 x1 x2 x3 x4 x5 x6 := by kernel_rfl
theorem board_Checkl17_eq : ∀ f, board_Checkl17r f = board_Checkl17 f
 | 0 => rfl
 | f + 1 => by funext x0 x1 x2 x3 x4 x5 x6; rw [board_Checkl17_step, board_Checkl17_eq f]; rfl
noncomputable def board_Checkl30r (f : Nat) (x0 : Int) (x1 x2 : List Int) (x3 : Int) (x4 : List Int) : Option ((Int × List Int × List Int × Int) ⊕ (List Int × List Int × Int)) := lrun board_Checkc 0 [1, 3, 12] [1, 2] (loopOf Tryd.f7 30) f ([.s (.ptr 0 0 none 0), .s (.ptr 1 0 none 0), .s (.i .i64 x0)]) ([.cells 29 [.arr .i8 81 x1, .arr .i8 16 x2, .one [.i .i8 x3]], .cells 44 [.arr .i64 9 x4]]) board_Checkl30d
theorem board_Checkl30_step (f : Nat) (x0 : Int) (x1 x2 : List Int) (x3 : Int) (x4 : List Int) : board_Checkl30r (f + 1) x0 x1 x2 x3 x4 = board_Checkl30s (board_Checkl30r f) x0 x1 x2 x3 x4 := by kernel_rfl
theorem board_Checkl30_eq : ∀ f, board_Checkl30r f = board_Checkl30 f
 | 0 => rfl
 | f + 1 => by funext x0 x1 x2 x3 x4; rw [board_Checkl30_step, board_Checkl30_eq f]; rfl
theorem board_Checks6 : LoopSound Tryd.prog board_Checkc 0 (loopOf Tryd.f7 6) :=
 loopSound_by mixed board_Checkc_ok (AllP.of (l' := []) (by kernel_rfl) trivial) (q := 6) (kin := [1, 3, 4, 22, 23]) (kout := [1, 2, 3, 4]) (by kernel_rfl) (by kernel_rfl) fun vs objs K r h => by
  replace h : board_Checkp6 vs objs K = some r := h
  unfold board_Checkp6 at h
  split at h
  ·skip
   obtain ⟨t, h1, h2⟩ := ob_ok h
   rw [← board_Checkl6_eq] at h1
   refine ⟨_, board_Checkl6d, t, many, h1, fun e vs' objs' hd => ?_⟩
   unfold board_Checkl6d at hd
   split at hd
   ·skip
    cases hd
    exact h2
   ·skip
    cases hd
    exact h2
   ·cases hd
  ·cases h
theorem board_Checks20 : LoopSound Tryd.prog board_Checkc 0 (loopOf Tryd.f7 20) :=
 loopSound_by mixed board_Checkc_ok (AllP.of (l' := []) (by kernel_rfl) trivial) (q := 20) (kin := [1, 3, 4, 51, 52, 55, 56]) (kout := [1, 2, 3, 4, 51, 52]) (by kernel_rfl) (by kernel_rfl) fun vs objs K r h => by
  replace h : board_Checkp20 vs objs K = some r := h
  unfold board_Checkp20 at h
  split at h
  ·skip
   obtain ⟨t, h1, h2⟩ := ob_ok h
   rw [← board_Checkl20_eq] at h1
   refine ⟨_, board_Checkl20d, t, many, h1, fun e vs' objs' hd => ?_⟩
   unfold board_Checkl20d at hd
   split at hd
   ·skip
    cases hd
    exact h2
   ·skip
    cases hd
    exact h2
   ·cases hd
  ·cases h
theorem board_Checks30 : LoopSound Tryd.prog board_Checkc 0 (loopOf Tryd.f7 30) :=
 loopSound_by mixed board_Checkc_ok (AllP.of (l' := []) (by kernel_rfl) trivial) (q := 30) (kin := [1, 3, 12]) (kout := [1, 2]) (by kernel_rfl) (by kernel_rfl) fun vs objs K r h => by
  replace h : board_Checkp30 vs objs K = some r := h
  unfold board_Checkp30 at h
  split at h
  ·skip
   obtain ⟨t, h1, h2⟩ := ob_ok h
   rw [← board_Checkl30_eq] at h1
   refine ⟨_, board_Checkl30d, t, many, h1, fun e vs' objs' hd => ?_⟩
   unfold board_Checkl30d at hd
   split at hd
   ·skip
    cases hd
    exact h2
   ·skip
    cases hd
    exact h2
   ·cases hd
  ·cases h
theorem board_Checks17 : LoopSound Tryd.prog board_Checkc 0 (loopOf Tryd.f7 17) :=
 loopSound_by mixed board_Checkc_ok (AllP.of (l' := [loopOf Tryd.f7 20]) (by kernel_rfl) ⟨board_Checks20, trivial⟩) (q := 17) (kin := [1, 3, 4, 51, 52]) (kout := [1, 2, 3, 4]) (by kernel_rfl) (by kernel_rfl) fun vs objs K r h => by
  replace h : board_Checkp17 vs objs K = some r := h
  unfold board_Checkp17 at h
  split at h
  ·skip
   obtain ⟨t, h1, h2⟩ := ob_ok h
   rw [← board_Checkl17_eq] at h1
   refine ⟨_, board_Checkl17d, t, many, h1, fun e vs' objs' hd => ?_⟩
   unfold board_Checkl17d at hd
   split at hd
   ·skip
    cases hd
    exact h2
   ·skip
    cases hd
    exact h2
   ·cases hd
  ·cases h
noncomputable def board_Checkd : V → List Obj → Option (Int) := fun v objs => match v, objs with
 | .s (.i .i64 y0), [] => some (y0)
 | _, _ => none
theorem board_Check_eq (x0 x1 : List Int) (x2 : Int) : fnE board_Checkc Tryd.f7 ([.agg [.arr .i8 81 x0, .arr .i8 16 x1, .one [.i .i8 x2]]]) ([]) board_Checkd = board_Check x0 x1 x2 := by kernel_rfl
noncomputable def board_Checka {R : Type} (o : Orc) (vs : List V) (objs : List Obj) (K : Bool → V → List Obj → Option R) : Option R := match vs, objs with
 | [.agg [.arr .i8 81 x0, .arr .i8 16 x1, .one [.i .i8 x2]]], [] => ob (board_Check x0 x1 x2) fun y0 => K false (.s (.i .i64 y0)) ([])
 | _, _ => o 7 vs objs K
noncomputable def board_Checko (o : Orc) : Orc := hook 7 (board_Checka o) o
theorem board_Checko_ok (o : Orc) (ho : OSound Tryd.prog o) : OSound Tryd.prog (board_Checko o) := hook_ok ho fun vs objs K r h => by
 unfold board_Checka at h
 split at h
 ·skip
  obtain ⟨t, h1, h2⟩ := ob_ok h
  refine anyOK_of mixed board_Checkc_ok (fn := Tryd.f7) (b := (Tryd.f7).body.getD .skip) (by kernel_rfl) (by kernel_rfl) (by kernel_rfl) ((board_Check_eq _ _ _).trans h1) (m := 0) rfl (AllP.of (l' := [loopOf Tryd.f7 6, loopOf Tryd.f7 17, loopOf Tryd.f7 30]) (by kernel_rfl) ⟨board_Checks6, board_Checks17, board_Checks30, trivial⟩) fun v objs' hd => ?_
  unfold board_Checkd at hd
  split at hd
  ·skip
   cases hd
   exact h2
  ·cases hd
 ·exact ho _ _ _ _ _ h
noncomputable def law05_beginsc : Ctx := mkC 32 ((board_Checko (board_Kingo (board_Ato (set_Counto (board_Takeno (board_Newo (board_Starto oNil)))))))) [] lpNil
theorem law05_beginsc_ok : CtxOK Tryd.prog law05_beginsc := mkC_ok ((board_Checko_ok _ (board_Kingo_ok _ (board_Ato_ok _ (set_Counto_ok _ (board_Takeno_ok _ (board_Newo_ok _ (board_Starto_ok _ oNil_ok))))))))
noncomputable def law05_beginsd : V → List Obj → Option (Bool) := fun v objs => match v, objs with
 | .s (.b y0), [] => some (y0)
 | _, _ => none
theorem law05_begins_eq : fnE law05_beginsc Tryd.f4 ([]) ([]) law05_beginsd = law05_begins  := by kernel_rfl
noncomputable def law05_beginsa {R : Type} (o : Orc) (vs : List V) (objs : List Obj) (K : Bool → V → List Obj → Option R) : Option R := match vs, objs with
 | [], [] => ob (law05_begins ) fun y0 => K false (.s (.b y0)) ([])
 | _, _ => o 4 vs objs K
noncomputable def law05_beginso (o : Orc) : Orc := hook 4 (law05_beginsa o) o
theorem law05_beginso_ok (o : Orc) (ho : OSound Tryd.prog o) : OSound Tryd.prog (law05_beginso o) := hook_ok ho fun vs objs K r h => by
 unfold law05_beginsa at h
 split at h
 ·skip
  obtain ⟨t, h1, h2⟩ := ob_ok h
  refine anyOK_of mixed law05_beginsc_ok (fn := Tryd.f4) (b := (Tryd.f4).body.getD .skip) (by kernel_rfl) (by kernel_rfl) (by kernel_rfl) ((law05_begins_eq).trans h1) (m := 0) rfl (AllP.of (l' := []) (by kernel_rfl) trivial) fun v objs' hd => ?_
  unfold law05_beginsd at hd
  split at hd
  ·skip
   cases hd
   exact h2
  ·cases hd
 ·exact ho _ _ _ _ _ h
noncomputable def ref02_Lettersc : Ctx := mkC 2 (oNil) [] lpNil
theorem ref02_Lettersc_ok : CtxOK Tryd.prog ref02_Lettersc := mkC_ok (oNil_ok)
noncomputable def ref02_Lettersd : V → List Obj → Option (Nat × Nat × List (List Int)) := fun v objs => match v, objs with
 | .s (.sl 0 0 y0 true), [.sli 9 false (.rows [CK.s] y1 y2)] => some (y0, y1, y2)
 | _, _ => none
theorem ref02_Letters_eq : fnE ref02_Lettersc Tryd.f17 ([]) ([]) ref02_Lettersd = ref02_Letters  := by kernel_rfl
noncomputable def ref02_Lettersa {R : Type} (o : Orc) (vs : List V) (objs : List Obj) (K : Bool → V → List Obj → Option R) : Option R := match vs, objs with
 | [], [] => ob (ref02_Letters ) fun z => K false (.s (.sl 0 0 (z.1) true)) ([.sli 9 false (.rows [CK.s] (z.2.1) (z.2.2))])
 | _, _ => o 17 vs objs K
noncomputable def ref02_Letterso (o : Orc) : Orc := hook 17 (ref02_Lettersa o) o
theorem ref02_Letterso_ok (o : Orc) (ho : OSound Tryd.prog o) : OSound Tryd.prog (ref02_Letterso o) := hook_ok ho fun vs objs K r h => by
 unfold ref02_Lettersa at h
 split at h
 ·skip
  obtain ⟨t, h1, h2⟩ := ob_ok h
  refine anyOK_of mixed ref02_Lettersc_ok (fn := Tryd.f17) (b := (Tryd.f17).body.getD .skip) (by kernel_rfl) (by kernel_rfl) (by kernel_rfl) ((ref02_Letters_eq).trans h1) (m := 0) rfl (AllP.of (l' := []) (by kernel_rfl) trivial) fun v objs' hd => ?_
  unfold ref02_Lettersd at hd
  split at hd
  ·skip
   cases hd
   exact h2
  ·cases hd
 ·exact ho _ _ _ _ _ h
noncomputable def ref05_Startl8d : Ex → List V → List Obj → Option (ByteArray × Nat × Int × List Int × List Int × Int × List Int × List Int × Int × Nat × List (List Int)) := fun e vs objs => match e, vs, objs with
 | .exit 2, [.s (.ptr 0 0 none 0), .s (.ptr 1 0 none 0), .s (.str y0), .s (.sl 2 0 y1 true), .s (.i .i64 y2)], [.cells 29 [.arr .i8 81 y3, .arr .i8 16 y4, .one [.i .i8 y5]], .cells 29 [.arr .i8 81 y6, .arr .i8 16 y7, .one [.i .i8 y8]], .sli 9 false (.rows [CK.s] y9 y10)] => some (y0, y1, y2, y3, y4, y5, y6, y7, y8, y9, y10)
 | _, _, _ => none
noncomputable def ref05_Startl5d : Ex → List V → List Obj → Option (List Int × List Int × Int × List Int × List Int × Int) := fun e vs objs => match e, vs, objs with
 | .exit 0, [.s (.ptr 0 0 none 0), .s (.ptr 1 0 none 0)], [.cells 29 [.arr .i8 81 y0, .arr .i8 16 y1, .one [.i .i8 y2]], .cells 29 [.arr .i8 81 y3, .arr .i8 16 y4, .one [.i .i8 y5]]] => some (y0, y1, y2, y3, y4, y5)
 | _, _, _ => none
noncomputable def ref05_Startp8 {R : Type} (vs : List V) (objs : List Obj) (K : Ex → List V → List Obj → Option R) : Option R := match vs, objs with
 | [.s (.ptr 0 0 none 0), .s (.ptr 1 0 none 0), .s (.str x0), .s (.sl 2 0 x1 true), .s (.i .i64 x2), .s (.i .i64 x3)], [.cells 29 [.arr .i8 81 x4, .arr .i8 16 x5, .one [.i .i8 x6]], .cells 29 [.arr .i8 81 x7, .arr .i8 16 x8, .one [.i .i8 x9]], .sli 9 false (.rows [CK.s] x10 x11)] => ob (ref05_Startl8 many x0 x1 x2 x3 x4 x5 x6 x7 x8 x9 x10 x11) fun z => K (.exit 2) ([.s (.ptr 0 0 none 0), .s (.ptr 1 0 none 0), .s (.str (z.1)), .s (.sl 2 0 (z.2.1) true), .s (.i .i64 (z.2.2.1))]) ([.cells 29 [.arr .i8 81 (z.2.2.2.1), .arr .i8 16 (z.2.2.2.2.1), .one [.i .i8 (z.2.2.2.2.2.1)]], .cells 29 [.arr .i8 81 (z.2.2.2.2.2.2.1), .arr .i8 16 (z.2.2.2.2.2.2.2.1), .one [.i .i8 (z.2.2.2.2.2.2.2.2.1)]], .sli 9 false (.rows [CK.s] (z.2.2.2.2.2.2.2.2.2.1) (z.2.2.2.2.2.2.2.2.2.2))])
 | _, _ => none
noncomputable def ref05_Startp5 {R : Type} (vs : List V) (objs : List Obj) (K : Ex → List V → List Obj → Option R) : Option R := match vs, objs with
 | [.s (.ptr 0 0 none 0), .s (.ptr 1 0 none 0), .s (.str x0), .s (.sl 2 0 x1 true), .s (.i .i64 x2)], [.cells 29 [.arr .i8 81 x3, .arr .i8 16 x4, .one [.i .i8 x5]], .cells 29 [.arr .i8 81 x6, .arr .i8 16 x7, .one [.i .i8 x8]], .sli 9 false (.rows [CK.s] x9 x10)] => ob (ref05_Startl5 many x0 x1 x2 x3 x4 x5 x6 x7 x8 x9 x10) fun z => K (.exit 0) ([.s (.ptr 0 0 none 0), .s (.ptr 1 0 none 0)]) ([.cells 29 [.arr .i8 81 (z.1), .arr .i8 16 (z.2.1), .one [.i .i8 (z.2.2.1)]], .cells 29 [.arr .i8 81 (z.2.2.2.1), .arr .i8 16 (z.2.2.2.2.1), .one [.i .i8 (z.2.2.2.2.2)]]])
 | _, _ => none
noncomputable def ref05_Startlp : {R : Type} → Nat → List V → List Obj → (Ex → List V → List Obj → Option R) → Option R := fun q vs objs K => bif Nat.beq q 8 then ref05_Startp8 vs objs K else bif Nat.beq q 5 then ref05_Startp5 vs objs K else none
noncomputable def ref05_Startc : Ctx := mkC 59 ((ref02_Letterso oNil)) [(5, [0, 1, 2, 3, 4], [0, 1]), (8, [0, 1, 2, 3, 4, 5], [0, 1, 2, 3, 4])] ref05_Startlp
theorem ref05_Startc_ok : CtxOK Tryd.prog ref05_Startc := mkC_ok ((ref02_Letterso_ok _ oNil_ok))
noncomputable def ref05_Startl8r (f : Nat) (x0 : ByteArray) (x1 : Nat) (x2 x3 : Int) (x4 x5 : List Int) (x6 : Int) (x7 x8 : List Int) (x9 : Int) (x10 : Nat) (x11 : List (List Int)) : Option (ByteArray × Nat × Int × List Int × List Int × Int × List Int × List Int × Int × Nat × List (List Int)) := lrun ref05_Startc 0 [0, 1, 2, 3, 4, 5] [0, 1, 2, 3, 4] (loopOf Tryd.f6 8) f ([.s (.ptr 0 0 none 0), .s (.ptr 1 0 none 0), .s (.str x0), .s (.sl 2 0 x1 true), .s (.i .i64 x2), .s (.i .i64 x3)]) ([.cells 29 [.arr .i8 81 x4, .arr .i8 16 x5, .one [.i .i8 x6]], .cells 29 [.arr .i8 81 x7, .arr .i8 16 x8, .one [.i .i8 x9]], .sli 9 false (.rows [CK.s] x10 x11)]) ref05_Startl8d
theorem ref05_Startl8_step (f : Nat) (x0 : ByteArray) (x1 : Nat) (x2 x3 : Int) (x4 x5 : List Int) (x6 : Int) (x7 x8 : List Int) (x9 : Int) (x10 : Nat) (x11 : List (List Int)) : ref05_Startl8r (f + 1) x0 x1 x2 x3 x4 x5 x6 x7 x8 x9 x10 x11 = ref05_Startl8s (ref05_Startl8r f) x0 x1 x2 x3 x4 x5 x6 x7 x8 x9 x10 x11 := by kernel_rfl
theorem ref05_Startl8_eq : ∀ f, ref05_Startl8r f = ref05_Startl8 f
 | 0 => rfl
 | f + 1 => by funext x0 x1 x2 x3 x4 x5 x6 x7 x8 x9 x10 x11; rw [ref05_Startl8_step, ref05_Startl8_eq f]; rfl
noncomputable def ref05_Startl5r (f : Nat) (x0 : ByteArray) (x1 : Nat) (x2 : Int) (x3 x4 : List Int) (x5 : Int) (x6 x7 : List Int) (x8 : Int) (x9 : Nat) (x10 : List (List Int)) : Option (List Int × List Int × Int × List Int × List Int × Int) := lrun ref05_Startc 0 [0, 1, 2, 3, 4] [0, 1] (loopOf Tryd.f6 5) f ([.s (.ptr 0 0 none 0), .s (.ptr 1 0 none 0), .s (.str x0), .s (.sl 2 0 x1 true), .s (.i .i64 x2)]) ([.cells 29 [.arr .i8 81 x3, .arr .i8 16 x4, .one [.i .i8 x5]], .cells 29 [.arr .i8 81 x6, .arr .i8 16 x7, .one [.i .i8 x8]], .sli 9 false (.rows [CK.s] x9 x10)]) ref05_Startl5d
theorem ref05_Startl5_step (f : Nat) (x0 : ByteArray) (x1 : Nat) (x2 : Int) (x3 x4 : List Int) (x5 : Int) (x6 x7 : List Int) (x8 : Int) (x9 : Nat) (x10 : List (List Int)) : ref05_Startl5r (f + 1) x0 x1 x2 x3 x4 x5 x6 x7 x8 x9 x10 = ref05_Startl5s (ref05_Startl5r f) x0 x1 x2 x3 x4 x5 x6 x7 x8 x9 x10 := by kernel_rfl
theorem ref05_Startl5_eq : ∀ f, ref05_Startl5r f = ref05_Startl5 f
 | 0 => rfl
 | f + 1 => by funext x0 x1 x2 x3 x4 x5 x6 x7 x8 x9 x10; rw [ref05_Startl5_step, ref05_Startl5_eq f]; rfl
theorem ref05_Starts8 : LoopSound Tryd.prog ref05_Startc 0 (loopOf Tryd.f6 8) :=
 loopSound_by mixed ref05_Startc_ok (AllP.of (l' := []) (by kernel_rfl) trivial) (q := 8) (kin := [0, 1, 2, 3, 4, 5]) (kout := [0, 1, 2, 3, 4]) (by kernel_rfl) (by kernel_rfl) fun vs objs K r h => by
  replace h : ref05_Startp8 vs objs K = some r := h
  unfold ref05_Startp8 at h
  split at h
  ·skip
   obtain ⟨t, h1, h2⟩ := ob_ok h
   rw [← ref05_Startl8_eq] at h1
   refine ⟨_, ref05_Startl8d, t, many, h1, fun e vs' objs' hd => ?_⟩
   unfold ref05_Startl8d at hd
   split at hd
   ·skip
    cases hd
    exact h2
   ·cases hd
  ·cases h
theorem ref05_Starts5 : LoopSound Tryd.prog ref05_Startc 0 (loopOf Tryd.f6 5) :=
 loopSound_by mixed ref05_Startc_ok (AllP.of (l' := [loopOf Tryd.f6 8]) (by kernel_rfl) ⟨ref05_Starts8, trivial⟩) (q := 5) (kin := [0, 1, 2, 3, 4]) (kout := [0, 1]) (by kernel_rfl) (by kernel_rfl) fun vs objs K r h => by
  replace h : ref05_Startp5 vs objs K = some r := h
  unfold ref05_Startp5 at h
  split at h
  ·skip
   obtain ⟨t, h1, h2⟩ := ob_ok h
   rw [← ref05_Startl5_eq] at h1
   refine ⟨_, ref05_Startl5d, t, many, h1, fun e vs' objs' hd => ?_⟩
   unfold ref05_Startl5d at hd
   split at hd
   ·skip
    cases hd
    exact h2
   ·cases hd
  ·cases h
noncomputable def ref05_Startd : V → List Obj → Option (List Int × List Int × Int) := fun v objs => match v, objs with
 | .agg [.arr .i8 81 y0, .arr .i8 16 y1, .one [.i .i8 y2]], [] => some (y0, y1, y2)
 | _, _ => none
theorem ref05_Start_eq : fnE ref05_Startc Tryd.f6 ([]) ([]) ref05_Startd = ref05_Start  := by kernel_rfl
noncomputable def ref05_Starta {R : Type} (o : Orc) (vs : List V) (objs : List Obj) (K : Bool → V → List Obj → Option R) : Option R := match vs, objs with
 | [], [] => ob (ref05_Start ) fun z => K false (.agg [.arr .i8 81 (z.1), .arr .i8 16 (z.2.1), .one [.i .i8 (z.2.2)]]) ([])
 | _, _ => o 6 vs objs K
noncomputable def ref05_Starto (o : Orc) : Orc := hook 6 (ref05_Starta o) o
theorem ref05_Starto_ok (o : Orc) (ho : OSound Tryd.prog o) : OSound Tryd.prog (ref05_Starto o) := hook_ok ho fun vs objs K r h => by
 unfold ref05_Starta at h
 split at h
 ·skip
  obtain ⟨t, h1, h2⟩ := ob_ok h
  refine anyOK_of mixed ref05_Startc_ok (fn := Tryd.f6) (b := (Tryd.f6).body.getD .skip) (by kernel_rfl) (by kernel_rfl) (by kernel_rfl) ((ref05_Start_eq).trans h1) (m := 0) rfl (AllP.of (l' := [loopOf Tryd.f6 5]) (by kernel_rfl) ⟨ref05_Starts5, trivial⟩) fun v objs' hd => ?_
  unfold ref05_Startd at hd
  split at hd
  ·skip
   cases hd
   exact h2
  ·cases hd
 ·exact ho _ _ _ _ _ h
noncomputable def ref02_Kindc : Ctx := mkC 23 (oNil) [] lpNil
theorem ref02_Kindc_ok : CtxOK Tryd.prog ref02_Kindc := mkC_ok (oNil_ok)
noncomputable def ref02_Kindd : V → List Obj → Option (Int) := fun v objs => match v, objs with
 | .s (.i .i64 y0), [] => some (y0)
 | _, _ => none
theorem ref02_Kind_eq (x0 : Int) : fnE ref02_Kindc Tryd.f23 ([.s (.i .i64 x0)]) ([]) ref02_Kindd = ref02_Kind x0 := by kernel_rfl
noncomputable def ref02_Kinda {R : Type} (o : Orc) (vs : List V) (objs : List Obj) (K : Bool → V → List Obj → Option R) : Option R := match vs, objs with
 | [.s (.i .i64 x0)], [] => ob (ref02_Kind x0) fun y0 => K false (.s (.i .i64 y0)) ([])
 | _, _ => o 23 vs objs K
noncomputable def ref02_Kindo (o : Orc) : Orc := hook 23 (ref02_Kinda o) o
theorem ref02_Kindo_ok (o : Orc) (ho : OSound Tryd.prog o) : OSound Tryd.prog (ref02_Kindo o) := hook_ok ho fun vs objs K r h => by
 unfold ref02_Kinda at h
 split at h
 ·skip
  obtain ⟨t, h1, h2⟩ := ob_ok h
  refine anyOK_of mixed ref02_Kindc_ok (fn := Tryd.f23) (b := (Tryd.f23).body.getD .skip) (by kernel_rfl) (by kernel_rfl) (by kernel_rfl) ((ref02_Kind_eq _).trans h1) (m := 0) rfl (AllP.of (l' := []) (by kernel_rfl) trivial) fun v objs' hd => ?_
  unfold ref02_Kindd at hd
  split at hd
  ·skip
   cases hd
   exact h2
  ·cases hd
 ·exact ho _ _ _ _ _ h
end Go.Kk.KkBS
