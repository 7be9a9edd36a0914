/- Printed by a tool of this project (KkGen): the plain functions that the Key laws' code comes to, and the proofs that it does. -/
import Derived.Test.YtkgiegkepopcnaaProg
import Derived.Test.YtkgiegkepopcnaaKkB
namespace Go.Kk.KkKey
open Go.Proofs
def tab : Tab := [(1, .sc (.f)),
  (2, .sc (.i .i64)),
  (3, .sc (.i .i64)),
  (4, .sc (.b)),
  (5, .sc (.i .u8)),
  (6, .sc (.i .u8)),
  (7, .st [.one [.i .i64, .i .i64, .b, .i .u8]] [(0, 0, 2), (0, 1, 3), (0, 2, 4), (0, 3, 6)]),
  (8, .st [.one [.i .i64, .i .i64, .b, .i .u8]] [(0, 0, 2), (0, 1, 3), (0, 2, 4), (0, 3, 6)]),
  (9, .sc (.str)),
  (10, .sc (.str)),
  (11, .sc (.str)),
  (12, .sc (.i .u64)),
  (13, .st [.one [.str, .i .u64]] [(0, 0, 9), (0, 1, 12)]),
  (14, .st [.one [.str, .i .u64]] [(0, 0, 9), (0, 1, 12)]),
  (15, .sc (.p)),
  (16, .sc (.p)),
  (17, .sc (.p)),
  (18, .st [.one [.p]] [(0, 0, 17)]),
  (19, .st [.one [.p]] [(0, 0, 17)]),
  (21, .sc (.i .i32)),
  (22, .sc (.i .i8)),
  (23, .sc (.i .i8)),
  (24, .ar 81 1 23 (.arr .i8 81)),
  (25, .ar 8 1 22 (.arr .i8 8)),
  (26, .ar 2 8 25 (.arr .i8 16)),
  (27, .st [.arr .i8 81, .arr .i8 16, .one [.i .i8]] [(0, 0, 24), (1, 0, 26), (2, 0, 22)]),
  (28, .st [.arr .i8 81, .arr .i8 16, .one [.i .i8]] [(0, 0, 24), (1, 0, 26), (2, 0, 22)]),
  (29, .sc (.f)),
  (30, .sc (.i .u64)),
  (31, .sc (.i .u64)),
  (32, .sc (.f)),
  (33, .sc (.f)),
  (34, .sc (.f)),
  (35, .sc (.f)),
  (36, .sc (.f)),
  (37, .ar 3 1 3 (.arr .i64 3)),
  (38, .sc (.f)),
  (39, .sc (.f)),
  (40, .sc (.f)),
  (41, .sc (.f)),
  (42, .sc (.f)),
  (43, .sc (.f)),
  (44, .sc (.f)),
  (45, .sc (.f)),
  (46, .sc (.f)),
  (47, .sc (.f)),
  (48, .sc (.i .u64)),
  (49, .sc (.f)),
  (50, .st [.one [.p, .p, .p, .str]] [(0, 0, 17), (0, 1, 17), (0, 2, 17), (0, 3, 9)]),
  (51, .st [.one [.p, .p, .p, .str]] [(0, 0, 17), (0, 1, 17), (0, 2, 17), (0, 3, 9)]),
  (55, .sc (.f)),
  (56, .sc (.i .u32)),
  (57, .sc (.i .u8)),
  (58, .sc (.i .u8)),
  (59, .sc (.f)),
  (60, .sc (.p)),
  (61, .sc (.i .i32)),
  (62, .sc (.i .i32)),
  (63, .st [.one [.i .u64, .i .u64, .i .u32, .i .u8, .i .u8, .i .u8, .i .u8, .f, .p, .i .i32, .i .i32]] [(0, 0, 12), (0, 1, 12), (0, 2, 56), (0, 3, 57), (0, 4, 5), (0, 5, 5), (0, 6, 58), (0, 7, 59), (0, 8, 60), (0, 9, 61), (0, 10, 62)]),
  (64, .st [.one [.i .u64, .i .u64, .i .u32, .i .u8, .i .u8, .i .u8, .i .u8, .f, .p, .i .i32, .i .i32]] [(0, 0, 12), (0, 1, 12), (0, 2, 56), (0, 3, 57), (0, 4, 5), (0, 5, 5), (0, 6, 58), (0, 7, 59), (0, 8, 60), (0, 9, 61), (0, 10, 62)])]

def eqs : List TypeId := [24, 26, 28, 37]
theorem mixed : Try.prog.follows .mixedOrders = true := by kernel_rfl
theorem tab_ok : ∀ t L, Tab.get tab t = some L → LayOK Try.prog tab t L := tabB_ok (P := Try.prog) (tab := tab) (l := tab) (by kernel_rfl)
theorem eqs_ok : ∀ t L, memT t eqs = true → Tab.get tab t = some L → ∃ f ck, f ≤ 10000 ∧ tyCK Try.prog f t = some ck ∧ cksOf L.segTs = some ck ∧ Try.prog.eqGuardType Try.prog.depth t = false := eqsB_ok (P := Try.prog) (tab := tab) (l := eqs) (by kernel_rfl)

def k17lp : {R : Type} → Nat → List V → List Obj → (Ex → List V → List Obj → Option R) → Option R := fun _ _ _ _ => none

def k17oo : Orc := oNil

theorem k17oo_ok : OSound Try.prog k17oo := oNil_ok

def k17c : Ctx := { tab := tab, eqs := eqs, bytes := [], nt := 28, orc := k17oo, keeps := [], lp := k17lp }

theorem k17c_ok : CtxOK Try.prog k17c := ⟨tab_ok, k17oo_ok, eqs_ok⟩

def k17 (x0 : Int) : Option (Int) :=
  br (decide (x0 ≤ 0))
   (br (x0 == 8)
    (some (8))
    (br (x0 == 24)
     (some (8))
     (some (0))))
   (br (decide (x0 > 31))
    (br (x0 == 8)
     (some (8))
     (br (x0 == 24)
      (some (8))
      (some (0))))
    (br (Go.Kk.bitop Go.BinOp.and Go.IntKind.i64 x0 15 == 0)
     (br (x0 == 8)
      (some (8))
      (br (x0 == 24)
       (some (8))
       (some (0))))
     (br (Go.Kk.bitop Go.BinOp.and Go.IntKind.i64 x0 15 == 13)
      (br (x0 == 8)
       (some (8))
       (br (x0 == 24)
        (some (8))
        (some (0))))
      (some (Go.Kk.bitop Go.BinOp.and Go.IntKind.i64 x0 15)))))

def k17d : V → List Obj → Option (Int) := fun v objs => match v, objs with
  | Go.Kk.V.s (Go.Kk.S.i Go.IntKind.i64 y0), [] => some (y0)
  | _, _ => none

theorem k17_eq (x0 : Int) : fnE k17c Try.f17 ([Go.Kk.V.s (Go.Kk.S.i Go.IntKind.i8 x0)]) ([]) k17d = k17 x0 := by kernel_rfl

def k17a {R : Type} (o : Orc) (vs : List V) (objs : List Obj) (K : V → List Obj → Option R) : Option R := match vs, objs with
  | [Go.Kk.V.s (Go.Kk.S.i Go.IntKind.i8 x0)], [] => ob (k17 x0) fun y0 => K (Go.Kk.V.s (Go.Kk.S.i Go.IntKind.i64 y0)) ([])
  | _, _ => o 17 vs objs K

def k17o (o : Orc) : Orc := fun f vs objs K => bif Nat.beq f 17 then k17a o vs objs K else o f vs objs K

theorem k17_ok {vs : List V} {objs : List Obj} (x0 : Int) {R : Type} {K : V → List Obj → Option R} {r : R} (hv : vs = [Go.Kk.V.s (Go.Kk.S.i Go.IntKind.i8 x0)]) (ho : objs = []) (h : ob (k17 x0) (fun y0 => K (Go.Kk.V.s (Go.Kk.S.i Go.IntKind.i64 y0)) ([])) = some r) :
    ∃ v objs', K v objs' = some r ∧ CallOK Try.prog 17 vs objs v objs' := by
  subst hv
  subst ho
  obtain ⟨t, h1, h2⟩ := ob_ok h
  refine oneOK_by mixed k17c_ok (objs := []) (fn := Try.f17) (b := (Try.f17).body.getD .skip) (by kernel_rfl) (by kernel_rfl) (by kernel_rfl) (AllP.of (l' := []) (by kernel_rfl) trivial) ((k17_eq x0).trans h1) fun v objs' hd => ?_
  unfold k17d at hd
  split at hd <;> cases hd <;> exact h2

theorem k17o_ok (o : Orc) (ho : OSound Try.prog o) : OSound Try.prog (k17o o) := by
  intro R f vs objs K r h
  replace h : (bif Nat.beq f 17 then k17a o vs objs K else o f vs objs K) = some r := h
  cases hf : Nat.beq f 17 with
  | false => rw [hf] at h; exact ho f vs objs K r h
  | true =>
    rw [hf] at h
    have e := Nat.eq_of_beq_eq_true hf
    subst e
    replace h : k17a o vs objs K = some r := h
    unfold k17a at h
    split at h
    · exact k17_ok _ rfl rfl h
    · exact ho _ _ _ _ _ h

def k18lp : {R : Type} → Nat → List V → List Obj → (Ex → List V → List Obj → Option R) → Option R := fun _ _ _ _ => none

def k18oo : Orc := oNil

theorem k18oo_ok : OSound Try.prog k18oo := oNil_ok

def k18c : Ctx := { tab := tab, eqs := eqs, bytes := [], nt := 19, orc := k18oo, keeps := [], lp := k18lp }

theorem k18c_ok : CtxOK Try.prog k18c := ⟨tab_ok, k18oo_ok, eqs_ok⟩

def k18 (x0 : Int) : Option (Int) :=
  some (Go.Kk.bitop Go.BinOp.xor Go.IntKind.u64
  (Go.IntKind.wrap Go.IntKind.u64
    (Go.Kk.bitop Go.BinOp.xor Go.IntKind.u64
        (Go.IntKind.wrap Go.IntKind.u64
          (Go.Kk.bitop Go.BinOp.xor Go.IntKind.u64 (Go.IntKind.wrap Go.IntKind.u64 (x0 + 11400714819323198485))
              (Int.fdiv (Go.IntKind.wrap Go.IntKind.u64 (x0 + 11400714819323198485)) 1073741824) *
            13787848793156543929))
        (Int.fdiv
          (Go.IntKind.wrap Go.IntKind.u64
            (Go.Kk.bitop Go.BinOp.xor Go.IntKind.u64 (Go.IntKind.wrap Go.IntKind.u64 (x0 + 11400714819323198485))
                (Int.fdiv (Go.IntKind.wrap Go.IntKind.u64 (x0 + 11400714819323198485)) 1073741824) *
              13787848793156543929))
          134217728) *
      10723151780598845931))
  (Int.fdiv
    (Go.IntKind.wrap Go.IntKind.u64
      (Go.Kk.bitop Go.BinOp.xor Go.IntKind.u64
          (Go.IntKind.wrap Go.IntKind.u64
            (Go.Kk.bitop Go.BinOp.xor Go.IntKind.u64 (Go.IntKind.wrap Go.IntKind.u64 (x0 + 11400714819323198485))
                (Int.fdiv (Go.IntKind.wrap Go.IntKind.u64 (x0 + 11400714819323198485)) 1073741824) *
              13787848793156543929))
          (Int.fdiv
            (Go.IntKind.wrap Go.IntKind.u64
              (Go.Kk.bitop Go.BinOp.xor Go.IntKind.u64 (Go.IntKind.wrap Go.IntKind.u64 (x0 + 11400714819323198485))
                  (Int.fdiv (Go.IntKind.wrap Go.IntKind.u64 (x0 + 11400714819323198485)) 1073741824) *
                13787848793156543929))
            134217728) *
        10723151780598845931))
    2147483648))

def k18d : V → List Obj → Option (Int) := fun v objs => match v, objs with
  | Go.Kk.V.s (Go.Kk.S.i Go.IntKind.u64 y0), [] => some (y0)
  | _, _ => none

theorem k18_eq (x0 : Int) : fnE k18c Try.f18 ([Go.Kk.V.s (Go.Kk.S.i Go.IntKind.u64 x0)]) ([]) k18d = k18 x0 := by kernel_rfl

def k18a {R : Type} (o : Orc) (vs : List V) (objs : List Obj) (K : V → List Obj → Option R) : Option R := match vs, objs with
  | [Go.Kk.V.s (Go.Kk.S.i Go.IntKind.u64 x0)], [] => ob (k18 x0) fun y0 => K (Go.Kk.V.s (Go.Kk.S.i Go.IntKind.u64 y0)) ([])
  | _, _ => o 18 vs objs K

def k18o (o : Orc) : Orc := fun f vs objs K => bif Nat.beq f 18 then k18a o vs objs K else o f vs objs K

theorem k18_ok {vs : List V} {objs : List Obj} (x0 : Int) {R : Type} {K : V → List Obj → Option R} {r : R} (hv : vs = [Go.Kk.V.s (Go.Kk.S.i Go.IntKind.u64 x0)]) (ho : objs = []) (h : ob (k18 x0) (fun y0 => K (Go.Kk.V.s (Go.Kk.S.i Go.IntKind.u64 y0)) ([])) = some r) :
    ∃ v objs', K v objs' = some r ∧ CallOK Try.prog 18 vs objs v objs' := by
  subst hv
  subst ho
  obtain ⟨t, h1, h2⟩ := ob_ok h
  refine oneOK_by mixed k18c_ok (objs := []) (fn := Try.f18) (b := (Try.f18).body.getD .skip) (by kernel_rfl) (by kernel_rfl) (by kernel_rfl) (AllP.of (l' := []) (by kernel_rfl) trivial) ((k18_eq x0).trans h1) fun v objs' hd => ?_
  unfold k18d at hd
  split at hd <;> cases hd <;> exact h2

theorem k18o_ok (o : Orc) (ho : OSound Try.prog o) : OSound Try.prog (k18o o) := by
  intro R f vs objs K r h
  replace h : (bif Nat.beq f 18 then k18a o vs objs K else o f vs objs K) = some r := h
  cases hf : Nat.beq f 18 with
  | false => rw [hf] at h; exact ho f vs objs K r h
  | true =>
    rw [hf] at h
    have e := Nat.eq_of_beq_eq_true hf
    subst e
    replace h : k18a o vs objs K = some r := h
    unfold k18a at h
    split at h
    · exact k18_ok _ rfl rfl h
    · exact ho _ _ _ _ _ h

def k10lp : {R : Type} → Nat → List V → List Obj → (Ex → List V → List Obj → Option R) → Option R := fun _ _ _ _ => none

def k10oo : Orc := (k18o (k17o oNil))

theorem k10oo_ok : OSound Try.prog k10oo := (k18o_ok _ (k17o_ok _ oNil_ok))

def k10c : Ctx := { tab := tab, eqs := eqs, bytes := [], nt := 23, orc := k10oo, keeps := [], lp := k10lp }

theorem k10c_ok : CtxOK Try.prog k10c := ⟨tab_ok, k10oo_ok, eqs_ok⟩

def k10 (x0 : Int) (x1 : Int) : Option (Int) :=
  ob (k17 x1) fun r5 =>
  br (r5 == 0)
   (some (0))
   (br (decide (x0 < 0))
    (some (0))
    (br (decide (x0 ≥ 81))
     (some (0))
     (ob (k18 (Go.IntKind.wrap Go.IntKind.u64
  (Go.IntKind.wrap Go.IntKind.u64 (Go.Kk.conv Go.IntKind.i64 Go.IntKind.u64 x0 * 32) +
    Go.Kk.conv Go.IntKind.i8 Go.IntKind.u64 x1))) fun r6 =>
     some (r6))))

def k10d : V → List Obj → Option (Int) := fun v objs => match v, objs with
  | Go.Kk.V.s (Go.Kk.S.i Go.IntKind.u64 y0), [] => some (y0)
  | _, _ => none

theorem k10_eq (x0 : Int) (x1 : Int) : fnE k10c Try.f10 ([Go.Kk.V.s (Go.Kk.S.i Go.IntKind.i64 x0), Go.Kk.V.s (Go.Kk.S.i Go.IntKind.i8 x1)]) ([]) k10d = k10 x0 x1 := by kernel_rfl

def k10a {R : Type} (o : Orc) (vs : List V) (objs : List Obj) (K : V → List Obj → Option R) : Option R := match vs, objs with
  | [Go.Kk.V.s (Go.Kk.S.i Go.IntKind.i64 x0), Go.Kk.V.s (Go.Kk.S.i Go.IntKind.i8 x1)], [] => ob (k10 x0 x1) fun y0 => K (Go.Kk.V.s (Go.Kk.S.i Go.IntKind.u64 y0)) ([])
  | _, _ => o 10 vs objs K

def k10o (o : Orc) : Orc := fun f vs objs K => bif Nat.beq f 10 then k10a o vs objs K else o f vs objs K

theorem k10_ok {vs : List V} {objs : List Obj} (x0 : Int) (x1 : Int) {R : Type} {K : V → List Obj → Option R} {r : R} (hv : vs = [Go.Kk.V.s (Go.Kk.S.i Go.IntKind.i64 x0), Go.Kk.V.s (Go.Kk.S.i Go.IntKind.i8 x1)]) (ho : objs = []) (h : ob (k10 x0 x1) (fun y0 => K (Go.Kk.V.s (Go.Kk.S.i Go.IntKind.u64 y0)) ([])) = some r) :
    ∃ v objs', K v objs' = some r ∧ CallOK Try.prog 10 vs objs v objs' := by
  subst hv
  subst ho
  obtain ⟨t, h1, h2⟩ := ob_ok h
  refine oneOK_by mixed k10c_ok (objs := []) (fn := Try.f10) (b := (Try.f10).body.getD .skip) (by kernel_rfl) (by kernel_rfl) (by kernel_rfl) (AllP.of (l' := []) (by kernel_rfl) trivial) ((k10_eq x0 x1).trans h1) fun v objs' hd => ?_
  unfold k10d at hd
  split at hd <;> cases hd <;> exact h2

theorem k10o_ok (o : Orc) (ho : OSound Try.prog o) : OSound Try.prog (k10o o) := by
  intro R f vs objs K r h
  replace h : (bif Nat.beq f 10 then k10a o vs objs K else o f vs objs K) = some r := h
  cases hf : Nat.beq f 10 with
  | false => rw [hf] at h; exact ho f vs objs K r h
  | true =>
    rw [hf] at h
    have e := Nat.eq_of_beq_eq_true hf
    subst e
    replace h : k10a o vs objs K = some r := h
    unfold k10a at h
    split at h
    · exact k10_ok _ _ rfl rfl h
    · exact ho _ _ _ _ _ h

def k12lp : {R : Type} → Nat → List V → List Obj → (Ex → List V → List Obj → Option R) → Option R := fun _ _ _ _ => none

def k12oo : Orc := (k18o oNil)

theorem k12oo_ok : OSound Try.prog k12oo := (k18o_ok _ oNil_ok)

def k12c : Ctx := { tab := tab, eqs := eqs, bytes := [], nt := 2, orc := k12oo, keeps := [], lp := k12lp }

theorem k12c_ok : CtxOK Try.prog k12c := ⟨tab_ok, k12oo_ok, eqs_ok⟩

def k12 : Option (Int) :=
  ob (k18 1048576) fun r4 =>
  some (r4)

def k12d : V → List Obj → Option (Int) := fun v objs => match v, objs with
  | Go.Kk.V.s (Go.Kk.S.i Go.IntKind.u64 y0), [] => some (y0)
  | _, _ => none

theorem k12_eq : fnE k12c Try.f12 ([]) ([]) k12d = k12  := by kernel_rfl

def k12a {R : Type} (o : Orc) (vs : List V) (objs : List Obj) (K : V → List Obj → Option R) : Option R := match vs, objs with
  | [], [] => ob (k12 ) fun y0 => K (Go.Kk.V.s (Go.Kk.S.i Go.IntKind.u64 y0)) ([])
  | _, _ => o 12 vs objs K

def k12o (o : Orc) : Orc := fun f vs objs K => bif Nat.beq f 12 then k12a o vs objs K else o f vs objs K

theorem k12_ok {vs : List V} {objs : List Obj} {R : Type} {K : V → List Obj → Option R} {r : R} (hv : vs = []) (ho : objs = []) (h : ob (k12 ) (fun y0 => K (Go.Kk.V.s (Go.Kk.S.i Go.IntKind.u64 y0)) ([])) = some r) :
    ∃ v objs', K v objs' = some r ∧ CallOK Try.prog 12 vs objs v objs' := by
  subst hv
  subst ho
  obtain ⟨t, h1, h2⟩ := ob_ok h
  refine oneOK_by mixed k12c_ok (objs := []) (fn := Try.f12) (b := (Try.f12).body.getD .skip) (by kernel_rfl) (by kernel_rfl) (by kernel_rfl) (AllP.of (l' := []) (by kernel_rfl) trivial) ((k12_eq ).trans h1) fun v objs' hd => ?_
  unfold k12d at hd
  split at hd <;> cases hd <;> exact h2

theorem k12o_ok (o : Orc) (ho : OSound Try.prog o) : OSound Try.prog (k12o o) := by
  intro R f vs objs K r h
  replace h : (bif Nat.beq f 12 then k12a o vs objs K else o f vs objs K) = some r := h
  cases hf : Nat.beq f 12 with
  | false => rw [hf] at h; exact ho f vs objs K r h
  | true =>
    rw [hf] at h
    have e := Nat.eq_of_beq_eq_true hf
    subst e
    replace h : k12a o vs objs K = some r := h
    unfold k12a at h
    split at h
    · exact k12_ok rfl rfl h
    · exact ho _ _ _ _ _ h

def k11lp : {R : Type} → Nat → List V → List Obj → (Ex → List V → List Obj → Option R) → Option R := fun _ _ _ _ => none

def k11oo : Orc := (k18o oNil)

theorem k11oo_ok : OSound Try.prog k11oo := (k18o_ok _ oNil_ok)

def k11c : Ctx := { tab := tab, eqs := eqs, bytes := [], nt := 41, orc := k11oo, keeps := [], lp := k11lp }

theorem k11c_ok : CtxOK Try.prog k11c := ⟨tab_ok, k11oo_ok, eqs_ok⟩

def k11 (x0 : Int) (x1 : Int) (x2 : Int) : Option (Int) :=
  br (x0 != 0)
   (br (x0 != 1)
    (some (0))
    (br (decide (x1 < 1))
     (some (0))
     (br (decide (x1 ≥ 8))
      (some (0))
      (br (decide (x2 ≤ 0))
       (some (0))
       (br (decide (x2 > 18))
        (some (0))
        (ob (k18 (Go.IntKind.wrap Go.IntKind.u64
  (Go.IntKind.wrap Go.IntKind.u64
      (Go.IntKind.wrap Go.IntKind.u64
          (65536 + Go.IntKind.wrap Go.IntKind.u64 (Go.Kk.conv Go.IntKind.i64 Go.IntKind.u64 x0 * 1024)) +
        Go.IntKind.wrap Go.IntKind.u64 (Go.Kk.conv Go.IntKind.i64 Go.IntKind.u64 x1 * 32)) +
    Go.Kk.conv Go.IntKind.i64 Go.IntKind.u64 x2))) fun r27 =>
        some (r27)))))))
   (br (decide (x1 < 1))
    (some (0))
    (br (decide (x1 ≥ 8))
     (some (0))
     (br (decide (x2 ≤ 0))
      (some (0))
      (br (decide (x2 > 18))
       (some (0))
       (ob (k18 (Go.IntKind.wrap Go.IntKind.u64
  (Go.IntKind.wrap Go.IntKind.u64
      (Go.IntKind.wrap Go.IntKind.u64
          (65536 + Go.IntKind.wrap Go.IntKind.u64 (Go.Kk.conv Go.IntKind.i64 Go.IntKind.u64 x0 * 1024)) +
        Go.IntKind.wrap Go.IntKind.u64 (Go.Kk.conv Go.IntKind.i64 Go.IntKind.u64 x1 * 32)) +
    Go.Kk.conv Go.IntKind.i64 Go.IntKind.u64 x2))) fun r27 =>
       some (r27))))))

def k11d : V → List Obj → Option (Int) := fun v objs => match v, objs with
  | Go.Kk.V.s (Go.Kk.S.i Go.IntKind.u64 y0), [] => some (y0)
  | _, _ => none

theorem k11_eq (x0 : Int) (x1 : Int) (x2 : Int) : fnE k11c Try.f11 ([Go.Kk.V.s (Go.Kk.S.i Go.IntKind.i64 x0), Go.Kk.V.s (Go.Kk.S.i Go.IntKind.i64 x1),
  Go.Kk.V.s (Go.Kk.S.i Go.IntKind.i64 x2)]) ([]) k11d = k11 x0 x1 x2 := by kernel_rfl

def k11a {R : Type} (o : Orc) (vs : List V) (objs : List Obj) (K : V → List Obj → Option R) : Option R := match vs, objs with
  | [Go.Kk.V.s (Go.Kk.S.i Go.IntKind.i64 x0), Go.Kk.V.s (Go.Kk.S.i Go.IntKind.i64 x1),
  Go.Kk.V.s (Go.Kk.S.i Go.IntKind.i64 x2)], [] => ob (k11 x0 x1 x2) fun y0 => K (Go.Kk.V.s (Go.Kk.S.i Go.IntKind.u64 y0)) ([])
  | _, _ => o 11 vs objs K

def k11o (o : Orc) : Orc := fun f vs objs K => bif Nat.beq f 11 then k11a o vs objs K else o f vs objs K

theorem k11_ok {vs : List V} {objs : List Obj} (x0 : Int) (x1 : Int) (x2 : Int) {R : Type} {K : V → List Obj → Option R} {r : R} (hv : vs = [Go.Kk.V.s (Go.Kk.S.i Go.IntKind.i64 x0), Go.Kk.V.s (Go.Kk.S.i Go.IntKind.i64 x1),
  Go.Kk.V.s (Go.Kk.S.i Go.IntKind.i64 x2)]) (ho : objs = []) (h : ob (k11 x0 x1 x2) (fun y0 => K (Go.Kk.V.s (Go.Kk.S.i Go.IntKind.u64 y0)) ([])) = some r) :
    ∃ v objs', K v objs' = some r ∧ CallOK Try.prog 11 vs objs v objs' := by
  subst hv
  subst ho
  obtain ⟨t, h1, h2⟩ := ob_ok h
  refine oneOK_by mixed k11c_ok (objs := []) (fn := Try.f11) (b := (Try.f11).body.getD .skip) (by kernel_rfl) (by kernel_rfl) (by kernel_rfl) (AllP.of (l' := []) (by kernel_rfl) trivial) ((k11_eq x0 x1 x2).trans h1) fun v objs' hd => ?_
  unfold k11d at hd
  split at hd <;> cases hd <;> exact h2

theorem k11o_ok (o : Orc) (ho : OSound Try.prog o) : OSound Try.prog (k11o o) := by
  intro R f vs objs K r h
  replace h : (bif Nat.beq f 11 then k11a o vs objs K else o f vs objs K) = some r := h
  cases hf : Nat.beq f 11 with
  | false => rw [hf] at h; exact ho f vs objs K r h
  | true =>
    rw [hf] at h
    have e := Nat.eq_of_beq_eq_true hf
    subst e
    replace h : k11a o vs objs K = some r := h
    unfold k11a at h
    split at h
    · exact k11_ok _ _ _ rfl rfl h
    · exact ho _ _ _ _ _ h

def k13l3s (rec : Int → List Int → Int → List Int → List Int → Int → Option (Int × List Int × List Int × Int)) (x0 : Int) (x1 : List Int) (x2 : Int) (x3 : List Int) (x4 : List Int) (x5 : Int) : Option (Int × List Int × List Int × Int) :=
  br (decide (x2 < 81))
   (br (Go.Kk.inB x2 81)
    (ob (k10 x2 (List.getD x1 (bif true then Int.toNat x2 else Int.toNat x2 * 1) 0)) fun r14 =>
    rec (Go.Kk.bitop Go.BinOp.xor Go.IntKind.u64 x0 r14) x1 (Go.IntKind.wrap Go.IntKind.i64 (x2 + 1)) x3 x4 x5)
    (none))
   (some (x0, x3, x4, x5))

def k13l3 : Nat → Int → List Int → Int → List Int → List Int → Int → Option (Int × List Int × List Int × Int)
  | 0, _, _, _, _, _, _ => none
  | f + 1, x0, x1, x2, x3, x4, x5 => k13l3s (k13l3 f) x0 x1 x2 x3 x4 x5

def k13l3d : Ex → List V → List Obj → Option (Int × List Int × List Int × Int) := fun e vs objs => match e, vs, objs with
  | Go.Kk.Ex.exit 0, [Go.Kk.V.s (Go.Kk.S.ptr 0 0 none 0), Go.Kk.V.s (Go.Kk.S.i Go.IntKind.u64 y0)], [Go.Kk.Obj.cells 28
    [Go.Kk.Seg.arr Go.IntKind.i8 81 y1, Go.Kk.Seg.arr Go.IntKind.i8 16 y2, Go.Kk.Seg.one [Go.Kk.S.i Go.IntKind.i8 y3]]] => some (y0, y1, y2, y3)
  | _, _, _ => none

def k13l11s (rec : Int → Int → List Int → Int → List Int → Int → List Int → List Int → Int → Option (Int × List Int × Int × List Int × List Int × Int)) (x0 : Int) (x1 : Int) (x2 : List Int) (x3 : Int) (x4 : List Int) (x5 : Int) (x6 : List Int) (x7 : List Int) (x8 : Int) : Option (Int × List Int × Int × List Int × List Int × Int) :=
  br (decide (x5 < 8))
   (br (Go.Kk.inB x5 8)
    (ob (k11 x1 x5 (Go.Kk.conv Go.IntKind.i8 Go.IntKind.i64 (List.getD x4 (bif true then Int.toNat x5 else Int.toNat x5 * 1) 0))) fun r24 =>
    rec (Go.Kk.bitop Go.BinOp.xor Go.IntKind.u64 x0 r24) x1 x2 x3 x4 (Go.IntKind.wrap Go.IntKind.i64 (x5 + 1)) x6 x7 x8)
    (none))
   (some (x0, x2, x3, x6, x7, x8))

def k13l11 : Nat → Int → Int → List Int → Int → List Int → Int → List Int → List Int → Int → Option (Int × List Int × Int × List Int × List Int × Int)
  | 0, _, _, _, _, _, _, _, _, _ => none
  | f + 1, x0, x1, x2, x3, x4, x5, x6, x7, x8 => k13l11s (k13l11 f) x0 x1 x2 x3 x4 x5 x6 x7 x8

def k13l11d : Ex → List V → List Obj → Option (Int × List Int × Int × List Int × List Int × Int) := fun e vs objs => match e, vs, objs with
  | Go.Kk.Ex.exit 4, [Go.Kk.V.s (Go.Kk.S.ptr 0 0 none 0), Go.Kk.V.s (Go.Kk.S.i Go.IntKind.u64 y0),
  Go.Kk.V.agg [Go.Kk.Seg.arr Go.IntKind.i8 16 y1], Go.Kk.V.s (Go.Kk.S.i Go.IntKind.i64 y2)], [Go.Kk.Obj.cells 28
    [Go.Kk.Seg.arr Go.IntKind.i8 81 y3, Go.Kk.Seg.arr Go.IntKind.i8 16 y4, Go.Kk.Seg.one [Go.Kk.S.i Go.IntKind.i8 y5]]] => some (y0, y1, y2, y3, y4, y5)
  | _, _, _ => none

def k13l8s (rec : Int → List Int → Int → List Int → List Int → Int → Option (Int × List Int × List Int × Int)) (x0 : Int) (x1 : List Int) (x2 : Int) (x3 : List Int) (x4 : List Int) (x5 : Int) : Option (Int × List Int × List Int × Int) :=
  br (decide (x2 < 2))
   (br (Go.Kk.inB x2 2)
    (ob (k13l11 many x0 x2 x1 x2 (List.take 8 (List.drop (Nat.add (Nat.mul (Int.toNat x2) 7) (Int.toNat x2)) x1)) 0 x3 x4 x5) fun r15 =>
    rec (Prod.fst r15) (Prod.fst (Prod.snd r15)) (Go.IntKind.wrap Go.IntKind.i64 (Prod.fst (Prod.snd (Prod.snd r15)) + 1)) (Prod.fst (Prod.snd (Prod.snd (Prod.snd r15)))) (Prod.fst (Prod.snd (Prod.snd (Prod.snd (Prod.snd r15))))) (Prod.snd (Prod.snd (Prod.snd (Prod.snd (Prod.snd r15))))))
    (none))
   (some (x0, x3, x4, x5))

def k13l8 : Nat → Int → List Int → Int → List Int → List Int → Int → Option (Int × List Int × List Int × Int)
  | 0, _, _, _, _, _, _ => none
  | f + 1, x0, x1, x2, x3, x4, x5 => k13l8s (k13l8 f) x0 x1 x2 x3 x4 x5

def k13l8d : Ex → List V → List Obj → Option (Int × List Int × List Int × Int) := fun e vs objs => match e, vs, objs with
  | Go.Kk.Ex.exit 2, [Go.Kk.V.s (Go.Kk.S.ptr 0 0 none 0), Go.Kk.V.s (Go.Kk.S.i Go.IntKind.u64 y0)], [Go.Kk.Obj.cells 28
    [Go.Kk.Seg.arr Go.IntKind.i8 81 y1, Go.Kk.Seg.arr Go.IntKind.i8 16 y2, Go.Kk.Seg.one [Go.Kk.S.i Go.IntKind.i8 y3]]] => some (y0, y1, y2, y3)
  | _, _, _ => none

def k13p3 {R : Type} (vs : List V) (objs : List Obj) (K : Ex → List V → List Obj → Option R) : Option R := match vs, objs with
  | [Go.Kk.V.s (Go.Kk.S.ptr 0 0 none 0), Go.Kk.V.s (Go.Kk.S.i Go.IntKind.u64 x0),
  Go.Kk.V.agg [Go.Kk.Seg.arr Go.IntKind.i8 81 x1], Go.Kk.V.s (Go.Kk.S.i Go.IntKind.i64 x2)], [Go.Kk.Obj.cells 28
    [Go.Kk.Seg.arr Go.IntKind.i8 81 x3, Go.Kk.Seg.arr Go.IntKind.i8 16 x4, Go.Kk.Seg.one [Go.Kk.S.i Go.IntKind.i8 x5]]] => ob (k13l3 many x0 x1 x2 x3 x4 x5) fun z => K (Go.Kk.Ex.exit 0) ([Go.Kk.V.s (Go.Kk.S.ptr 0 0 none 0), Go.Kk.V.s (Go.Kk.S.i Go.IntKind.u64 (z.1))]) ([Go.Kk.Obj.cells 28
    [Go.Kk.Seg.arr Go.IntKind.i8 81 (z.2.1), Go.Kk.Seg.arr Go.IntKind.i8 16 (z.2.2.1), Go.Kk.Seg.one [Go.Kk.S.i Go.IntKind.i8 (z.2.2.2)]]])
  | _, _ => none

def k13p11 {R : Type} (vs : List V) (objs : List Obj) (K : Ex → List V → List Obj → Option R) : Option R := match vs, objs with
  | [Go.Kk.V.s (Go.Kk.S.ptr 0 0 none 0), Go.Kk.V.s (Go.Kk.S.i Go.IntKind.u64 x0), Go.Kk.V.s (Go.Kk.S.i Go.IntKind.i64 x1),
  Go.Kk.V.agg [Go.Kk.Seg.arr Go.IntKind.i8 16 x2], Go.Kk.V.s (Go.Kk.S.i Go.IntKind.i64 x3),
  Go.Kk.V.agg [Go.Kk.Seg.arr Go.IntKind.i8 8 x4], Go.Kk.V.s (Go.Kk.S.i Go.IntKind.i64 x5)], [Go.Kk.Obj.cells 28
    [Go.Kk.Seg.arr Go.IntKind.i8 81 x6, Go.Kk.Seg.arr Go.IntKind.i8 16 x7, Go.Kk.Seg.one [Go.Kk.S.i Go.IntKind.i8 x8]]] => ob (k13l11 many x0 x1 x2 x3 x4 x5 x6 x7 x8) fun z => K (Go.Kk.Ex.exit 4) ([Go.Kk.V.s (Go.Kk.S.ptr 0 0 none 0), Go.Kk.V.s (Go.Kk.S.i Go.IntKind.u64 (z.1)),
  Go.Kk.V.agg [Go.Kk.Seg.arr Go.IntKind.i8 16 (z.2.1)], Go.Kk.V.s (Go.Kk.S.i Go.IntKind.i64 (z.2.2.1))]) ([Go.Kk.Obj.cells 28
    [Go.Kk.Seg.arr Go.IntKind.i8 81 (z.2.2.2.1), Go.Kk.Seg.arr Go.IntKind.i8 16 (z.2.2.2.2.1), Go.Kk.Seg.one [Go.Kk.S.i Go.IntKind.i8 (z.2.2.2.2.2)]]])
  | _, _ => none

def k13p8 {R : Type} (vs : List V) (objs : List Obj) (K : Ex → List V → List Obj → Option R) : Option R := match vs, objs with
  | [Go.Kk.V.s (Go.Kk.S.ptr 0 0 none 0), Go.Kk.V.s (Go.Kk.S.i Go.IntKind.u64 x0),
  Go.Kk.V.agg [Go.Kk.Seg.arr Go.IntKind.i8 16 x1], Go.Kk.V.s (Go.Kk.S.i Go.IntKind.i64 x2)], [Go.Kk.Obj.cells 28
    [Go.Kk.Seg.arr Go.IntKind.i8 81 x3, Go.Kk.Seg.arr Go.IntKind.i8 16 x4, Go.Kk.Seg.one [Go.Kk.S.i Go.IntKind.i8 x5]]] => ob (k13l8 many x0 x1 x2 x3 x4 x5) fun z => K (Go.Kk.Ex.exit 2) ([Go.Kk.V.s (Go.Kk.S.ptr 0 0 none 0), Go.Kk.V.s (Go.Kk.S.i Go.IntKind.u64 (z.1))]) ([Go.Kk.Obj.cells 28
    [Go.Kk.Seg.arr Go.IntKind.i8 81 (z.2.1), Go.Kk.Seg.arr Go.IntKind.i8 16 (z.2.2.1), Go.Kk.Seg.one [Go.Kk.S.i Go.IntKind.i8 (z.2.2.2)]]])
  | _, _ => none

def k13lp : {R : Type} → Nat → List V → List Obj → (Ex → List V → List Obj → Option R) → Option R := fun q vs objs K => bif Nat.beq q 3 then k13p3 vs objs K else bif Nat.beq q 11 then k13p11 vs objs K else bif Nat.beq q 8 then k13p8 vs objs K else none

def k13oo : Orc := (k12o (k11o (k10o oNil)))

theorem k13oo_ok : OSound Try.prog k13oo := (k12o_ok _ (k11o_ok _ (k10o_ok _ oNil_ok)))

def k13c : Ctx := { tab := tab, eqs := eqs, bytes := [], nt := 49, orc := k13oo, keeps := [(3, [1, 3, 11, 12], [1, 3]), (8, [1, 3, 23, 24], [1, 3]), (11, [1, 3, 6, 23, 24, 28, 29], [1, 3, 23, 24])], lp := k13lp }

theorem k13c_ok : CtxOK Try.prog k13c := ⟨tab_ok, k13oo_ok, eqs_ok⟩

theorem k13l3_step (f : Nat) (x0 : Int) (x1 : List Int) (x2 : Int) (x3 : List Int) (x4 : List Int) (x5 : Int) : lrun k13c 0 [1, 3, 11, 12] [1, 3] (loopOf Try.f13 3) (f + 1) ([Go.Kk.V.s (Go.Kk.S.ptr 0 0 none 0), Go.Kk.V.s (Go.Kk.S.i Go.IntKind.u64 x0),
  Go.Kk.V.agg [Go.Kk.Seg.arr Go.IntKind.i8 81 x1], Go.Kk.V.s (Go.Kk.S.i Go.IntKind.i64 x2)]) ([Go.Kk.Obj.cells 28
    [Go.Kk.Seg.arr Go.IntKind.i8 81 x3, Go.Kk.Seg.arr Go.IntKind.i8 16 x4, Go.Kk.Seg.one [Go.Kk.S.i Go.IntKind.i8 x5]]]) k13l3d = k13l3s (fun x0 x1 x2 x3 x4 x5 => lrun k13c 0 [1, 3, 11, 12] [1, 3] (loopOf Try.f13 3) f ([Go.Kk.V.s (Go.Kk.S.ptr 0 0 none 0), Go.Kk.V.s (Go.Kk.S.i Go.IntKind.u64 x0),
  Go.Kk.V.agg [Go.Kk.Seg.arr Go.IntKind.i8 81 x1], Go.Kk.V.s (Go.Kk.S.i Go.IntKind.i64 x2)]) ([Go.Kk.Obj.cells 28
    [Go.Kk.Seg.arr Go.IntKind.i8 81 x3, Go.Kk.Seg.arr Go.IntKind.i8 16 x4, Go.Kk.Seg.one [Go.Kk.S.i Go.IntKind.i8 x5]]]) k13l3d) x0 x1 x2 x3 x4 x5 := by kernel_rfl

theorem k13l3_eq (f : Nat) : ∀ (x0 : Int) (x1 : List Int) (x2 : Int) (x3 : List Int) (x4 : List Int) (x5 : Int), lrun k13c 0 [1, 3, 11, 12] [1, 3] (loopOf Try.f13 3) f ([Go.Kk.V.s (Go.Kk.S.ptr 0 0 none 0), Go.Kk.V.s (Go.Kk.S.i Go.IntKind.u64 x0),
  Go.Kk.V.agg [Go.Kk.Seg.arr Go.IntKind.i8 81 x1], Go.Kk.V.s (Go.Kk.S.i Go.IntKind.i64 x2)]) ([Go.Kk.Obj.cells 28
    [Go.Kk.Seg.arr Go.IntKind.i8 81 x3, Go.Kk.Seg.arr Go.IntKind.i8 16 x4, Go.Kk.Seg.one [Go.Kk.S.i Go.IntKind.i8 x5]]]) k13l3d = k13l3 f x0 x1 x2 x3 x4 x5 := by
  induction f with
  | zero => intros; rfl
  | succ f ih =>
    intro x0 x1 x2 x3 x4 x5
    rw [k13l3_step]
    have e : (fun x0 x1 x2 x3 x4 x5 => lrun k13c 0 [1, 3, 11, 12] [1, 3] (loopOf Try.f13 3) f ([Go.Kk.V.s (Go.Kk.S.ptr 0 0 none 0), Go.Kk.V.s (Go.Kk.S.i Go.IntKind.u64 x0),
  Go.Kk.V.agg [Go.Kk.Seg.arr Go.IntKind.i8 81 x1], Go.Kk.V.s (Go.Kk.S.i Go.IntKind.i64 x2)]) ([Go.Kk.Obj.cells 28
    [Go.Kk.Seg.arr Go.IntKind.i8 81 x3, Go.Kk.Seg.arr Go.IntKind.i8 16 x4, Go.Kk.Seg.one [Go.Kk.S.i Go.IntKind.i8 x5]]]) k13l3d) = k13l3 f := by
      funext x0 x1 x2 x3 x4 x5
      exact ih x0 x1 x2 x3 x4 x5
    rw [e]
    rfl

theorem k13l11_step (f : Nat) (x0 : Int) (x1 : Int) (x2 : List Int) (x3 : Int) (x4 : List Int) (x5 : Int) (x6 : List Int) (x7 : List Int) (x8 : Int) : lrun k13c 0 [1, 3, 6, 23, 24, 28, 29] [1, 3, 23, 24] (loopOf Try.f13 11) (f + 1) ([Go.Kk.V.s (Go.Kk.S.ptr 0 0 none 0), Go.Kk.V.s (Go.Kk.S.i Go.IntKind.u64 x0), Go.Kk.V.s (Go.Kk.S.i Go.IntKind.i64 x1),
  Go.Kk.V.agg [Go.Kk.Seg.arr Go.IntKind.i8 16 x2], Go.Kk.V.s (Go.Kk.S.i Go.IntKind.i64 x3),
  Go.Kk.V.agg [Go.Kk.Seg.arr Go.IntKind.i8 8 x4], Go.Kk.V.s (Go.Kk.S.i Go.IntKind.i64 x5)]) ([Go.Kk.Obj.cells 28
    [Go.Kk.Seg.arr Go.IntKind.i8 81 x6, Go.Kk.Seg.arr Go.IntKind.i8 16 x7, Go.Kk.Seg.one [Go.Kk.S.i Go.IntKind.i8 x8]]]) k13l11d = k13l11s (fun x0 x1 x2 x3 x4 x5 x6 x7 x8 => lrun k13c 0 [1, 3, 6, 23, 24, 28, 29] [1, 3, 23, 24] (loopOf Try.f13 11) f ([Go.Kk.V.s (Go.Kk.S.ptr 0 0 none 0), Go.Kk.V.s (Go.Kk.S.i Go.IntKind.u64 x0), Go.Kk.V.s (Go.Kk.S.i Go.IntKind.i64 x1),
  Go.Kk.V.agg [Go.Kk.Seg.arr Go.IntKind.i8 16 x2], Go.Kk.V.s (Go.Kk.S.i Go.IntKind.i64 x3),
  Go.Kk.V.agg [Go.Kk.Seg.arr Go.IntKind.i8 8 x4], Go.Kk.V.s (Go.Kk.S.i Go.IntKind.i64 x5)]) ([Go.Kk.Obj.cells 28
    [Go.Kk.Seg.arr Go.IntKind.i8 81 x6, Go.Kk.Seg.arr Go.IntKind.i8 16 x7, Go.Kk.Seg.one [Go.Kk.S.i Go.IntKind.i8 x8]]]) k13l11d) x0 x1 x2 x3 x4 x5 x6 x7 x8 := by kernel_rfl

theorem k13l11_eq (f : Nat) : ∀ (x0 : Int) (x1 : Int) (x2 : List Int) (x3 : Int) (x4 : List Int) (x5 : Int) (x6 : List Int) (x7 : List Int) (x8 : Int), lrun k13c 0 [1, 3, 6, 23, 24, 28, 29] [1, 3, 23, 24] (loopOf Try.f13 11) f ([Go.Kk.V.s (Go.Kk.S.ptr 0 0 none 0), Go.Kk.V.s (Go.Kk.S.i Go.IntKind.u64 x0), Go.Kk.V.s (Go.Kk.S.i Go.IntKind.i64 x1),
  Go.Kk.V.agg [Go.Kk.Seg.arr Go.IntKind.i8 16 x2], Go.Kk.V.s (Go.Kk.S.i Go.IntKind.i64 x3),
  Go.Kk.V.agg [Go.Kk.Seg.arr Go.IntKind.i8 8 x4], Go.Kk.V.s (Go.Kk.S.i Go.IntKind.i64 x5)]) ([Go.Kk.Obj.cells 28
    [Go.Kk.Seg.arr Go.IntKind.i8 81 x6, Go.Kk.Seg.arr Go.IntKind.i8 16 x7, Go.Kk.Seg.one [Go.Kk.S.i Go.IntKind.i8 x8]]]) k13l11d = k13l11 f x0 x1 x2 x3 x4 x5 x6 x7 x8 := by
  induction f with
  | zero => intros; rfl
  | succ f ih =>
    intro x0 x1 x2 x3 x4 x5 x6 x7 x8
    rw [k13l11_step]
    have e : (fun x0 x1 x2 x3 x4 x5 x6 x7 x8 => lrun k13c 0 [1, 3, 6, 23, 24, 28, 29] [1, 3, 23, 24] (loopOf Try.f13 11) f ([Go.Kk.V.s (Go.Kk.S.ptr 0 0 none 0), Go.Kk.V.s (Go.Kk.S.i Go.IntKind.u64 x0), Go.Kk.V.s (Go.Kk.S.i Go.IntKind.i64 x1),
  Go.Kk.V.agg [Go.Kk.Seg.arr Go.IntKind.i8 16 x2], Go.Kk.V.s (Go.Kk.S.i Go.IntKind.i64 x3),
  Go.Kk.V.agg [Go.Kk.Seg.arr Go.IntKind.i8 8 x4], Go.Kk.V.s (Go.Kk.S.i Go.IntKind.i64 x5)]) ([Go.Kk.Obj.cells 28
    [Go.Kk.Seg.arr Go.IntKind.i8 81 x6, Go.Kk.Seg.arr Go.IntKind.i8 16 x7, Go.Kk.Seg.one [Go.Kk.S.i Go.IntKind.i8 x8]]]) k13l11d) = k13l11 f := by
      funext x0 x1 x2 x3 x4 x5 x6 x7 x8
      exact ih x0 x1 x2 x3 x4 x5 x6 x7 x8
    rw [e]
    rfl

theorem k13l8_step (f : Nat) (x0 : Int) (x1 : List Int) (x2 : Int) (x3 : List Int) (x4 : List Int) (x5 : Int) : lrun k13c 0 [1, 3, 23, 24] [1, 3] (loopOf Try.f13 8) (f + 1) ([Go.Kk.V.s (Go.Kk.S.ptr 0 0 none 0), Go.Kk.V.s (Go.Kk.S.i Go.IntKind.u64 x0),
  Go.Kk.V.agg [Go.Kk.Seg.arr Go.IntKind.i8 16 x1], Go.Kk.V.s (Go.Kk.S.i Go.IntKind.i64 x2)]) ([Go.Kk.Obj.cells 28
    [Go.Kk.Seg.arr Go.IntKind.i8 81 x3, Go.Kk.Seg.arr Go.IntKind.i8 16 x4, Go.Kk.Seg.one [Go.Kk.S.i Go.IntKind.i8 x5]]]) k13l8d = k13l8s (fun x0 x1 x2 x3 x4 x5 => lrun k13c 0 [1, 3, 23, 24] [1, 3] (loopOf Try.f13 8) f ([Go.Kk.V.s (Go.Kk.S.ptr 0 0 none 0), Go.Kk.V.s (Go.Kk.S.i Go.IntKind.u64 x0),
  Go.Kk.V.agg [Go.Kk.Seg.arr Go.IntKind.i8 16 x1], Go.Kk.V.s (Go.Kk.S.i Go.IntKind.i64 x2)]) ([Go.Kk.Obj.cells 28
    [Go.Kk.Seg.arr Go.IntKind.i8 81 x3, Go.Kk.Seg.arr Go.IntKind.i8 16 x4, Go.Kk.Seg.one [Go.Kk.S.i Go.IntKind.i8 x5]]]) k13l8d) x0 x1 x2 x3 x4 x5 := by kernel_rfl

theorem k13l8_eq (f : Nat) : ∀ (x0 : Int) (x1 : List Int) (x2 : Int) (x3 : List Int) (x4 : List Int) (x5 : Int), lrun k13c 0 [1, 3, 23, 24] [1, 3] (loopOf Try.f13 8) f ([Go.Kk.V.s (Go.Kk.S.ptr 0 0 none 0), Go.Kk.V.s (Go.Kk.S.i Go.IntKind.u64 x0),
  Go.Kk.V.agg [Go.Kk.Seg.arr Go.IntKind.i8 16 x1], Go.Kk.V.s (Go.Kk.S.i Go.IntKind.i64 x2)]) ([Go.Kk.Obj.cells 28
    [Go.Kk.Seg.arr Go.IntKind.i8 81 x3, Go.Kk.Seg.arr Go.IntKind.i8 16 x4, Go.Kk.Seg.one [Go.Kk.S.i Go.IntKind.i8 x5]]]) k13l8d = k13l8 f x0 x1 x2 x3 x4 x5 := by
  induction f with
  | zero => intros; rfl
  | succ f ih =>
    intro x0 x1 x2 x3 x4 x5
    rw [k13l8_step]
    have e : (fun x0 x1 x2 x3 x4 x5 => lrun k13c 0 [1, 3, 23, 24] [1, 3] (loopOf Try.f13 8) f ([Go.Kk.V.s (Go.Kk.S.ptr 0 0 none 0), Go.Kk.V.s (Go.Kk.S.i Go.IntKind.u64 x0),
  Go.Kk.V.agg [Go.Kk.Seg.arr Go.IntKind.i8 16 x1], Go.Kk.V.s (Go.Kk.S.i Go.IntKind.i64 x2)]) ([Go.Kk.Obj.cells 28
    [Go.Kk.Seg.arr Go.IntKind.i8 81 x3, Go.Kk.Seg.arr Go.IntKind.i8 16 x4, Go.Kk.Seg.one [Go.Kk.S.i Go.IntKind.i8 x5]]]) k13l8d) = k13l8 f := by
      funext x0 x1 x2 x3 x4 x5
      exact ih x0 x1 x2 x3 x4 x5
    rw [e]
    rfl

theorem k13s3 : LoopSound Try.prog k13c 0 (loopOf Try.f13 3) :=
  loopSound_by mixed k13c_ok (AllP.of (l' := []) (by kernel_rfl) trivial) (q := 3) (kin := [1, 3, 11, 12]) (kout := [1, 3]) (by kernel_rfl) (by kernel_rfl) fun vs objs K r h => by
    replace h : k13p3 vs objs K = some r := h
    unfold k13p3 at h
    split at h
    · obtain ⟨t, h1, h2⟩ := ob_ok h
      refine ⟨_, k13l3d, t, many, (k13l3_eq many _ _ _ _ _ _).trans h1, fun e vs' objs' hd => ?_⟩
      unfold k13l3d at hd
      split at hd <;> cases hd <;> exact h2
    · cases h

theorem k13s11 : LoopSound Try.prog k13c 0 (loopOf Try.f13 11) :=
  loopSound_by mixed k13c_ok (AllP.of (l' := []) (by kernel_rfl) trivial) (q := 11) (kin := [1, 3, 6, 23, 24, 28, 29]) (kout := [1, 3, 23, 24]) (by kernel_rfl) (by kernel_rfl) fun vs objs K r h => by
    replace h : k13p11 vs objs K = some r := h
    unfold k13p11 at h
    split at h
    · obtain ⟨t, h1, h2⟩ := ob_ok h
      refine ⟨_, k13l11d, t, many, (k13l11_eq many _ _ _ _ _ _ _ _ _).trans h1, fun e vs' objs' hd => ?_⟩
      unfold k13l11d at hd
      split at hd <;> cases hd <;> exact h2
    · cases h

theorem k13s8 : LoopSound Try.prog k13c 0 (loopOf Try.f13 8) :=
  loopSound_by mixed k13c_ok (AllP.of (l' := [loopOf Try.f13 11]) (by kernel_rfl) ⟨k13s11, trivial⟩) (q := 8) (kin := [1, 3, 23, 24]) (kout := [1, 3]) (by kernel_rfl) (by kernel_rfl) fun vs objs K r h => by
    replace h : k13p8 vs objs K = some r := h
    unfold k13p8 at h
    split at h
    · obtain ⟨t, h1, h2⟩ := ob_ok h
      refine ⟨_, k13l8d, t, many, (k13l8_eq many _ _ _ _ _ _).trans h1, fun e vs' objs' hd => ?_⟩
      unfold k13l8d at hd
      split at hd <;> cases hd <;> exact h2
    · cases h

def k13 (x0 : List Int) (x1 : List Int) (x2 : Int) : Option (Int) :=
  ob (k13l3 many 0 x0 0 x0 x1 x2) fun r8 =>
  ob (k13l8 many (Prod.fst r8) (Prod.fst (Prod.snd (Prod.snd r8))) 0 (Prod.fst (Prod.snd r8)) (Prod.fst (Prod.snd (Prod.snd r8))) (Prod.snd (Prod.snd (Prod.snd r8)))) fun r9 =>
  br (Prod.snd (Prod.snd (Prod.snd r9)) == 1)
   (ob (k12 ) fun r10 =>
   some (Go.Kk.bitop Go.BinOp.xor Go.IntKind.u64 (Prod.fst r9) r10))
   (some (Prod.fst r9))

def k13d : V → List Obj → Option (Int) := fun v objs => match v, objs with
  | Go.Kk.V.s (Go.Kk.S.i Go.IntKind.u64 y0), [] => some (y0)
  | _, _ => none

theorem k13_eq (x0 : List Int) (x1 : List Int) (x2 : Int) : fnE k13c Try.f13 ([Go.Kk.V.agg
    [Go.Kk.Seg.arr Go.IntKind.i8 81 x0, Go.Kk.Seg.arr Go.IntKind.i8 16 x1, Go.Kk.Seg.one [Go.Kk.S.i Go.IntKind.i8 x2]]]) ([]) k13d = k13 x0 x1 x2 := by kernel_rfl

def k13a {R : Type} (o : Orc) (vs : List V) (objs : List Obj) (K : V → List Obj → Option R) : Option R := match vs, objs with
  | [Go.Kk.V.agg
    [Go.Kk.Seg.arr Go.IntKind.i8 81 x0, Go.Kk.Seg.arr Go.IntKind.i8 16 x1, Go.Kk.Seg.one [Go.Kk.S.i Go.IntKind.i8 x2]]], [] => ob (k13 x0 x1 x2) fun y0 => K (Go.Kk.V.s (Go.Kk.S.i Go.IntKind.u64 y0)) ([])
  | _, _ => o 13 vs objs K

def k13o (o : Orc) : Orc := fun f vs objs K => bif Nat.beq f 13 then k13a o vs objs K else o f vs objs K

theorem k13_ok {vs : List V} {objs : List Obj} (x0 : List Int) (x1 : List Int) (x2 : Int) {R : Type} {K : V → List Obj → Option R} {r : R} (hv : vs = [Go.Kk.V.agg
    [Go.Kk.Seg.arr Go.IntKind.i8 81 x0, Go.Kk.Seg.arr Go.IntKind.i8 16 x1, Go.Kk.Seg.one [Go.Kk.S.i Go.IntKind.i8 x2]]]) (ho : objs = []) (h : ob (k13 x0 x1 x2) (fun y0 => K (Go.Kk.V.s (Go.Kk.S.i Go.IntKind.u64 y0)) ([])) = some r) :
    ∃ v objs', K v objs' = some r ∧ CallOK Try.prog 13 vs objs v objs' := by
  subst hv
  subst ho
  obtain ⟨t, h1, h2⟩ := ob_ok h
  refine oneOK_by mixed k13c_ok (objs := []) (fn := Try.f13) (b := (Try.f13).body.getD .skip) (by kernel_rfl) (by kernel_rfl) (by kernel_rfl) (AllP.of (l' := [loopOf Try.f13 3, loopOf Try.f13 8]) (by kernel_rfl) ⟨k13s3, k13s8, trivial⟩) ((k13_eq x0 x1 x2).trans h1) fun v objs' hd => ?_
  unfold k13d at hd
  split at hd <;> cases hd <;> exact h2

theorem k13o_ok (o : Orc) (ho : OSound Try.prog o) : OSound Try.prog (k13o o) := by
  intro R f vs objs K r h
  replace h : (bif Nat.beq f 13 then k13a o vs objs K else o f vs objs K) = some r := h
  cases hf : Nat.beq f 13 with
  | false => rw [hf] at h; exact ho f vs objs K r h
  | true =>
    rw [hf] at h
    have e := Nat.eq_of_beq_eq_true hf
    subst e
    replace h : k13a o vs objs K = some r := h
    unfold k13a at h
    split at h
    · exact k13_ok _ _ _ rfl rfl h
    · exact ho _ _ _ _ _ h

def k9lp : {R : Type} → Nat → List V → List Obj → (Ex → List V → List Obj → Option R) → Option R := fun _ _ _ _ => none

def k9oo : Orc := (k13o (k12o (k10o oNil)))

theorem k9oo_ok : OSound Try.prog k9oo := (k13o_ok _ (k12o_ok _ (k10o_ok _ oNil_ok)))

def k9c : Ctx := { tab := tab, eqs := eqs, bytes := [], nt := 18, orc := k9oo, keeps := [], lp := k9lp }

theorem k9c_ok : CtxOK Try.prog k9c := ⟨tab_ok, k9oo_ok, eqs_ok⟩

def k9 : Option (Bool) :=
  ob (k10 3 1) fun r3 =>
  br (r3 != 0)
   (ob (k12 ) fun r4 =>
   br (r4 != 0)
    (ob (k13 ([0, 0, 0, 0, 0, 0, 0, 0, 0, 0, 0, 0, 0, 0, 0, 0, 0, 0, 0, 0, 0, 0, 0, 0, 0, 0, 0, 0, 0, 0, 0, 0, 0, 0, 0, 0, 0, 0, 0, 0,
  0, 0, 0, 0, 0, 0, 0, 0, 0, 0, 0, 0, 0, 0, 0, 0, 0, 0, 0, 0, 0, 0, 0, 0, 0, 0, 0, 0, 0, 0, 0, 0, 0, 0, 0, 0, 0, 0, 0,
  0, 0]) ([0, 0, 0, 0, 0, 0, 0, 0, 0, 0, 0, 0, 0, 0, 0, 0]) 0) fun r5 =>
    br (r5 == 0)
     (ob (k13 ([0, 0, 0, 0, 0, 0, 0, 0, 0, 0, 0, 0, 0, 0, 0, 0, 0, 0, 0, 0, 0, 0, 0, 0, 0, 0, 0, 0, 0, 0, 0, 0, 0, 0, 0, 0, 0, 0, 0, 0,
  0, 0, 0, 0, 0, 0, 0, 0, 0, 0, 0, 0, 0, 0, 0, 0, 0, 0, 0, 0, 0, 0, 0, 0, 0, 0, 0, 0, 0, 0, 0, 0, 0, 0, 0, 0, 0, 0, 0,
  0, 0]) ([0, 0, 0, 0, 0, 0, 0, 0, 0, 0, 0, 0, 0, 0, 0, 0]) 1) fun r6 =>
     ob (k12 ) fun r7 =>
     some (r6 == r7))
     (some (false)))
    (some (false)))
   (some (false))

def k9d : V → List Obj → Option (Bool) := fun v objs => match v, objs with
  | Go.Kk.V.s (Go.Kk.S.b y0), [] => some (y0)
  | _, _ => none

theorem k9_eq : fnE k9c Try.f9 ([]) ([]) k9d = k9  := by kernel_rfl

def k9a {R : Type} (o : Orc) (vs : List V) (objs : List Obj) (K : V → List Obj → Option R) : Option R := match vs, objs with
  | [], [] => ob (k9 ) fun y0 => K (Go.Kk.V.s (Go.Kk.S.b y0)) ([])
  | _, _ => o 9 vs objs K

def k9o (o : Orc) : Orc := fun f vs objs K => bif Nat.beq f 9 then k9a o vs objs K else o f vs objs K

theorem k9_ok {vs : List V} {objs : List Obj} {R : Type} {K : V → List Obj → Option R} {r : R} (hv : vs = []) (ho : objs = []) (h : ob (k9 ) (fun y0 => K (Go.Kk.V.s (Go.Kk.S.b y0)) ([])) = some r) :
    ∃ v objs', K v objs' = some r ∧ CallOK Try.prog 9 vs objs v objs' := by
  subst hv
  subst ho
  obtain ⟨t, h1, h2⟩ := ob_ok h
  refine oneOK_by mixed k9c_ok (objs := []) (fn := Try.f9) (b := (Try.f9).body.getD .skip) (by kernel_rfl) (by kernel_rfl) (by kernel_rfl) (AllP.of (l' := []) (by kernel_rfl) trivial) ((k9_eq ).trans h1) fun v objs' hd => ?_
  unfold k9d at hd
  split at hd <;> cases hd <;> exact h2

theorem k9o_ok (o : Orc) (ho : OSound Try.prog o) : OSound Try.prog (k9o o) := by
  intro R f vs objs K r h
  replace h : (bif Nat.beq f 9 then k9a o vs objs K else o f vs objs K) = some r := h
  cases hf : Nat.beq f 9 with
  | false => rw [hf] at h; exact ho f vs objs K r h
  | true =>
    rw [hf] at h
    have e := Nat.eq_of_beq_eq_true hf
    subst e
    replace h : k9a o vs objs K = some r := h
    unfold k9a at h
    split at h
    · exact k9_ok rfl rfl h
    · exact ho _ _ _ _ _ h

def k3l5s (rec : Int → Int → List Int → List Int → Int → Option (Int × List Int × List Int × Int)) (x0 : Int) (x1 : Int) (x2 : List Int) (x3 : List Int) (x4 : Int) : Option (Int × List Int × List Int × Int) :=
  br (decide (x1 < 81))
   (br (Go.Kk.inB x1 81)
    (ob (k10 x1 (List.getD x2 (Int.toNat x1) 0)) fun r9 =>
    rec (Go.Kk.bitop Go.BinOp.xor Go.IntKind.u64 x0 r9) (Go.IntKind.wrap Go.IntKind.i64 (x1 + 1)) x2 x3 x4)
    (none))
   (some (x0, x2, x3, x4))

def k3l5 : Nat → Int → Int → List Int → List Int → Int → Option (Int × List Int × List Int × Int)
  | 0, _, _, _, _, _ => none
  | f + 1, x0, x1, x2, x3, x4 => k3l5s (k3l5 f) x0 x1 x2 x3 x4

def k3l5d : Ex → List V → List Obj → Option (Int × List Int × List Int × Int) := fun e vs objs => match e, vs, objs with
  | Go.Kk.Ex.exit 0, [Go.Kk.V.s (Go.Kk.S.ptr 0 0 none 0), Go.Kk.V.s (Go.Kk.S.i Go.IntKind.u64 y0)], [Go.Kk.Obj.cells 28
    [Go.Kk.Seg.arr Go.IntKind.i8 81 y1, Go.Kk.Seg.arr Go.IntKind.i8 16 y2, Go.Kk.Seg.one [Go.Kk.S.i Go.IntKind.i8 y3]]] => some (y0, y1, y2, y3)
  | _, _, _ => none

def k3l12s (rec : Int → Int → Int → List Int → List Int → Int → Option (Int × Int × List Int × List Int × Int)) (x0 : Int) (x1 : Int) (x2 : Int) (x3 : List Int) (x4 : List Int) (x5 : Int) : Option (Int × Int × List Int × List Int × Int) :=
  br (decide (x2 < 8))
   (br (Go.Kk.inB x1 2)
    (br (Go.Kk.inB x2 8)
     (ob (k11 x1 x2 (Go.Kk.conv Go.IntKind.i8 Go.IntKind.i64 (List.getD x4 (Int.toNat x1 * 8 + Int.toNat x2) 0))) fun r16 =>
     rec (Go.Kk.bitop Go.BinOp.xor Go.IntKind.u64 x0 r16) x1 (Go.IntKind.wrap Go.IntKind.i64 (x2 + 1)) x3 x4 x5)
     (none))
    (none))
   (some (x0, x1, x3, x4, x5))

def k3l12 : Nat → Int → Int → Int → List Int → List Int → Int → Option (Int × Int × List Int × List Int × Int)
  | 0, _, _, _, _, _, _ => none
  | f + 1, x0, x1, x2, x3, x4, x5 => k3l12s (k3l12 f) x0 x1 x2 x3 x4 x5

def k3l12d : Ex → List V → List Obj → Option (Int × Int × List Int × List Int × Int) := fun e vs objs => match e, vs, objs with
  | Go.Kk.Ex.exit 4, [Go.Kk.V.s (Go.Kk.S.ptr 0 0 none 0), Go.Kk.V.s (Go.Kk.S.i Go.IntKind.u64 y0), Go.Kk.V.s (Go.Kk.S.i Go.IntKind.i64 y1)], [Go.Kk.Obj.cells 28
    [Go.Kk.Seg.arr Go.IntKind.i8 81 y2, Go.Kk.Seg.arr Go.IntKind.i8 16 y3, Go.Kk.Seg.one [Go.Kk.S.i Go.IntKind.i8 y4]]] => some (y0, y1, y2, y3, y4)
  | _, _, _ => none

def k3l9s (rec : Int → Int → List Int → List Int → Int → Option (Int × List Int × List Int × Int)) (x0 : Int) (x1 : Int) (x2 : List Int) (x3 : List Int) (x4 : Int) : Option (Int × List Int × List Int × Int) :=
  br (decide (x1 < 2))
   (ob (k3l12 many x0 x1 0 x2 x3 x4) fun r10 =>
   rec (Prod.fst r10) (Go.IntKind.wrap Go.IntKind.i64 (Prod.fst (Prod.snd r10) + 1)) (Prod.fst (Prod.snd (Prod.snd r10))) (Prod.fst (Prod.snd (Prod.snd (Prod.snd r10)))) (Prod.snd (Prod.snd (Prod.snd (Prod.snd r10)))))
   (some (x0, x2, x3, x4))

def k3l9 : Nat → Int → Int → List Int → List Int → Int → Option (Int × List Int × List Int × Int)
  | 0, _, _, _, _, _ => none
  | f + 1, x0, x1, x2, x3, x4 => k3l9s (k3l9 f) x0 x1 x2 x3 x4

def k3l9d : Ex → List V → List Obj → Option (Int × List Int × List Int × Int) := fun e vs objs => match e, vs, objs with
  | Go.Kk.Ex.exit 2, [Go.Kk.V.s (Go.Kk.S.ptr 0 0 none 0), Go.Kk.V.s (Go.Kk.S.i Go.IntKind.u64 y0)], [Go.Kk.Obj.cells 28
    [Go.Kk.Seg.arr Go.IntKind.i8 81 y1, Go.Kk.Seg.arr Go.IntKind.i8 16 y2, Go.Kk.Seg.one [Go.Kk.S.i Go.IntKind.i8 y3]]] => some (y0, y1, y2, y3)
  | _, _, _ => none

def k3p5 {R : Type} (vs : List V) (objs : List Obj) (K : Ex → List V → List Obj → Option R) : Option R := match vs, objs with
  | [Go.Kk.V.s (Go.Kk.S.ptr 0 0 none 0), Go.Kk.V.s (Go.Kk.S.i Go.IntKind.u64 x0), Go.Kk.V.s (Go.Kk.S.i Go.IntKind.i64 x1)], [Go.Kk.Obj.cells 28
    [Go.Kk.Seg.arr Go.IntKind.i8 81 x2, Go.Kk.Seg.arr Go.IntKind.i8 16 x3, Go.Kk.Seg.one [Go.Kk.S.i Go.IntKind.i8 x4]]] => ob (k3l5 many x0 x1 x2 x3 x4) fun z => K (Go.Kk.Ex.exit 0) ([Go.Kk.V.s (Go.Kk.S.ptr 0 0 none 0), Go.Kk.V.s (Go.Kk.S.i Go.IntKind.u64 (z.1))]) ([Go.Kk.Obj.cells 28
    [Go.Kk.Seg.arr Go.IntKind.i8 81 (z.2.1), Go.Kk.Seg.arr Go.IntKind.i8 16 (z.2.2.1), Go.Kk.Seg.one [Go.Kk.S.i Go.IntKind.i8 (z.2.2.2)]]])
  | _, _ => none

def k3p12 {R : Type} (vs : List V) (objs : List Obj) (K : Ex → List V → List Obj → Option R) : Option R := match vs, objs with
  | [Go.Kk.V.s (Go.Kk.S.ptr 0 0 none 0), Go.Kk.V.s (Go.Kk.S.i Go.IntKind.u64 x0), Go.Kk.V.s (Go.Kk.S.i Go.IntKind.i64 x1),
  Go.Kk.V.s (Go.Kk.S.i Go.IntKind.i64 x2)], [Go.Kk.Obj.cells 28
    [Go.Kk.Seg.arr Go.IntKind.i8 81 x3, Go.Kk.Seg.arr Go.IntKind.i8 16 x4, Go.Kk.Seg.one [Go.Kk.S.i Go.IntKind.i8 x5]]] => ob (k3l12 many x0 x1 x2 x3 x4 x5) fun z => K (Go.Kk.Ex.exit 4) ([Go.Kk.V.s (Go.Kk.S.ptr 0 0 none 0), Go.Kk.V.s (Go.Kk.S.i Go.IntKind.u64 (z.1)), Go.Kk.V.s (Go.Kk.S.i Go.IntKind.i64 (z.2.1))]) ([Go.Kk.Obj.cells 28
    [Go.Kk.Seg.arr Go.IntKind.i8 81 (z.2.2.1), Go.Kk.Seg.arr Go.IntKind.i8 16 (z.2.2.2.1), Go.Kk.Seg.one [Go.Kk.S.i Go.IntKind.i8 (z.2.2.2.2)]]])
  | _, _ => none

def k3p9 {R : Type} (vs : List V) (objs : List Obj) (K : Ex → List V → List Obj → Option R) : Option R := match vs, objs with
  | [Go.Kk.V.s (Go.Kk.S.ptr 0 0 none 0), Go.Kk.V.s (Go.Kk.S.i Go.IntKind.u64 x0), Go.Kk.V.s (Go.Kk.S.i Go.IntKind.i64 x1)], [Go.Kk.Obj.cells 28
    [Go.Kk.Seg.arr Go.IntKind.i8 81 x2, Go.Kk.Seg.arr Go.IntKind.i8 16 x3, Go.Kk.Seg.one [Go.Kk.S.i Go.IntKind.i8 x4]]] => ob (k3l9 many x0 x1 x2 x3 x4) fun z => K (Go.Kk.Ex.exit 2) ([Go.Kk.V.s (Go.Kk.S.ptr 0 0 none 0), Go.Kk.V.s (Go.Kk.S.i Go.IntKind.u64 (z.1))]) ([Go.Kk.Obj.cells 28
    [Go.Kk.Seg.arr Go.IntKind.i8 81 (z.2.1), Go.Kk.Seg.arr Go.IntKind.i8 16 (z.2.2.1), Go.Kk.Seg.one [Go.Kk.S.i Go.IntKind.i8 (z.2.2.2)]]])
  | _, _ => none

def k3lp : {R : Type} → Nat → List V → List Obj → (Ex → List V → List Obj → Option R) → Option R := fun q vs objs K => bif Nat.beq q 5 then k3p5 vs objs K else bif Nat.beq q 12 then k3p12 vs objs K else bif Nat.beq q 9 then k3p9 vs objs K else none

def k3oo : Orc := (k13o (k12o (k11o (k10o (k9o oNil)))))

theorem k3oo_ok : OSound Try.prog k3oo := (k13o_ok _ (k12o_ok _ (k11o_ok _ (k10o_ok _ (k9o_ok _ oNil_ok)))))

def k3c : Ctx := { tab := tab, eqs := eqs, bytes := [], nt := 51, orc := k3oo, keeps := [(5, [1, 3, 4], [1, 3]), (9, [1, 3, 5], [1, 3]), (12, [1, 3, 5, 6], [1, 3, 5])], lp := k3lp }

theorem k3c_ok : CtxOK Try.prog k3c := ⟨tab_ok, k3oo_ok, eqs_ok⟩

theorem k3l5_step (f : Nat) (x0 : Int) (x1 : Int) (x2 : List Int) (x3 : List Int) (x4 : Int) : lrun k3c 0 [1, 3, 4] [1, 3] (loopOf Try.f3 5) (f + 1) ([Go.Kk.V.s (Go.Kk.S.ptr 0 0 none 0), Go.Kk.V.s (Go.Kk.S.i Go.IntKind.u64 x0), Go.Kk.V.s (Go.Kk.S.i Go.IntKind.i64 x1)]) ([Go.Kk.Obj.cells 28
    [Go.Kk.Seg.arr Go.IntKind.i8 81 x2, Go.Kk.Seg.arr Go.IntKind.i8 16 x3, Go.Kk.Seg.one [Go.Kk.S.i Go.IntKind.i8 x4]]]) k3l5d = k3l5s (fun x0 x1 x2 x3 x4 => lrun k3c 0 [1, 3, 4] [1, 3] (loopOf Try.f3 5) f ([Go.Kk.V.s (Go.Kk.S.ptr 0 0 none 0), Go.Kk.V.s (Go.Kk.S.i Go.IntKind.u64 x0), Go.Kk.V.s (Go.Kk.S.i Go.IntKind.i64 x1)]) ([Go.Kk.Obj.cells 28
    [Go.Kk.Seg.arr Go.IntKind.i8 81 x2, Go.Kk.Seg.arr Go.IntKind.i8 16 x3, Go.Kk.Seg.one [Go.Kk.S.i Go.IntKind.i8 x4]]]) k3l5d) x0 x1 x2 x3 x4 := by kernel_rfl

theorem k3l5_eq (f : Nat) : ∀ (x0 : Int) (x1 : Int) (x2 : List Int) (x3 : List Int) (x4 : Int), lrun k3c 0 [1, 3, 4] [1, 3] (loopOf Try.f3 5) f ([Go.Kk.V.s (Go.Kk.S.ptr 0 0 none 0), Go.Kk.V.s (Go.Kk.S.i Go.IntKind.u64 x0), Go.Kk.V.s (Go.Kk.S.i Go.IntKind.i64 x1)]) ([Go.Kk.Obj.cells 28
    [Go.Kk.Seg.arr Go.IntKind.i8 81 x2, Go.Kk.Seg.arr Go.IntKind.i8 16 x3, Go.Kk.Seg.one [Go.Kk.S.i Go.IntKind.i8 x4]]]) k3l5d = k3l5 f x0 x1 x2 x3 x4 := by
  induction f with
  | zero => intros; rfl
  | succ f ih =>
    intro x0 x1 x2 x3 x4
    rw [k3l5_step]
    have e : (fun x0 x1 x2 x3 x4 => lrun k3c 0 [1, 3, 4] [1, 3] (loopOf Try.f3 5) f ([Go.Kk.V.s (Go.Kk.S.ptr 0 0 none 0), Go.Kk.V.s (Go.Kk.S.i Go.IntKind.u64 x0), Go.Kk.V.s (Go.Kk.S.i Go.IntKind.i64 x1)]) ([Go.Kk.Obj.cells 28
    [Go.Kk.Seg.arr Go.IntKind.i8 81 x2, Go.Kk.Seg.arr Go.IntKind.i8 16 x3, Go.Kk.Seg.one [Go.Kk.S.i Go.IntKind.i8 x4]]]) k3l5d) = k3l5 f := by
      funext x0 x1 x2 x3 x4
      exact ih x0 x1 x2 x3 x4
    rw [e]
    rfl

theorem k3l12_step (f : Nat) (x0 : Int) (x1 : Int) (x2 : Int) (x3 : List Int) (x4 : List Int) (x5 : Int) : lrun k3c 0 [1, 3, 5, 6] [1, 3, 5] (loopOf Try.f3 12) (f + 1) ([Go.Kk.V.s (Go.Kk.S.ptr 0 0 none 0), Go.Kk.V.s (Go.Kk.S.i Go.IntKind.u64 x0), Go.Kk.V.s (Go.Kk.S.i Go.IntKind.i64 x1),
  Go.Kk.V.s (Go.Kk.S.i Go.IntKind.i64 x2)]) ([Go.Kk.Obj.cells 28
    [Go.Kk.Seg.arr Go.IntKind.i8 81 x3, Go.Kk.Seg.arr Go.IntKind.i8 16 x4, Go.Kk.Seg.one [Go.Kk.S.i Go.IntKind.i8 x5]]]) k3l12d = k3l12s (fun x0 x1 x2 x3 x4 x5 => lrun k3c 0 [1, 3, 5, 6] [1, 3, 5] (loopOf Try.f3 12) f ([Go.Kk.V.s (Go.Kk.S.ptr 0 0 none 0), Go.Kk.V.s (Go.Kk.S.i Go.IntKind.u64 x0), Go.Kk.V.s (Go.Kk.S.i Go.IntKind.i64 x1),
  Go.Kk.V.s (Go.Kk.S.i Go.IntKind.i64 x2)]) ([Go.Kk.Obj.cells 28
    [Go.Kk.Seg.arr Go.IntKind.i8 81 x3, Go.Kk.Seg.arr Go.IntKind.i8 16 x4, Go.Kk.Seg.one [Go.Kk.S.i Go.IntKind.i8 x5]]]) k3l12d) x0 x1 x2 x3 x4 x5 := by kernel_rfl

theorem k3l12_eq (f : Nat) : ∀ (x0 : Int) (x1 : Int) (x2 : Int) (x3 : List Int) (x4 : List Int) (x5 : Int), lrun k3c 0 [1, 3, 5, 6] [1, 3, 5] (loopOf Try.f3 12) f ([Go.Kk.V.s (Go.Kk.S.ptr 0 0 none 0), Go.Kk.V.s (Go.Kk.S.i Go.IntKind.u64 x0), Go.Kk.V.s (Go.Kk.S.i Go.IntKind.i64 x1),
  Go.Kk.V.s (Go.Kk.S.i Go.IntKind.i64 x2)]) ([Go.Kk.Obj.cells 28
    [Go.Kk.Seg.arr Go.IntKind.i8 81 x3, Go.Kk.Seg.arr Go.IntKind.i8 16 x4, Go.Kk.Seg.one [Go.Kk.S.i Go.IntKind.i8 x5]]]) k3l12d = k3l12 f x0 x1 x2 x3 x4 x5 := by
  induction f with
  | zero => intros; rfl
  | succ f ih =>
    intro x0 x1 x2 x3 x4 x5
    rw [k3l12_step]
    have e : (fun x0 x1 x2 x3 x4 x5 => lrun k3c 0 [1, 3, 5, 6] [1, 3, 5] (loopOf Try.f3 12) f ([Go.Kk.V.s (Go.Kk.S.ptr 0 0 none 0), Go.Kk.V.s (Go.Kk.S.i Go.IntKind.u64 x0), Go.Kk.V.s (Go.Kk.S.i Go.IntKind.i64 x1),
  Go.Kk.V.s (Go.Kk.S.i Go.IntKind.i64 x2)]) ([Go.Kk.Obj.cells 28
    [Go.Kk.Seg.arr Go.IntKind.i8 81 x3, Go.Kk.Seg.arr Go.IntKind.i8 16 x4, Go.Kk.Seg.one [Go.Kk.S.i Go.IntKind.i8 x5]]]) k3l12d) = k3l12 f := by
      funext x0 x1 x2 x3 x4 x5
      exact ih x0 x1 x2 x3 x4 x5
    rw [e]
    rfl

theorem k3l9_step (f : Nat) (x0 : Int) (x1 : Int) (x2 : List Int) (x3 : List Int) (x4 : Int) : lrun k3c 0 [1, 3, 5] [1, 3] (loopOf Try.f3 9) (f + 1) ([Go.Kk.V.s (Go.Kk.S.ptr 0 0 none 0), Go.Kk.V.s (Go.Kk.S.i Go.IntKind.u64 x0), Go.Kk.V.s (Go.Kk.S.i Go.IntKind.i64 x1)]) ([Go.Kk.Obj.cells 28
    [Go.Kk.Seg.arr Go.IntKind.i8 81 x2, Go.Kk.Seg.arr Go.IntKind.i8 16 x3, Go.Kk.Seg.one [Go.Kk.S.i Go.IntKind.i8 x4]]]) k3l9d = k3l9s (fun x0 x1 x2 x3 x4 => lrun k3c 0 [1, 3, 5] [1, 3] (loopOf Try.f3 9) f ([Go.Kk.V.s (Go.Kk.S.ptr 0 0 none 0), Go.Kk.V.s (Go.Kk.S.i Go.IntKind.u64 x0), Go.Kk.V.s (Go.Kk.S.i Go.IntKind.i64 x1)]) ([Go.Kk.Obj.cells 28
    [Go.Kk.Seg.arr Go.IntKind.i8 81 x2, Go.Kk.Seg.arr Go.IntKind.i8 16 x3, Go.Kk.Seg.one [Go.Kk.S.i Go.IntKind.i8 x4]]]) k3l9d) x0 x1 x2 x3 x4 := by kernel_rfl

theorem k3l9_eq (f : Nat) : ∀ (x0 : Int) (x1 : Int) (x2 : List Int) (x3 : List Int) (x4 : Int), lrun k3c 0 [1, 3, 5] [1, 3] (loopOf Try.f3 9) f ([Go.Kk.V.s (Go.Kk.S.ptr 0 0 none 0), Go.Kk.V.s (Go.Kk.S.i Go.IntKind.u64 x0), Go.Kk.V.s (Go.Kk.S.i Go.IntKind.i64 x1)]) ([Go.Kk.Obj.cells 28
    [Go.Kk.Seg.arr Go.IntKind.i8 81 x2, Go.Kk.Seg.arr Go.IntKind.i8 16 x3, Go.Kk.Seg.one [Go.Kk.S.i Go.IntKind.i8 x4]]]) k3l9d = k3l9 f x0 x1 x2 x3 x4 := by
  induction f with
  | zero => intros; rfl
  | succ f ih =>
    intro x0 x1 x2 x3 x4
    rw [k3l9_step]
    have e : (fun x0 x1 x2 x3 x4 => lrun k3c 0 [1, 3, 5] [1, 3] (loopOf Try.f3 9) f ([Go.Kk.V.s (Go.Kk.S.ptr 0 0 none 0), Go.Kk.V.s (Go.Kk.S.i Go.IntKind.u64 x0), Go.Kk.V.s (Go.Kk.S.i Go.IntKind.i64 x1)]) ([Go.Kk.Obj.cells 28
    [Go.Kk.Seg.arr Go.IntKind.i8 81 x2, Go.Kk.Seg.arr Go.IntKind.i8 16 x3, Go.Kk.Seg.one [Go.Kk.S.i Go.IntKind.i8 x4]]]) k3l9d) = k3l9 f := by
      funext x0 x1 x2 x3 x4
      exact ih x0 x1 x2 x3 x4
    rw [e]
    rfl

theorem k3s5 : LoopSound Try.prog k3c 0 (loopOf Try.f3 5) :=
  loopSound_by mixed k3c_ok (AllP.of (l' := []) (by kernel_rfl) trivial) (q := 5) (kin := [1, 3, 4]) (kout := [1, 3]) (by kernel_rfl) (by kernel_rfl) fun vs objs K r h => by
    replace h : k3p5 vs objs K = some r := h
    unfold k3p5 at h
    split at h
    · obtain ⟨t, h1, h2⟩ := ob_ok h
      refine ⟨_, k3l5d, t, many, (k3l5_eq many _ _ _ _ _).trans h1, fun e vs' objs' hd => ?_⟩
      unfold k3l5d at hd
      split at hd <;> cases hd <;> exact h2
    · cases h

theorem k3s12 : LoopSound Try.prog k3c 0 (loopOf Try.f3 12) :=
  loopSound_by mixed k3c_ok (AllP.of (l' := []) (by kernel_rfl) trivial) (q := 12) (kin := [1, 3, 5, 6]) (kout := [1, 3, 5]) (by kernel_rfl) (by kernel_rfl) fun vs objs K r h => by
    replace h : k3p12 vs objs K = some r := h
    unfold k3p12 at h
    split at h
    · obtain ⟨t, h1, h2⟩ := ob_ok h
      refine ⟨_, k3l12d, t, many, (k3l12_eq many _ _ _ _ _ _).trans h1, fun e vs' objs' hd => ?_⟩
      unfold k3l12d at hd
      split at hd <;> cases hd <;> exact h2
    · cases h

theorem k3s9 : LoopSound Try.prog k3c 0 (loopOf Try.f3 9) :=
  loopSound_by mixed k3c_ok (AllP.of (l' := [loopOf Try.f3 12]) (by kernel_rfl) ⟨k3s12, trivial⟩) (q := 9) (kin := [1, 3, 5]) (kout := [1, 3]) (by kernel_rfl) (by kernel_rfl) fun vs objs K r h => by
    replace h : k3p9 vs objs K = some r := h
    unfold k3p9 at h
    split at h
    · obtain ⟨t, h1, h2⟩ := ob_ok h
      refine ⟨_, k3l9d, t, many, (k3l9_eq many _ _ _ _ _).trans h1, fun e vs' objs' hd => ?_⟩
      unfold k3l9d at hd
      split at hd <;> cases hd <;> exact h2
    · cases h

def k3 (x0 : List Int) (x1 : List Int) (x2 : Int) : Option (Bool) :=
  ob (k9 ) fun r3 =>
  br (!r3)
   (some (false))
   (ob (k3l5 many 0 0 x0 x1 x2) fun r4 =>
   ob (k3l9 many (Prod.fst r4) 0 (Prod.fst (Prod.snd r4)) (Prod.fst (Prod.snd (Prod.snd r4))) (Prod.snd (Prod.snd (Prod.snd r4)))) fun r5 =>
   br (Prod.snd (Prod.snd (Prod.snd r5)) == 1)
    (ob (k12 ) fun r6 =>
    ob (k13 (Prod.fst (Prod.snd r5)) (Prod.fst (Prod.snd (Prod.snd r5))) (Prod.snd (Prod.snd (Prod.snd r5)))) fun r7 =>
    some (r7 == Go.Kk.bitop Go.BinOp.xor Go.IntKind.u64 (Prod.fst r5) r6))
    (ob (k13 (Prod.fst (Prod.snd r5)) (Prod.fst (Prod.snd (Prod.snd r5))) (Prod.snd (Prod.snd (Prod.snd r5)))) fun r6 =>
    some (r6 == Prod.fst r5)))

def k3d : V → List Obj → Option (Bool) := fun v objs => match v, objs with
  | Go.Kk.V.s (Go.Kk.S.b y0), [] => some (y0)
  | _, _ => none

theorem k3_eq (x0 : List Int) (x1 : List Int) (x2 : Int) : fnE k3c Try.f3 ([Go.Kk.V.agg
    [Go.Kk.Seg.arr Go.IntKind.i8 81 x0, Go.Kk.Seg.arr Go.IntKind.i8 16 x1, Go.Kk.Seg.one [Go.Kk.S.i Go.IntKind.i8 x2]]]) ([]) k3d = k3 x0 x1 x2 := by kernel_rfl

def k3a {R : Type} (o : Orc) (vs : List V) (objs : List Obj) (K : V → List Obj → Option R) : Option R := match vs, objs with
  | [Go.Kk.V.agg
    [Go.Kk.Seg.arr Go.IntKind.i8 81 x0, Go.Kk.Seg.arr Go.IntKind.i8 16 x1, Go.Kk.Seg.one [Go.Kk.S.i Go.IntKind.i8 x2]]], [] => ob (k3 x0 x1 x2) fun y0 => K (Go.Kk.V.s (Go.Kk.S.b y0)) ([])
  | _, _ => o 3 vs objs K

def k3o (o : Orc) : Orc := fun f vs objs K => bif Nat.beq f 3 then k3a o vs objs K else o f vs objs K

theorem k3_ok {vs : List V} {objs : List Obj} (x0 : List Int) (x1 : List Int) (x2 : Int) {R : Type} {K : V → List Obj → Option R} {r : R} (hv : vs = [Go.Kk.V.agg
    [Go.Kk.Seg.arr Go.IntKind.i8 81 x0, Go.Kk.Seg.arr Go.IntKind.i8 16 x1, Go.Kk.Seg.one [Go.Kk.S.i Go.IntKind.i8 x2]]]) (ho : objs = []) (h : ob (k3 x0 x1 x2) (fun y0 => K (Go.Kk.V.s (Go.Kk.S.b y0)) ([])) = some r) :
    ∃ v objs', K v objs' = some r ∧ CallOK Try.prog 3 vs objs v objs' := by
  subst hv
  subst ho
  obtain ⟨t, h1, h2⟩ := ob_ok h
  refine oneOK_by mixed k3c_ok (objs := []) (fn := Try.f3) (b := (Try.f3).body.getD .skip) (by kernel_rfl) (by kernel_rfl) (by kernel_rfl) (AllP.of (l' := [loopOf Try.f3 5, loopOf Try.f3 9]) (by kernel_rfl) ⟨k3s5, k3s9, trivial⟩) ((k3_eq x0 x1 x2).trans h1) fun v objs' hd => ?_
  unfold k3d at hd
  split at hd <;> cases hd <;> exact h2

theorem k3o_ok (o : Orc) (ho : OSound Try.prog o) : OSound Try.prog (k3o o) := by
  intro R f vs objs K r h
  replace h : (bif Nat.beq f 3 then k3a o vs objs K else o f vs objs K) = some r := h
  cases hf : Nat.beq f 3 with
  | false => rw [hf] at h; exact ho f vs objs K r h
  | true =>
    rw [hf] at h
    have e := Nat.eq_of_beq_eq_true hf
    subst e
    replace h : k3a o vs objs K = some r := h
    unfold k3a at h
    split at h
    · exact k3_ok _ _ _ rfl rfl h
    · exact ho _ _ _ _ _ h

def k14lp : {R : Type} → Nat → List V → List Obj → (Ex → List V → List Obj → Option R) → Option R := fun _ _ _ _ => none

def k14oo : Orc := oNil

theorem k14oo_ok : OSound Try.prog k14oo := oNil_ok

def k14c : Ctx := { tab := tab, eqs := eqs, bytes := [], nt := 23, orc := k14oo, keeps := [], lp := k14lp }

theorem k14c_ok : CtxOK Try.prog k14c := ⟨tab_ok, k14oo_ok, eqs_ok⟩

def k14 (x0 : Int) : Option (Int) :=
  br (decide (x0 < 1))
   (some (0))
   (br (decide (x0 > 31))
    (some (0))
    (br (x0 == 13)
     (some (0))
     (br (x0 == 16)
      (some (0))
      (br (x0 == 29)
       (some (0))
       (some (Int.tmod x0 16))))))

def k14d : V → List Obj → Option (Int) := fun v objs => match v, objs with
  | Go.Kk.V.s (Go.Kk.S.i Go.IntKind.i64 y0), [] => some (y0)
  | _, _ => none

theorem k14_eq (x0 : Int) : fnE k14c Try.f14 ([Go.Kk.V.s (Go.Kk.S.i Go.IntKind.i64 x0)]) ([]) k14d = k14 x0 := by kernel_rfl

def k14a {R : Type} (o : Orc) (vs : List V) (objs : List Obj) (K : V → List Obj → Option R) : Option R := match vs, objs with
  | [Go.Kk.V.s (Go.Kk.S.i Go.IntKind.i64 x0)], [] => ob (k14 x0) fun y0 => K (Go.Kk.V.s (Go.Kk.S.i Go.IntKind.i64 y0)) ([])
  | _, _ => o 14 vs objs K

def k14o (o : Orc) : Orc := fun f vs objs K => bif Nat.beq f 14 then k14a o vs objs K else o f vs objs K

theorem k14_ok {vs : List V} {objs : List Obj} (x0 : Int) {R : Type} {K : V → List Obj → Option R} {r : R} (hv : vs = [Go.Kk.V.s (Go.Kk.S.i Go.IntKind.i64 x0)]) (ho : objs = []) (h : ob (k14 x0) (fun y0 => K (Go.Kk.V.s (Go.Kk.S.i Go.IntKind.i64 y0)) ([])) = some r) :
    ∃ v objs', K v objs' = some r ∧ CallOK Try.prog 14 vs objs v objs' := by
  subst hv
  subst ho
  obtain ⟨t, h1, h2⟩ := ob_ok h
  refine oneOK_by mixed k14c_ok (objs := []) (fn := Try.f14) (b := (Try.f14).body.getD .skip) (by kernel_rfl) (by kernel_rfl) (by kernel_rfl) (AllP.of (l' := []) (by kernel_rfl) trivial) ((k14_eq x0).trans h1) fun v objs' hd => ?_
  unfold k14d at hd
  split at hd <;> cases hd <;> exact h2

theorem k14o_ok (o : Orc) (ho : OSound Try.prog o) : OSound Try.prog (k14o o) := by
  intro R f vs objs K r h
  replace h : (bif Nat.beq f 14 then k14a o vs objs K else o f vs objs K) = some r := h
  cases hf : Nat.beq f 14 with
  | false => rw [hf] at h; exact ho f vs objs K r h
  | true =>
    rw [hf] at h
    have e := Nat.eq_of_beq_eq_true hf
    subst e
    replace h : k14a o vs objs K = some r := h
    unfold k14a at h
    split at h
    · exact k14_ok _ rfl rfl h
    · exact ho _ _ _ _ _ h

def k4lp : {R : Type} → Nat → List V → List Obj → (Ex → List V → List Obj → Option R) → Option R := fun _ _ _ _ => none

def k4oo : Orc := (k11o (k10o (k14o (k9o oNil))))

theorem k4oo_ok : OSound Try.prog k4oo := (k11o_ok _ (k10o_ok _ (k14o_ok _ (k9o_ok _ oNil_ok))))

def k4c : Ctx := { tab := tab, eqs := eqs, bytes := [], nt := 69, orc := k4oo, keeps := [], lp := k4lp }

theorem k4c_ok : CtxOK Try.prog k4c := ⟨tab_ok, k4oo_ok, eqs_ok⟩

def k4 (x0 : Int) (x1 : Int) (x2 : List Int) : Option (Bool) :=
  ob (k9 ) fun r3 =>
  br (!r3)
   (some (false))
   (br (decide (x0 ≥ 0))
    (br (decide (x0 ≤ 80))
     (ob (k14 x1) fun r4 =>
     br (List.getD x2 0 0 == 0)
      (br (decide (List.getD x2 1 0 ≥ 1))
       (br (decide (List.getD x2 1 0 ≤ 7))
        (br (decide (List.getD x2 2 0 ≥ 1))
         (ob (k10 x0 x1) fun r5 =>
         br ((r5 != 0) == (r4 != 0))
          (ob (k11 (List.getD x2 0 0) (List.getD x2 1 0) (List.getD x2 2 0)) fun r6 =>
          some ((r6 != 0) == decide (List.getD x2 2 0 ≤ 18)))
          (some (false)))
         (ob (k10 x0 x1) fun r5 =>
         br ((r5 != 0) == (r4 != 0))
          (ob (k11 (List.getD x2 0 0) (List.getD x2 1 0) (List.getD x2 2 0)) fun r6 =>
          some ((r6 != 0) == false))
          (some (false))))
        (ob (k10 x0 x1) fun r5 =>
        br ((r5 != 0) == (r4 != 0))
         (ob (k11 (List.getD x2 0 0) (List.getD x2 1 0) (List.getD x2 2 0)) fun r6 =>
         some ((r6 != 0) == false))
         (some (false))))
       (ob (k10 x0 x1) fun r5 =>
       br ((r5 != 0) == (r4 != 0))
        (ob (k11 (List.getD x2 0 0) (List.getD x2 1 0) (List.getD x2 2 0)) fun r6 =>
        some ((r6 != 0) == false))
        (some (false))))
      (br (List.getD x2 0 0 == 1)
       (br (decide (List.getD x2 1 0 ≥ 1))
        (br (decide (List.getD x2 1 0 ≤ 7))
         (br (decide (List.getD x2 2 0 ≥ 1))
          (ob (k10 x0 x1) fun r5 =>
          br ((r5 != 0) == (r4 != 0))
           (ob (k11 (List.getD x2 0 0) (List.getD x2 1 0) (List.getD x2 2 0)) fun r6 =>
           some ((r6 != 0) == decide (List.getD x2 2 0 ≤ 18)))
           (some (false)))
          (ob (k10 x0 x1) fun r5 =>
          br ((r5 != 0) == (r4 != 0))
           (ob (k11 (List.getD x2 0 0) (List.getD x2 1 0) (List.getD x2 2 0)) fun r6 =>
           some ((r6 != 0) == false))
           (some (false))))
         (ob (k10 x0 x1) fun r5 =>
         br ((r5 != 0) == (r4 != 0))
          (ob (k11 (List.getD x2 0 0) (List.getD x2 1 0) (List.getD x2 2 0)) fun r6 =>
          some ((r6 != 0) == false))
          (some (false))))
        (ob (k10 x0 x1) fun r5 =>
        br ((r5 != 0) == (r4 != 0))
         (ob (k11 (List.getD x2 0 0) (List.getD x2 1 0) (List.getD x2 2 0)) fun r6 =>
         some ((r6 != 0) == false))
         (some (false))))
       (ob (k10 x0 x1) fun r5 =>
       br ((r5 != 0) == (r4 != 0))
        (ob (k11 (List.getD x2 0 0) (List.getD x2 1 0) (List.getD x2 2 0)) fun r6 =>
        some ((r6 != 0) == false))
        (some (false)))))
     (br (List.getD x2 0 0 == 0)
      (br (decide (List.getD x2 1 0 ≥ 1))
       (br (decide (List.getD x2 1 0 ≤ 7))
        (br (decide (List.getD x2 2 0 ≥ 1))
         (ob (k10 x0 x1) fun r4 =>
         br ((r4 != 0) == false)
          (ob (k11 (List.getD x2 0 0) (List.getD x2 1 0) (List.getD x2 2 0)) fun r5 =>
          some ((r5 != 0) == decide (List.getD x2 2 0 ≤ 18)))
          (some (false)))
         (ob (k10 x0 x1) fun r4 =>
         br ((r4 != 0) == false)
          (ob (k11 (List.getD x2 0 0) (List.getD x2 1 0) (List.getD x2 2 0)) fun r5 =>
          some ((r5 != 0) == false))
          (some (false))))
        (ob (k10 x0 x1) fun r4 =>
        br ((r4 != 0) == false)
         (ob (k11 (List.getD x2 0 0) (List.getD x2 1 0) (List.getD x2 2 0)) fun r5 =>
         some ((r5 != 0) == false))
         (some (false))))
       (ob (k10 x0 x1) fun r4 =>
       br ((r4 != 0) == false)
        (ob (k11 (List.getD x2 0 0) (List.getD x2 1 0) (List.getD x2 2 0)) fun r5 =>
        some ((r5 != 0) == false))
        (some (false))))
      (br (List.getD x2 0 0 == 1)
       (br (decide (List.getD x2 1 0 ≥ 1))
        (br (decide (List.getD x2 1 0 ≤ 7))
         (br (decide (List.getD x2 2 0 ≥ 1))
          (ob (k10 x0 x1) fun r4 =>
          br ((r4 != 0) == false)
           (ob (k11 (List.getD x2 0 0) (List.getD x2 1 0) (List.getD x2 2 0)) fun r5 =>
           some ((r5 != 0) == decide (List.getD x2 2 0 ≤ 18)))
           (some (false)))
          (ob (k10 x0 x1) fun r4 =>
          br ((r4 != 0) == false)
           (ob (k11 (List.getD x2 0 0) (List.getD x2 1 0) (List.getD x2 2 0)) fun r5 =>
           some ((r5 != 0) == false))
           (some (false))))
         (ob (k10 x0 x1) fun r4 =>
         br ((r4 != 0) == false)
          (ob (k11 (List.getD x2 0 0) (List.getD x2 1 0) (List.getD x2 2 0)) fun r5 =>
          some ((r5 != 0) == false))
          (some (false))))
        (ob (k10 x0 x1) fun r4 =>
        br ((r4 != 0) == false)
         (ob (k11 (List.getD x2 0 0) (List.getD x2 1 0) (List.getD x2 2 0)) fun r5 =>
         some ((r5 != 0) == false))
         (some (false))))
       (ob (k10 x0 x1) fun r4 =>
       br ((r4 != 0) == false)
        (ob (k11 (List.getD x2 0 0) (List.getD x2 1 0) (List.getD x2 2 0)) fun r5 =>
        some ((r5 != 0) == false))
        (some (false))))))
    (br (List.getD x2 0 0 == 0)
     (br (decide (List.getD x2 1 0 ≥ 1))
      (br (decide (List.getD x2 1 0 ≤ 7))
       (br (decide (List.getD x2 2 0 ≥ 1))
        (ob (k10 x0 x1) fun r4 =>
        br ((r4 != 0) == false)
         (ob (k11 (List.getD x2 0 0) (List.getD x2 1 0) (List.getD x2 2 0)) fun r5 =>
         some ((r5 != 0) == decide (List.getD x2 2 0 ≤ 18)))
         (some (false)))
        (ob (k10 x0 x1) fun r4 =>
        br ((r4 != 0) == false)
         (ob (k11 (List.getD x2 0 0) (List.getD x2 1 0) (List.getD x2 2 0)) fun r5 =>
         some ((r5 != 0) == false))
         (some (false))))
       (ob (k10 x0 x1) fun r4 =>
       br ((r4 != 0) == false)
        (ob (k11 (List.getD x2 0 0) (List.getD x2 1 0) (List.getD x2 2 0)) fun r5 =>
        some ((r5 != 0) == false))
        (some (false))))
      (ob (k10 x0 x1) fun r4 =>
      br ((r4 != 0) == false)
       (ob (k11 (List.getD x2 0 0) (List.getD x2 1 0) (List.getD x2 2 0)) fun r5 =>
       some ((r5 != 0) == false))
       (some (false))))
     (br (List.getD x2 0 0 == 1)
      (br (decide (List.getD x2 1 0 ≥ 1))
       (br (decide (List.getD x2 1 0 ≤ 7))
        (br (decide (List.getD x2 2 0 ≥ 1))
         (ob (k10 x0 x1) fun r4 =>
         br ((r4 != 0) == false)
          (ob (k11 (List.getD x2 0 0) (List.getD x2 1 0) (List.getD x2 2 0)) fun r5 =>
          some ((r5 != 0) == decide (List.getD x2 2 0 ≤ 18)))
          (some (false)))
         (ob (k10 x0 x1) fun r4 =>
         br ((r4 != 0) == false)
          (ob (k11 (List.getD x2 0 0) (List.getD x2 1 0) (List.getD x2 2 0)) fun r5 =>
          some ((r5 != 0) == false))
          (some (false))))
        (ob (k10 x0 x1) fun r4 =>
        br ((r4 != 0) == false)
         (ob (k11 (List.getD x2 0 0) (List.getD x2 1 0) (List.getD x2 2 0)) fun r5 =>
         some ((r5 != 0) == false))
         (some (false))))
       (ob (k10 x0 x1) fun r4 =>
       br ((r4 != 0) == false)
        (ob (k11 (List.getD x2 0 0) (List.getD x2 1 0) (List.getD x2 2 0)) fun r5 =>
        some ((r5 != 0) == false))
        (some (false))))
      (ob (k10 x0 x1) fun r4 =>
      br ((r4 != 0) == false)
       (ob (k11 (List.getD x2 0 0) (List.getD x2 1 0) (List.getD x2 2 0)) fun r5 =>
       some ((r5 != 0) == false))
       (some (false))))))

def k4d : V → List Obj → Option (Bool) := fun v objs => match v, objs with
  | Go.Kk.V.s (Go.Kk.S.b y0), [] => some (y0)
  | _, _ => none

theorem k4_eq (x0 : Int) (x1 : Int) (x2 : List Int) : fnE k4c Try.f4 ([Go.Kk.V.s (Go.Kk.S.i Go.IntKind.i64 x0), Go.Kk.V.s (Go.Kk.S.i Go.IntKind.i8 x1),
  Go.Kk.V.agg [Go.Kk.Seg.arr Go.IntKind.i64 3 x2]]) ([]) k4d = k4 x0 x1 x2 := by kernel_rfl

def k4a {R : Type} (o : Orc) (vs : List V) (objs : List Obj) (K : V → List Obj → Option R) : Option R := match vs, objs with
  | [Go.Kk.V.s (Go.Kk.S.i Go.IntKind.i64 x0), Go.Kk.V.s (Go.Kk.S.i Go.IntKind.i8 x1),
  Go.Kk.V.agg [Go.Kk.Seg.arr Go.IntKind.i64 3 x2]], [] => ob (k4 x0 x1 x2) fun y0 => K (Go.Kk.V.s (Go.Kk.S.b y0)) ([])
  | _, _ => o 4 vs objs K

def k4o (o : Orc) : Orc := fun f vs objs K => bif Nat.beq f 4 then k4a o vs objs K else o f vs objs K

theorem k4_ok {vs : List V} {objs : List Obj} (x0 : Int) (x1 : Int) (x2 : List Int) {R : Type} {K : V → List Obj → Option R} {r : R} (hv : vs = [Go.Kk.V.s (Go.Kk.S.i Go.IntKind.i64 x0), Go.Kk.V.s (Go.Kk.S.i Go.IntKind.i8 x1),
  Go.Kk.V.agg [Go.Kk.Seg.arr Go.IntKind.i64 3 x2]]) (ho : objs = []) (h : ob (k4 x0 x1 x2) (fun y0 => K (Go.Kk.V.s (Go.Kk.S.b y0)) ([])) = some r) :
    ∃ v objs', K v objs' = some r ∧ CallOK Try.prog 4 vs objs v objs' := by
  subst hv
  subst ho
  obtain ⟨t, h1, h2⟩ := ob_ok h
  refine oneOK_by mixed k4c_ok (objs := []) (fn := Try.f4) (b := (Try.f4).body.getD .skip) (by kernel_rfl) (by kernel_rfl) (by kernel_rfl) (AllP.of (l' := []) (by kernel_rfl) trivial) ((k4_eq x0 x1 x2).trans h1) fun v objs' hd => ?_
  unfold k4d at hd
  split at hd <;> cases hd <;> exact h2

theorem k4o_ok (o : Orc) (ho : OSound Try.prog o) : OSound Try.prog (k4o o) := by
  intro R f vs objs K r h
  replace h : (bif Nat.beq f 4 then k4a o vs objs K else o f vs objs K) = some r := h
  cases hf : Nat.beq f 4 with
  | false => rw [hf] at h; exact ho f vs objs K r h
  | true =>
    rw [hf] at h
    have e := Nat.eq_of_beq_eq_true hf
    subst e
    replace h : k4a o vs objs K = some r := h
    unfold k4a at h
    split at h
    · exact k4_ok _ _ _ rfl rfl h
    · exact ho _ _ _ _ _ h

def k5lp : {R : Type} → Nat → List V → List Obj → (Ex → List V → List Obj → Option R) → Option R := fun _ _ _ _ => none

def k5oo : Orc := (k10o (k12o (k13o (k9o oNil))))

theorem k5oo_ok : OSound Try.prog k5oo := (k10o_ok _ (k12o_ok _ (k13o_ok _ (k9o_ok _ oNil_ok))))

def k5c : Ctx := { tab := tab, eqs := eqs, bytes := [], nt := 64, orc := k5oo, keeps := [], lp := k5lp }

theorem k5c_ok : CtxOK Try.prog k5c := ⟨tab_ok, k5oo_ok, eqs_ok⟩

def k5 (x0 : List Int) (x1 : List Int) (x2 : Int) (x3 : Int) (x4 : Int) : Option (Bool) :=
  ob (k9 ) fun r5 =>
  br (!r5)
   (some (false))
   (br (decide (x3 < 0))
    (some (true))
    (br (decide (x3 > 80))
     (some (true))
     (br (Go.Kk.inB x3 81)
      (ob (k13 (List.set x0 (Int.toNat x3) x4) x1 (Go.IntKind.wrap Go.IntKind.i8 (1 - x2))) fun r6 =>
      ob (k13 (List.set x0 (Int.toNat x3) x4) x1 x2) fun r7 =>
      ob (k12 ) fun r8 =>
      ob (k13 (List.set x0 (Int.toNat x3) x4) x1 x2) fun r9 =>
      ob (k13 x0 x1 x2) fun r10 =>
      br (Go.Kk.inB x3 81)
       (ob (k10 x3 (List.getD x0 (Int.toNat x3) 0)) fun r11 =>
       ob (k10 x3 x4) fun r12 =>
       br (r9 == Go.Kk.bitop Go.BinOp.xor Go.IntKind.u64 (Go.Kk.bitop Go.BinOp.xor Go.IntKind.u64 r10 r11) r12)
        (br (Go.Kk.bitop Go.BinOp.xor Go.IntKind.u64 r6 r7 == r8)
         (some (true))
         (br (x2 != 0)
          (some (x2 != 1))
          (some (false))))
        (some (false)))
       (none))
      (none))))

def k5d : V → List Obj → Option (Bool) := fun v objs => match v, objs with
  | Go.Kk.V.s (Go.Kk.S.b y0), [] => some (y0)
  | _, _ => none

theorem k5_eq (x0 : List Int) (x1 : List Int) (x2 : Int) (x3 : Int) (x4 : Int) : fnE k5c Try.f5 ([Go.Kk.V.agg
    [Go.Kk.Seg.arr Go.IntKind.i8 81 x0, Go.Kk.Seg.arr Go.IntKind.i8 16 x1, Go.Kk.Seg.one [Go.Kk.S.i Go.IntKind.i8 x2]],
  Go.Kk.V.s (Go.Kk.S.i Go.IntKind.i64 x3), Go.Kk.V.s (Go.Kk.S.i Go.IntKind.i8 x4)]) ([]) k5d = k5 x0 x1 x2 x3 x4 := by kernel_rfl

def k5a {R : Type} (o : Orc) (vs : List V) (objs : List Obj) (K : V → List Obj → Option R) : Option R := match vs, objs with
  | [Go.Kk.V.agg
    [Go.Kk.Seg.arr Go.IntKind.i8 81 x0, Go.Kk.Seg.arr Go.IntKind.i8 16 x1, Go.Kk.Seg.one [Go.Kk.S.i Go.IntKind.i8 x2]],
  Go.Kk.V.s (Go.Kk.S.i Go.IntKind.i64 x3), Go.Kk.V.s (Go.Kk.S.i Go.IntKind.i8 x4)], [] => ob (k5 x0 x1 x2 x3 x4) fun y0 => K (Go.Kk.V.s (Go.Kk.S.b y0)) ([])
  | _, _ => o 5 vs objs K

def k5o (o : Orc) : Orc := fun f vs objs K => bif Nat.beq f 5 then k5a o vs objs K else o f vs objs K

theorem k5_ok {vs : List V} {objs : List Obj} (x0 : List Int) (x1 : List Int) (x2 : Int) (x3 : Int) (x4 : Int) {R : Type} {K : V → List Obj → Option R} {r : R} (hv : vs = [Go.Kk.V.agg
    [Go.Kk.Seg.arr Go.IntKind.i8 81 x0, Go.Kk.Seg.arr Go.IntKind.i8 16 x1, Go.Kk.Seg.one [Go.Kk.S.i Go.IntKind.i8 x2]],
  Go.Kk.V.s (Go.Kk.S.i Go.IntKind.i64 x3), Go.Kk.V.s (Go.Kk.S.i Go.IntKind.i8 x4)]) (ho : objs = []) (h : ob (k5 x0 x1 x2 x3 x4) (fun y0 => K (Go.Kk.V.s (Go.Kk.S.b y0)) ([])) = some r) :
    ∃ v objs', K v objs' = some r ∧ CallOK Try.prog 5 vs objs v objs' := by
  subst hv
  subst ho
  obtain ⟨t, h1, h2⟩ := ob_ok h
  refine oneOK_by mixed k5c_ok (objs := []) (fn := Try.f5) (b := (Try.f5).body.getD .skip) (by kernel_rfl) (by kernel_rfl) (by kernel_rfl) (AllP.of (l' := []) (by kernel_rfl) trivial) ((k5_eq x0 x1 x2 x3 x4).trans h1) fun v objs' hd => ?_
  unfold k5d at hd
  split at hd <;> cases hd <;> exact h2

theorem k5o_ok (o : Orc) (ho : OSound Try.prog o) : OSound Try.prog (k5o o) := by
  intro R f vs objs K r h
  replace h : (bif Nat.beq f 5 then k5a o vs objs K else o f vs objs K) = some r := h
  cases hf : Nat.beq f 5 with
  | false => rw [hf] at h; exact ho f vs objs K r h
  | true =>
    rw [hf] at h
    have e := Nat.eq_of_beq_eq_true hf
    subst e
    replace h : k5a o vs objs K = some r := h
    unfold k5a at h
    split at h
    · exact k5_ok _ _ _ _ _ rfl rfl h
    · exact ho _ _ _ _ _ h

def k15lp : {R : Type} → Nat → List V → List Obj → (Ex → List V → List Obj → Option R) → Option R := fun _ _ _ _ => none

def k15oo : Orc := (k11o (k10o oNil))

theorem k15oo_ok : OSound Try.prog k15oo := (k11o_ok _ (k10o_ok _ oNil_ok))

def k15c : Ctx := { tab := tab, eqs := eqs, bytes := [], nt := 41, orc := k15oo, keeps := [], lp := k15lp }

theorem k15c_ok : CtxOK Try.prog k15c := ⟨tab_ok, k15oo_ok, eqs_ok⟩

def k15 (x0 : List Int) : Option (Int) :=
  br (decide (List.getD x0 0 0 ≥ 0))
   (br (decide (List.getD x0 0 0 ≤ 80))
    (br (decide (List.getD x0 1 0 < 1))
     (some (0))
     (br (decide (List.getD x0 1 0 > 31))
      (some (0))
      (ob (k10 (List.getD x0 0 0) (Go.Kk.conv Go.IntKind.i64 Go.IntKind.i8 (List.getD x0 1 0))) fun r4 =>
      some (r4))))
    (br (List.getD x0 0 0 == -1)
     (ob (k11 (Go.IntKind.wrap Go.IntKind.i64 (-1 - List.getD x0 0 0)) (List.getD x0 1 0) (List.getD x0 2 0)) fun r4 =>
     some (r4))
     (br (List.getD x0 0 0 == -2)
      (ob (k11 (Go.IntKind.wrap Go.IntKind.i64 (-1 - List.getD x0 0 0)) (List.getD x0 1 0) (List.getD x0 2 0)) fun r4 =>
      some (r4))
      (some (0)))))
   (br (List.getD x0 0 0 == -1)
    (ob (k11 (Go.IntKind.wrap Go.IntKind.i64 (-1 - List.getD x0 0 0)) (List.getD x0 1 0) (List.getD x0 2 0)) fun r4 =>
    some (r4))
    (br (List.getD x0 0 0 == -2)
     (ob (k11 (Go.IntKind.wrap Go.IntKind.i64 (-1 - List.getD x0 0 0)) (List.getD x0 1 0) (List.getD x0 2 0)) fun r4 =>
     some (r4))
     (some (0))))

def k15d : V → List Obj → Option (Int) := fun v objs => match v, objs with
  | Go.Kk.V.s (Go.Kk.S.i Go.IntKind.u64 y0), [] => some (y0)
  | _, _ => none

theorem k15_eq (x0 : List Int) : fnE k15c Try.f15 ([Go.Kk.V.agg [Go.Kk.Seg.arr Go.IntKind.i64 3 x0]]) ([]) k15d = k15 x0 := by kernel_rfl

def k15a {R : Type} (o : Orc) (vs : List V) (objs : List Obj) (K : V → List Obj → Option R) : Option R := match vs, objs with
  | [Go.Kk.V.agg [Go.Kk.Seg.arr Go.IntKind.i64 3 x0]], [] => ob (k15 x0) fun y0 => K (Go.Kk.V.s (Go.Kk.S.i Go.IntKind.u64 y0)) ([])
  | _, _ => o 15 vs objs K

def k15o (o : Orc) : Orc := fun f vs objs K => bif Nat.beq f 15 then k15a o vs objs K else o f vs objs K

theorem k15_ok {vs : List V} {objs : List Obj} (x0 : List Int) {R : Type} {K : V → List Obj → Option R} {r : R} (hv : vs = [Go.Kk.V.agg [Go.Kk.Seg.arr Go.IntKind.i64 3 x0]]) (ho : objs = []) (h : ob (k15 x0) (fun y0 => K (Go.Kk.V.s (Go.Kk.S.i Go.IntKind.u64 y0)) ([])) = some r) :
    ∃ v objs', K v objs' = some r ∧ CallOK Try.prog 15 vs objs v objs' := by
  subst hv
  subst ho
  obtain ⟨t, h1, h2⟩ := ob_ok h
  refine oneOK_by mixed k15c_ok (objs := []) (fn := Try.f15) (b := (Try.f15).body.getD .skip) (by kernel_rfl) (by kernel_rfl) (by kernel_rfl) (AllP.of (l' := []) (by kernel_rfl) trivial) ((k15_eq x0).trans h1) fun v objs' hd => ?_
  unfold k15d at hd
  split at hd <;> cases hd <;> exact h2

theorem k15o_ok (o : Orc) (ho : OSound Try.prog o) : OSound Try.prog (k15o o) := by
  intro R f vs objs K r h
  replace h : (bif Nat.beq f 15 then k15a o vs objs K else o f vs objs K) = some r := h
  cases hf : Nat.beq f 15 with
  | false => rw [hf] at h; exact ho f vs objs K r h
  | true =>
    rw [hf] at h
    have e := Nat.eq_of_beq_eq_true hf
    subst e
    replace h : k15a o vs objs K = some r := h
    unfold k15a at h
    split at h
    · exact k15_ok _ rfl rfl h
    · exact ho _ _ _ _ _ h

def k16lp : {R : Type} → Nat → List V → List Obj → (Ex → List V → List Obj → Option R) → Option R := fun _ _ _ _ => none

def k16oo : Orc := oNil

theorem k16oo_ok : OSound Try.prog k16oo := oNil_ok

def k16c : Ctx := { tab := tab, eqs := eqs, bytes := [], nt := 17, orc := k16oo, keeps := [], lp := k16lp }

theorem k16c_ok : CtxOK Try.prog k16c := ⟨tab_ok, k16oo_ok, eqs_ok⟩

def k16 (x0 : List Int) : Option (List Int) :=
  br (decide (List.getD x0 0 0 ≥ 0))
   (br (decide (List.getD x0 0 0 ≤ 80))
    (some ([List.getD x0 0 0, List.getD x0 1 0, 0]))
    (some (x0)))
   (some (x0))

def k16d : V → List Obj → Option (List Int) := fun v objs => match v, objs with
  | Go.Kk.V.agg [Go.Kk.Seg.arr Go.IntKind.i64 3 y0], [] => some (y0)
  | _, _ => none

theorem k16_eq (x0 : List Int) : fnE k16c Try.f16 ([Go.Kk.V.agg [Go.Kk.Seg.arr Go.IntKind.i64 3 x0]]) ([]) k16d = k16 x0 := by kernel_rfl

def k16a {R : Type} (o : Orc) (vs : List V) (objs : List Obj) (K : V → List Obj → Option R) : Option R := match vs, objs with
  | [Go.Kk.V.agg [Go.Kk.Seg.arr Go.IntKind.i64 3 x0]], [] => ob (k16 x0) fun y0 => K (Go.Kk.V.agg [Go.Kk.Seg.arr Go.IntKind.i64 3 y0]) ([])
  | _, _ => o 16 vs objs K

def k16o (o : Orc) : Orc := fun f vs objs K => bif Nat.beq f 16 then k16a o vs objs K else o f vs objs K

theorem k16_ok {vs : List V} {objs : List Obj} (x0 : List Int) {R : Type} {K : V → List Obj → Option R} {r : R} (hv : vs = [Go.Kk.V.agg [Go.Kk.Seg.arr Go.IntKind.i64 3 x0]]) (ho : objs = []) (h : ob (k16 x0) (fun y0 => K (Go.Kk.V.agg [Go.Kk.Seg.arr Go.IntKind.i64 3 y0]) ([])) = some r) :
    ∃ v objs', K v objs' = some r ∧ CallOK Try.prog 16 vs objs v objs' := by
  subst hv
  subst ho
  obtain ⟨t, h1, h2⟩ := ob_ok h
  refine oneOK_by mixed k16c_ok (objs := []) (fn := Try.f16) (b := (Try.f16).body.getD .skip) (by kernel_rfl) (by kernel_rfl) (by kernel_rfl) (AllP.of (l' := []) (by kernel_rfl) trivial) ((k16_eq x0).trans h1) fun v objs' hd => ?_
  unfold k16d at hd
  split at hd <;> cases hd <;> exact h2

theorem k16o_ok (o : Orc) (ho : OSound Try.prog o) : OSound Try.prog (k16o o) := by
  intro R f vs objs K r h
  replace h : (bif Nat.beq f 16 then k16a o vs objs K else o f vs objs K) = some r := h
  cases hf : Nat.beq f 16 with
  | false => rw [hf] at h; exact ho f vs objs K r h
  | true =>
    rw [hf] at h
    have e := Nat.eq_of_beq_eq_true hf
    subst e
    replace h : k16a o vs objs K = some r := h
    unfold k16a at h
    split at h
    · exact k16_ok _ rfl rfl h
    · exact ho _ _ _ _ _ h

def k6lp : {R : Type} → Nat → List V → List Obj → (Ex → List V → List Obj → Option R) → Option R := fun _ _ _ _ => none

def k6oo : Orc := (k16o (k15o (k9o oNil)))

theorem k6oo_ok : OSound Try.prog k6oo := (k16o_ok _ (k15o_ok _ (k9o_ok _ oNil_ok)))

def k6c : Ctx := { tab := tab, eqs := eqs, bytes := [], nt := 28, orc := k6oo, keeps := [], lp := k6lp }

theorem k6c_ok : CtxOK Try.prog k6c := ⟨tab_ok, k6oo_ok, eqs_ok⟩

def k6 (x0 : List Int) (x1 : List Int) : Option (Bool) :=
  ob (k9 ) fun r2 =>
  br (!r2)
   (some (false))
   (ob (k15 x0) fun r3 =>
   ob (k15 x1) fun r4 =>
   br (r3 == 0)
    (some (true))
    (br (r4 == 0)
     (some (true))
     (ob (k16 x0) fun r5 =>
     ob (k16 x1) fun r6 =>
     some ((r3 == r4) == (r5 == r6)))))

def k6d : V → List Obj → Option (Bool) := fun v objs => match v, objs with
  | Go.Kk.V.s (Go.Kk.S.b y0), [] => some (y0)
  | _, _ => none

theorem k6_eq (x0 : List Int) (x1 : List Int) : fnE k6c Try.f6 ([Go.Kk.V.agg [Go.Kk.Seg.arr Go.IntKind.i64 3 x0], Go.Kk.V.agg [Go.Kk.Seg.arr Go.IntKind.i64 3 x1]]) ([]) k6d = k6 x0 x1 := by kernel_rfl

def k6a {R : Type} (o : Orc) (vs : List V) (objs : List Obj) (K : V → List Obj → Option R) : Option R := match vs, objs with
  | [Go.Kk.V.agg [Go.Kk.Seg.arr Go.IntKind.i64 3 x0], Go.Kk.V.agg [Go.Kk.Seg.arr Go.IntKind.i64 3 x1]], [] => ob (k6 x0 x1) fun y0 => K (Go.Kk.V.s (Go.Kk.S.b y0)) ([])
  | _, _ => o 6 vs objs K

def k6o (o : Orc) : Orc := fun f vs objs K => bif Nat.beq f 6 then k6a o vs objs K else o f vs objs K

theorem k6_ok {vs : List V} {objs : List Obj} (x0 : List Int) (x1 : List Int) {R : Type} {K : V → List Obj → Option R} {r : R} (hv : vs = [Go.Kk.V.agg [Go.Kk.Seg.arr Go.IntKind.i64 3 x0], Go.Kk.V.agg [Go.Kk.Seg.arr Go.IntKind.i64 3 x1]]) (ho : objs = []) (h : ob (k6 x0 x1) (fun y0 => K (Go.Kk.V.s (Go.Kk.S.b y0)) ([])) = some r) :
    ∃ v objs', K v objs' = some r ∧ CallOK Try.prog 6 vs objs v objs' := by
  subst hv
  subst ho
  obtain ⟨t, h1, h2⟩ := ob_ok h
  refine oneOK_by mixed k6c_ok (objs := []) (fn := Try.f6) (b := (Try.f6).body.getD .skip) (by kernel_rfl) (by kernel_rfl) (by kernel_rfl) (AllP.of (l' := []) (by kernel_rfl) trivial) ((k6_eq x0 x1).trans h1) fun v objs' hd => ?_
  unfold k6d at hd
  split at hd <;> cases hd <;> exact h2

theorem k6o_ok (o : Orc) (ho : OSound Try.prog o) : OSound Try.prog (k6o o) := by
  intro R f vs objs K r h
  replace h : (bif Nat.beq f 6 then k6a o vs objs K else o f vs objs K) = some r := h
  cases hf : Nat.beq f 6 with
  | false => rw [hf] at h; exact ho f vs objs K r h
  | true =>
    rw [hf] at h
    have e := Nat.eq_of_beq_eq_true hf
    subst e
    replace h : k6a o vs objs K = some r := h
    unfold k6a at h
    split at h
    · exact k6_ok _ _ rfl rfl h
    · exact ho _ _ _ _ _ h

def k7lp : {R : Type} → Nat → List V → List Obj → (Ex → List V → List Obj → Option R) → Option R := fun _ _ _ _ => none

def k7oo : Orc := (k12o (k11o (k13o (k9o oNil))))

theorem k7oo_ok : OSound Try.prog k7oo := (k12o_ok _ (k11o_ok _ (k13o_ok _ (k9o_ok _ oNil_ok))))

def k7c : Ctx := { tab := tab, eqs := eqs, bytes := [], nt := 93, orc := k7oo, keeps := [], lp := k7lp }

theorem k7c_ok : CtxOK Try.prog k7c := ⟨tab_ok, k7oo_ok, eqs_ok⟩

def k7 (x0 : List Int) (x1 : List Int) (x2 : Int) (x3 : List Int) : Option (Bool) :=
  ob (k9 ) fun r4 =>
  br (!r4)
   (some (false))
   (br (decide (List.getD x3 0 0 < 0))
    (some (true))
    (br (decide (List.getD x3 0 0 > 1))
     (some (true))
     (br (decide (List.getD x3 1 0 < 1))
      (some (true))
      (br (decide (List.getD x3 1 0 > 7))
       (some (true))
       (br (decide (List.getD x3 2 0 < 0))
        (some (true))
        (br (decide (List.getD x3 2 0 > 18))
         (some (true))
         (br (x2 != 0)
          (br (x2 != 1)
           (some (true))
           (br (Go.Kk.inB (List.getD x3 0 0) 2)
            (br (Go.Kk.inB (List.getD x3 1 0) 8)
             (ob (k13 x0 (List.set x1 (Int.toNat (List.getD x3 0 0) * 8 + Int.toNat (List.getD x3 1 0))
  (Go.Kk.conv Go.IntKind.i64 Go.IntKind.i8 (List.getD x3 2 0))) x2) fun r5 =>
             ob (k13 x0 x1 x2) fun r6 =>
             br (Go.Kk.inB (List.getD x3 0 0) 2)
              (br (Go.Kk.inB (List.getD x3 1 0) 8)
               (ob (k11 (List.getD x3 0 0) (List.getD x3 1 0) (Go.Kk.conv Go.IntKind.i8 Go.IntKind.i64
  (List.getD x1 (Int.toNat (List.getD x3 0 0) * 8 + Int.toNat (List.getD x3 1 0)) 0))) fun r7 =>
               ob (k11 (List.getD x3 0 0) (List.getD x3 1 0) (List.getD x3 2 0)) fun r8 =>
               br (r5 == Go.Kk.bitop Go.BinOp.xor Go.IntKind.u64 (Go.Kk.bitop Go.BinOp.xor Go.IntKind.u64 r6 r7) r8)
                (ob (k13 x0 x1 (Go.IntKind.wrap Go.IntKind.i8 (1 - x2))) fun r9 =>
                ob (k13 x0 x1 x2) fun r10 =>
                ob (k12 ) fun r11 =>
                some (r9 == Go.Kk.bitop Go.BinOp.xor Go.IntKind.u64 r10 r11))
                (some (false)))
               (none))
              (none))
             (none))
            (none)))
          (br (Go.Kk.inB (List.getD x3 0 0) 2)
           (br (Go.Kk.inB (List.getD x3 1 0) 8)
            (ob (k13 x0 (List.set x1 (Int.toNat (List.getD x3 0 0) * 8 + Int.toNat (List.getD x3 1 0))
  (Go.Kk.conv Go.IntKind.i64 Go.IntKind.i8 (List.getD x3 2 0))) x2) fun r5 =>
            ob (k13 x0 x1 x2) fun r6 =>
            br (Go.Kk.inB (List.getD x3 0 0) 2)
             (br (Go.Kk.inB (List.getD x3 1 0) 8)
              (ob (k11 (List.getD x3 0 0) (List.getD x3 1 0) (Go.Kk.conv Go.IntKind.i8 Go.IntKind.i64
  (List.getD x1 (Int.toNat (List.getD x3 0 0) * 8 + Int.toNat (List.getD x3 1 0)) 0))) fun r7 =>
              ob (k11 (List.getD x3 0 0) (List.getD x3 1 0) (List.getD x3 2 0)) fun r8 =>
              br (r5 == Go.Kk.bitop Go.BinOp.xor Go.IntKind.u64 (Go.Kk.bitop Go.BinOp.xor Go.IntKind.u64 r6 r7) r8)
               (ob (k13 x0 x1 (Go.IntKind.wrap Go.IntKind.i8 (1 - x2))) fun r9 =>
               ob (k13 x0 x1 x2) fun r10 =>
               ob (k12 ) fun r11 =>
               some (r9 == Go.Kk.bitop Go.BinOp.xor Go.IntKind.u64 r10 r11))
               (some (false)))
              (none))
             (none))
            (none))
           (none)))))))))

def k7d : V → List Obj → Option (Bool) := fun v objs => match v, objs with
  | Go.Kk.V.s (Go.Kk.S.b y0), [] => some (y0)
  | _, _ => none

theorem k7_eq (x0 : List Int) (x1 : List Int) (x2 : Int) (x3 : List Int) : fnE k7c Try.f7 ([Go.Kk.V.agg
    [Go.Kk.Seg.arr Go.IntKind.i8 81 x0, Go.Kk.Seg.arr Go.IntKind.i8 16 x1, Go.Kk.Seg.one [Go.Kk.S.i Go.IntKind.i8 x2]],
  Go.Kk.V.agg [Go.Kk.Seg.arr Go.IntKind.i64 3 x3]]) ([]) k7d = k7 x0 x1 x2 x3 := by kernel_rfl

def k7a {R : Type} (o : Orc) (vs : List V) (objs : List Obj) (K : V → List Obj → Option R) : Option R := match vs, objs with
  | [Go.Kk.V.agg
    [Go.Kk.Seg.arr Go.IntKind.i8 81 x0, Go.Kk.Seg.arr Go.IntKind.i8 16 x1, Go.Kk.Seg.one [Go.Kk.S.i Go.IntKind.i8 x2]],
  Go.Kk.V.agg [Go.Kk.Seg.arr Go.IntKind.i64 3 x3]], [] => ob (k7 x0 x1 x2 x3) fun y0 => K (Go.Kk.V.s (Go.Kk.S.b y0)) ([])
  | _, _ => o 7 vs objs K

def k7o (o : Orc) : Orc := fun f vs objs K => bif Nat.beq f 7 then k7a o vs objs K else o f vs objs K

theorem k7_ok {vs : List V} {objs : List Obj} (x0 : List Int) (x1 : List Int) (x2 : Int) (x3 : List Int) {R : Type} {K : V → List Obj → Option R} {r : R} (hv : vs = [Go.Kk.V.agg
    [Go.Kk.Seg.arr Go.IntKind.i8 81 x0, Go.Kk.Seg.arr Go.IntKind.i8 16 x1, Go.Kk.Seg.one [Go.Kk.S.i Go.IntKind.i8 x2]],
  Go.Kk.V.agg [Go.Kk.Seg.arr Go.IntKind.i64 3 x3]]) (ho : objs = []) (h : ob (k7 x0 x1 x2 x3) (fun y0 => K (Go.Kk.V.s (Go.Kk.S.b y0)) ([])) = some r) :
    ∃ v objs', K v objs' = some r ∧ CallOK Try.prog 7 vs objs v objs' := by
  subst hv
  subst ho
  obtain ⟨t, h1, h2⟩ := ob_ok h
  refine oneOK_by mixed k7c_ok (objs := []) (fn := Try.f7) (b := (Try.f7).body.getD .skip) (by kernel_rfl) (by kernel_rfl) (by kernel_rfl) (AllP.of (l' := []) (by kernel_rfl) trivial) ((k7_eq x0 x1 x2 x3).trans h1) fun v objs' hd => ?_
  unfold k7d at hd
  split at hd <;> cases hd <;> exact h2

theorem k7o_ok (o : Orc) (ho : OSound Try.prog o) : OSound Try.prog (k7o o) := by
  intro R f vs objs K r h
  replace h : (bif Nat.beq f 7 then k7a o vs objs K else o f vs objs K) = some r := h
  cases hf : Nat.beq f 7 with
  | false => rw [hf] at h; exact ho f vs objs K r h
  | true =>
    rw [hf] at h
    have e := Nat.eq_of_beq_eq_true hf
    subst e
    replace h : k7a o vs objs K = some r := h
    unfold k7a at h
    split at h
    · exact k7_ok _ _ _ _ rfl rfl h
    · exact ho _ _ _ _ _ h

def k8lp : {R : Type} → Nat → List V → List Obj → (Ex → List V → List Obj → Option R) → Option R := fun _ _ _ _ => none

def k8oo : Orc := (k10o (k13o (k9o oNil)))

theorem k8oo_ok : OSound Try.prog k8oo := (k10o_ok _ (k13o_ok _ (k9o_ok _ oNil_ok)))

def k8c : Ctx := { tab := tab, eqs := eqs, bytes := [], nt := 127, orc := k8oo, keeps := [], lp := k8lp }

theorem k8c_ok : CtxOK Try.prog k8c := ⟨tab_ok, k8oo_ok, eqs_ok⟩

def k8 (x0 : List Int) (x1 : List Int) (x2 : Int) (x3 : Int) (x4 : Int) : Option (Bool) :=
  ob (k9 ) fun r5 =>
  br (!r5)
   (some (false))
   (br (decide (x3 < 0))
    (ob (k13 x0 x1 x2) fun r6 =>
    ob (k13 x0 x1 x2) fun r7 =>
    some (r6 == r7))
    (br (decide (x3 > 80))
     (ob (k13 x0 x1 x2) fun r6 =>
     ob (k13 x0 x1 x2) fun r7 =>
     some (r6 == r7))
     (br (decide (x4 < 0))
      (ob (k13 x0 x1 x2) fun r6 =>
      ob (k13 x0 x1 x2) fun r7 =>
      some (r6 == r7))
      (br (decide (x4 > 80))
       (ob (k13 x0 x1 x2) fun r6 =>
       ob (k13 x0 x1 x2) fun r7 =>
       some (r6 == r7))
       (br (Go.Kk.inB x4 81)
        (br (Go.Kk.inB x3 81)
         (br (Go.Kk.inB x3 81)
          (br (Go.Kk.inB x4 81)
           (br (Go.Kk.inB x4 81)
            (br (Go.Kk.inB x3 81)
             (br (Go.Kk.inB x3 81)
              (br (Go.Kk.inB x4 81)
               (br (Go.Kk.inB x3 81)
                (ob (k10 x3 (List.getD x0 (Int.toNat x3) 0)) fun r6 =>
                br (Go.Kk.inB x4 81)
                 (ob (k10 x4 (List.getD x0 (Int.toNat x4) 0)) fun r7 =>
                 br (Go.Kk.inB x4 81)
                  (ob (k10 x3 (List.getD x0 (Int.toNat x4) 0)) fun r8 =>
                  br (Go.Kk.inB x3 81)
                   (ob (k10 x4 (List.getD x0 (Int.toNat x3) 0)) fun r9 =>
                   br (List.set
      (List.set
        (List.set (List.set x0 (Int.toNat x3) (List.getD x0 (Int.toNat x4) 0)) (Int.toNat x4)
          (List.getD x0 (Int.toNat x3) 0))
        (Int.toNat x3)
        (List.getD
          (List.set (List.set x0 (Int.toNat x3) (List.getD x0 (Int.toNat x4) 0)) (Int.toNat x4)
            (List.getD x0 (Int.toNat x3) 0))
          (Int.toNat x4) 0))
      (Int.toNat x4)
      (List.getD
        (List.set (List.set x0 (Int.toNat x3) (List.getD x0 (Int.toNat x4) 0)) (Int.toNat x4)
          (List.getD x0 (Int.toNat x3) 0))
        (Int.toNat x3) 0) ==
    x0 &&
  (x1 == x1 && x2 == x2))
                    (ob (k13 (List.set
  (List.set
    (List.set (List.set x0 (Int.toNat x3) (List.getD x0 (Int.toNat x4) 0)) (Int.toNat x4)
      (List.getD x0 (Int.toNat x3) 0))
    (Int.toNat x3)
    (List.getD
      (List.set (List.set x0 (Int.toNat x3) (List.getD x0 (Int.toNat x4) 0)) (Int.toNat x4)
        (List.getD x0 (Int.toNat x3) 0))
      (Int.toNat x4) 0))
  (Int.toNat x4)
  (List.getD
    (List.set (List.set x0 (Int.toNat x3) (List.getD x0 (Int.toNat x4) 0)) (Int.toNat x4)
      (List.getD x0 (Int.toNat x3) 0))
    (Int.toNat x3) 0)) x1 x2) fun r10 =>
                    ob (k13 x0 x1 x2) fun r11 =>
                    br (r10 == r11)
                     (ob (k13 (List.set (List.set x0 (Int.toNat x3) (List.getD x0 (Int.toNat x4) 0)) (Int.toNat x4) (List.getD x0 (Int.toNat x3) 0)) x1 x2) fun r12 =>
                     ob (k13 x0 x1 x2) fun r13 =>
                     br (Go.Kk.bitop Go.BinOp.xor Go.IntKind.u64 r12 r13 ==
  Go.Kk.bitop Go.BinOp.xor Go.IntKind.u64
    (Go.Kk.bitop Go.BinOp.xor Go.IntKind.u64 (Go.Kk.bitop Go.BinOp.xor Go.IntKind.u64 r6 r7) r8) r9)
                      (br (x3 != x4)
                       (br (Go.Kk.inB x3 81)
                        (br (Go.Kk.inB x4 81)
                         (br (List.getD x0 (Int.toNat x3) 0 != List.getD x0 (Int.toNat x4) 0)
                          (some (true))
                          (some (Go.Kk.bitop Go.BinOp.xor Go.IntKind.u64
    (Go.Kk.bitop Go.BinOp.xor Go.IntKind.u64 (Go.Kk.bitop Go.BinOp.xor Go.IntKind.u64 r6 r7) r8) r9 ==
  0)))
                         (none))
                        (none))
                       (some (Go.Kk.bitop Go.BinOp.xor Go.IntKind.u64
    (Go.Kk.bitop Go.BinOp.xor Go.IntKind.u64 (Go.Kk.bitop Go.BinOp.xor Go.IntKind.u64 r6 r7) r8) r9 ==
  0)))
                      (some (false)))
                     (some (false)))
                    (some (false)))
                   (none))
                  (none))
                 (none))
                (none))
               (none))
              (none))
             (none))
            (none))
           (none))
          (none))
         (none))
        (none))))))

def k8d : V → List Obj → Option (Bool) := fun v objs => match v, objs with
  | Go.Kk.V.s (Go.Kk.S.b y0), [] => some (y0)
  | _, _ => none

theorem k8_eq (x0 : List Int) (x1 : List Int) (x2 : Int) (x3 : Int) (x4 : Int) : fnE k8c Try.f8 ([Go.Kk.V.agg
    [Go.Kk.Seg.arr Go.IntKind.i8 81 x0, Go.Kk.Seg.arr Go.IntKind.i8 16 x1, Go.Kk.Seg.one [Go.Kk.S.i Go.IntKind.i8 x2]],
  Go.Kk.V.s (Go.Kk.S.i Go.IntKind.i64 x3), Go.Kk.V.s (Go.Kk.S.i Go.IntKind.i64 x4)]) ([]) k8d = k8 x0 x1 x2 x3 x4 := by kernel_rfl

def k8a {R : Type} (o : Orc) (vs : List V) (objs : List Obj) (K : V → List Obj → Option R) : Option R := match vs, objs with
  | [Go.Kk.V.agg
    [Go.Kk.Seg.arr Go.IntKind.i8 81 x0, Go.Kk.Seg.arr Go.IntKind.i8 16 x1, Go.Kk.Seg.one [Go.Kk.S.i Go.IntKind.i8 x2]],
  Go.Kk.V.s (Go.Kk.S.i Go.IntKind.i64 x3), Go.Kk.V.s (Go.Kk.S.i Go.IntKind.i64 x4)], [] => ob (k8 x0 x1 x2 x3 x4) fun y0 => K (Go.Kk.V.s (Go.Kk.S.b y0)) ([])
  | _, _ => o 8 vs objs K

def k8o (o : Orc) : Orc := fun f vs objs K => bif Nat.beq f 8 then k8a o vs objs K else o f vs objs K

theorem k8_ok {vs : List V} {objs : List Obj} (x0 : List Int) (x1 : List Int) (x2 : Int) (x3 : Int) (x4 : Int) {R : Type} {K : V → List Obj → Option R} {r : R} (hv : vs = [Go.Kk.V.agg
    [Go.Kk.Seg.arr Go.IntKind.i8 81 x0, Go.Kk.Seg.arr Go.IntKind.i8 16 x1, Go.Kk.Seg.one [Go.Kk.S.i Go.IntKind.i8 x2]],
  Go.Kk.V.s (Go.Kk.S.i Go.IntKind.i64 x3), Go.Kk.V.s (Go.Kk.S.i Go.IntKind.i64 x4)]) (ho : objs = []) (h : ob (k8 x0 x1 x2 x3 x4) (fun y0 => K (Go.Kk.V.s (Go.Kk.S.b y0)) ([])) = some r) :
    ∃ v objs', K v objs' = some r ∧ CallOK Try.prog 8 vs objs v objs' := by
  subst hv
  subst ho
  obtain ⟨t, h1, h2⟩ := ob_ok h
  refine oneOK_by mixed k8c_ok (objs := []) (fn := Try.f8) (b := (Try.f8).body.getD .skip) (by kernel_rfl) (by kernel_rfl) (by kernel_rfl) (AllP.of (l' := []) (by kernel_rfl) trivial) ((k8_eq x0 x1 x2 x3 x4).trans h1) fun v objs' hd => ?_
  unfold k8d at hd
  split at hd <;> cases hd <;> exact h2

theorem k8o_ok (o : Orc) (ho : OSound Try.prog o) : OSound Try.prog (k8o o) := by
  intro R f vs objs K r h
  replace h : (bif Nat.beq f 8 then k8a o vs objs K else o f vs objs K) = some r := h
  cases hf : Nat.beq f 8 with
  | false => rw [hf] at h; exact ho f vs objs K r h
  | true =>
    rw [hf] at h
    have e := Nat.eq_of_beq_eq_true hf
    subst e
    replace h : k8a o vs objs K = some r := h
    unfold k8a at h
    split at h
    · exact k8_ok _ _ _ _ _ rfl rfl h
    · exact ho _ _ _ _ _ h
end Go.Kk.KkKey
