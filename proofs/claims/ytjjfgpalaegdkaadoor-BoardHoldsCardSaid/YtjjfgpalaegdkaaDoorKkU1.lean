/- What the program's functions come to, told plainly: the texts of this project that this claim leans on, cut down to what is used. -/
import Derived.Test.YtjjfgpalaegdkaaDoorKkPl
import Derived.Test.YtjjfgpalaegdkaaDoorKkO
namespace Go.Kk.Pl
theorem br_true {α : Type} {b : Bool} {x y : α} (h : b = true) : br b x y = x := by subst h; rfl
theorem br_false {α : Type} {b : Bool} {x y : α} (h : b = false) : br b x y = y := by subst h; rfl
theorem br_if {α : Type} (b : Bool) (x y : α) : br b x y = if b = true then x else y := by cases b <;> rfl
theorem ob_some {α β : Type} (a : α) (k : α → Option β) : ob (some a) k = k a := rfl
theorem sw_inr {α β γ : Type} (a : β) (f : α → Option γ) (g : β → Option γ) : sw (.inr a) f g = g a := rfl
theorem wrap64 {n : Int} (h1 : -9223372036854775808 ≤ n) (h2 : n ≤ 9223372036854775807) : IntKind.wrap .i64 n = n := wrap_of_range h1 h2
theorem wrap_small {n : Int} (h1 : -1000000000 ≤ n) (h2 : n ≤ 1000000000) : IntKind.wrap .i64 n = n := wrap64 (by omega) (by omega)
theorem inB_true {x : Int} {n : Nat} (h1 : 0 ≤ x) (h2 : x < n) : inB x n = true := by simp [inB, h1, h2]
theorem many_eq (n : Nat) (h : n ≤ 1000000) : ∃ f, many = f + n + 1 := ⟨many - n - 1, by unfold many; omega⟩
end Go.Kk.Pl
namespace Go.Kk.Pl
def bitsN (f : Nat → Bool) : Nat → Nat
 | 0 => 0
 | n + 1 => bitsN f n + bif f n then 2 ^ n else 0
theorem bitsN_lt (f : Nat → Bool) : ∀ n, bitsN f n < 2 ^ n
 | 0 => Nat.one_pos
 | n + 1 => by
   have := bitsN_lt f n
   simp only [bitsN]
   rw [Nat.pow_succ]
   cases f n <;> simp <;> omega
theorem bitsN_bit (f : Nat → Bool) : ∀ n i, (bitsN f n).testBit i = (decide (i < n) && f i)
 | 0, i => by simp [bitsN]
 | n + 1, i => by
   have ih := bitsN_bit f n
   have hlt := bitsN_lt f n
   have e : bitsN f (n + 1) = 2 ^ n * (f n).toNat + bitsN f n := by
    simp only [bitsN]
    cases f n <;> simp [Nat.add_comm]
   rw [e, Nat.testBit_two_pow_mul_add _ hlt]
   by_cases h : i < n
   ·rw [if_pos h, ih i]
    simp [h, show i < n + 1 by omega]
   ·rw [if_neg h]
    by_cases h2 : i = n
    ·subst h2
     simp only [Nat.sub_self, Nat.lt_succ_self, decide_true, Bool.true_and]
     cases f i <;> rfl
    ·rw [show decide (i < n + 1) = false by simp; omega, Bool.false_and]
     have : 1 ≤ i - n := by omega
     obtain ⟨k, hk⟩ : ∃ k, i - n = k + 1 := ⟨i - n - 1, by omega⟩
     rw [hk]
     cases f n
     ·simp
     ·show Nat.testBit 1 (k + 1) = false
      rw [Nat.testBit_succ]; simp
theorem bitsN_congr {f g : Nat → Bool} : ∀ {n : Nat}, (∀ i, i < n → f i = g i) → bitsN f n = bitsN g n
 | 0, _ => rfl
 | n + 1, h => by
   simp only [bitsN]
   rw [bitsN_congr fun i hi => h i (by omega), h n (by omega)]
theorem bitsN_inj {f g : Nat → Bool} {n : Nat} (h : bitsN f n = bitsN g n) : ∀ i, i < n → f i = g i := by
 intro i hi
 have h1 := bitsN_bit f n i
 have h2 := bitsN_bit g n i
 rw [h, h2] at h1
 simpa [hi] using h1.symm
theorem bitsN_eq {f : Nat → Bool} {n x : Nat} (hx : x < 2 ^ n) (h : ∀ i, i < n → x.testBit i = f i) : x = bitsN f n := by
 apply Nat.eq_of_testBit_eq
 intro i
 rw [bitsN_bit]
 by_cases hi : i < n
 ·simp [hi, h i hi]
 ·rw [show decide (i < n) = false by simp [hi], Bool.false_and]
  exact Nat.testBit_lt_two_pow (Nat.lt_of_lt_of_le hx (Nat.pow_le_pow_right (by omega) (by omega)))
theorem wrap_nat {n : Nat} (h : n < 2 ^ 64) : IntKind.wrap .u64 (n : Int) = n := by
 refine wrap_of_range ?_ ?_ <;> simp [IntKind.min, IntKind.max, IntKind.signed, IntKind.bits] <;> omega
theorem ofInt_nat (a : Nat) : BitVec.ofInt 64 (a : Int) = BitVec.ofNat 64 a := by simp
theorem bitop_and {a b : Nat} (ha : a < 2 ^ 64) (hb : b < 2 ^ 64) : bitop .and .u64 (a : Int) (b : Int) = ((a &&& b : Nat) : Int) := by
 unfold bitop
 show IntKind.wrap .u64 _ = _
 rw [show IntKind.bits .u64 = 64 from rfl, ofInt_nat, ofInt_nat, BitVec.toNat_and, BitVec.toNat_ofNat, BitVec.toNat_ofNat, Nat.mod_eq_of_lt ha, Nat.mod_eq_of_lt hb]
 exact wrap_nat (Nat.lt_of_le_of_lt Nat.and_le_left ha)
theorem bitop_or {a b : Nat} (ha : a < 2 ^ 64) (hb : b < 2 ^ 64) : bitop .or .u64 (a : Int) (b : Int) = ((a ||| b : Nat) : Int) := by
 unfold bitop
 show IntKind.wrap .u64 _ = _
 rw [show IntKind.bits .u64 = 64 from rfl, ofInt_nat, ofInt_nat, BitVec.toNat_or, BitVec.toNat_ofNat, BitVec.toNat_ofNat, Nat.mod_eq_of_lt ha, Nat.mod_eq_of_lt hb]
 exact wrap_nat (Nat.or_lt_two_pow ha hb)
theorem bitop_andNot {a b : Nat} (ha : a < 2 ^ 64) (hb : b < 2 ^ 64) : bitop .andNot .u64 (a : Int) (b : Int) = ((a &&& (2 ^ 64 - (b + 1)) : Nat) : Int) := by
 unfold bitop
 show IntKind.wrap .u64 _ = _
 rw [show IntKind.bits .u64 = 64 from rfl, ofInt_nat, ofInt_nat, BitVec.toNat_and, BitVec.toNat_not, BitVec.toNat_ofNat, BitVec.toNat_ofNat, Nat.mod_eq_of_lt ha, Nat.mod_eq_of_lt hb]
 rw [show 2 ^ 64 - 1 - b = 2 ^ 64 - (b + 1) by omega]
 exact wrap_nat (Nat.lt_of_le_of_lt Nat.and_le_left ha)
theorem lt64 (f : Nat → Bool) {n : Nat} (h : n ≤ 64) : bitsN f n < 2 ^ 64 := Nat.lt_of_lt_of_le (bitsN_lt f n) (Nat.pow_le_pow_right (by omega) h)
theorem and_bits (f g : Nat → Bool) {n : Nat} (h : n ≤ 64) : bitop .and .u64 (bitsN f n : Nat) (bitsN g n : Nat) = (bitsN (fun i => f i && g i) n : Nat) := by
 rw [bitop_and (lt64 f h) (lt64 g h)]
 congr 1
 refine bitsN_eq (Nat.lt_of_le_of_lt Nat.and_le_left (bitsN_lt f n)) fun i hi => ?_
 rw [Nat.testBit_and, bitsN_bit, bitsN_bit]
 simp [hi]
theorem or_bits (f g : Nat → Bool) {n : Nat} (h : n ≤ 64) : bitop .or .u64 (bitsN f n : Nat) (bitsN g n : Nat) = (bitsN (fun i => f i || g i) n : Nat) := by
 rw [bitop_or (lt64 f h) (lt64 g h)]
 congr 1
 refine bitsN_eq (Nat.or_lt_two_pow (bitsN_lt f n) (bitsN_lt g n)) fun i hi => ?_
 rw [Nat.testBit_or, bitsN_bit, bitsN_bit]
 simp [hi]
theorem andNot_bits (f g : Nat → Bool) {n : Nat} (h : n ≤ 64) : bitop .andNot .u64 (bitsN f n : Nat) (bitsN g n : Nat) = (bitsN (fun i => f i && !g i) n : Nat) := by
 rw [bitop_andNot (lt64 f h) (lt64 g h)]
 congr 1
 refine bitsN_eq (Nat.lt_of_le_of_lt Nat.and_le_left (bitsN_lt f n)) fun i hi => ?_
 rw [Nat.testBit_and, bitsN_bit, Nat.testBit_two_pow_sub_succ (lt64 g h), bitsN_bit]
 simp [hi, show i < 64 by omega]
def sLo (f : Nat → Bool) : Int := (bitsN f 63 : Nat)
def sHi (f : Nat → Bool) : Int := (bitsN (fun i => f (63 + i)) 18 : Nat)
def only (q : Int) (i : Nat) : Bool := decide ((i : Int) = q)
def has (f : Nat → Bool) (q : Int) : Bool := decide (0 ≤ q) && (decide (q < 81) && f q.toNat)
def isE (f : Nat → Bool) : Bool := (List.range 81).all fun i => !f i
theorem set_congr {f g : Nat → Bool} (h : ∀ i, i < 81 → f i = g i) : sLo f = sLo g ∧ sHi f = sHi g := by
 unfold sLo sHi
 rw [bitsN_congr (f := f) (g := g) fun i hi => h i (by omega), bitsN_congr (f := fun i => f (63 + i)) (g := fun i => g (63 + i)) fun i hi => h _ (by omega)]
 exact ⟨rfl, rfl⟩
theorem set_inj {f g : Nat → Bool} (h1 : sLo f = sLo g) (h2 : sHi f = sHi g) : ∀ i, i < 81 → f i = g i := by
 intro i hi
 unfold sLo at h1
 unfold sHi at h2
 by_cases h : i < 63
 ·exact bitsN_inj (Int.ofNat.inj h1) i h
 ·have := bitsN_inj (Int.ofNat.inj h2) (i - 63) (by omega)
  simpa [show 63 + (i - 63) = i by omega] using this
theorem set_beq (f g : Nat → Bool) : (sLo f == sLo g && sHi f == sHi g) = (List.range 81).all fun i => f i == g i := by
 rw [Bool.eq_iff_iff]
 simp only [Bool.and_eq_true, beq_iff_eq, List.all_eq_true, List.mem_range]
 exact ⟨fun h i hi => set_inj h.1 h.2 i hi, fun h => set_congr h⟩
theorem bitsN_false : ∀ n, bitsN (fun _ => false) n = 0
 | 0 => rfl
 | n + 1 => by simp [bitsN, bitsN_false n]
theorem sLo_false : sLo (fun _ => false) = 0 := by unfold sLo; rw [bitsN_false]; rfl
theorem sHi_false : sHi (fun _ => false) = 0 := by unfold sHi; rw [bitsN_false]; rfl
theorem empty_beq (f : Nat → Bool) : (sLo f == 0 && sHi f == 0) = isE f := by
 have := set_beq f fun _ => false
 rw [sLo_false, sHi_false] at this
 rw [this]
 unfold isE
 congr 1
 funext i
 cases f i <;> rfl
theorem isE_iff {f : Nat → Bool} : isE f = true ↔ ∀ i, i < 81 → f i = false := by simp [isE]
theorem bit_all : ∀ q : Fin 81, set_bit ((q.val : Nat) : Int) = some (sLo (only ((q.val : Nat) : Int)), sHi (only ((q.val : Nat) : Int))) := by decide +kernel
theorem only_out {q : Int} (h : ¬ (0 ≤ q ∧ q < 81)) : sLo (only q) = 0 ∧ sHi (only q) = 0 := by
 have h := set_congr (f := only q) (g := fun _ => false) fun i hi => by unfold only; simp; omega
 rw [sLo_false, sHi_false] at h
 exact h
theorem bit_val (q : Int) : set_bit q = some (sLo (only q), sHi (only q)) := by
 by_cases h : 0 ≤ q ∧ q < 81
 ·have := bit_all ⟨q.toNat, by omega⟩
  simpa [show ((q.toNat : Nat) : Int) = q by omega] using this
 ·obtain ⟨h1, h2⟩ := only_out h
  rw [h1, h2]
  unfold set_bit
  by_cases h0 : q < 0
  ·rw [br_true (by simpa using h0)]
  ·rw [br_false (by simpa using h0), br_true (by simp; omega)]
theorem or_val (f g : Nat → Bool) : set_Or (sLo f) (sHi f) (sLo g) (sHi g) = some (sLo fun i => f i || g i, sHi fun i => f i || g i) := by
 unfold set_Or sLo sHi
 rw [or_bits _ _ (by omega), or_bits _ _ (by omega)]
theorem and_val (f g : Nat → Bool) : set_And (sLo f) (sHi f) (sLo g) (sHi g) = some (sLo fun i => f i && g i, sHi fun i => f i && g i) := by
 unfold set_And sLo sHi
 rw [and_bits _ _ (by omega), and_bits _ _ (by omega)]
theorem minus_val (f g : Nat → Bool) : set_Minus (sLo f) (sHi f) (sLo g) (sHi g) = some (sLo fun i => f i && !g i, sHi fun i => f i && !g i) := by
 unfold set_Minus sLo sHi
 rw [andNot_bits _ _ (by omega), andNot_bits _ _ (by omega)]
theorem with_val (f : Nat → Bool) (q : Int) : set_With (sLo f) (sHi f) q = some (sLo fun i => f i || only q i, sHi fun i => f i || only q i) := by
 unfold set_With
 rw [bit_val, ob_some]
 simp only
 rw [or_val, ob_some]
theorem without_val (f : Nat → Bool) (q : Int) : set_Without (sLo f) (sHi f) q = some (sLo fun i => f i && !only q i, sHi fun i => f i && !only q i) := by
 unfold set_Without
 rw [bit_val, ob_some]
 simp only
 rw [minus_val, ob_some]
theorem empty_val (f : Nat → Bool) : set_Empty (sLo f) (sHi f) = some (isE f) := by
 unfold set_Empty
 rw [empty_beq]
theorem has_val (f : Nat → Bool) (q : Int) : set_Has (sLo f) (sHi f) q = some (has f q) := by
 unfold set_Has
 rw [bit_val, ob_some]
 simp only
 rw [and_val, ob_some]
 simp only
 rw [empty_val, ob_some]
 congr 1
 rw [Bool.eq_iff_iff]
 unfold has
 simp only [Bool.not_eq_true', Bool.and_eq_true, decide_eq_true_eq]
 constructor
 ·intro h
  rw [Bool.eq_false_iff] at h
  simp only [ne_eq, isE_iff] at h
  by_cases hq : 0 ≤ q ∧ q < 81
  ·refine ⟨hq.1, hq.2, ?_⟩
   by_cases hf : f q.toNat = true
   ·exact hf
   ·refine absurd (fun i hi => ?_) h
    unfold only
    by_cases hiq : (i : Int) = q
    ·have : i = q.toNat := by omega
     subst this
     simp at hf
     simp [hf]
    ·simp [hiq]
  ·refine absurd (fun i hi => ?_) h
   unfold only
   have : ¬ (i : Int) = q := by omega
   simp [this]
 ·intro ⟨h0, h1, h2⟩
  rw [Bool.eq_false_iff]
  simp only [ne_eq, isE_iff]
  intro h
  have := h q.toNat (by omega)
  simp [only, h2, show max q 0 = q by omega] at this
end Go.Kk.Pl
namespace Go.Kk.Pl
theorem least {p : Nat → Bool} {j n : Nat} (h : ∃ i, j ≤ i ∧ i < n ∧ p i = true) : ∃ k, j ≤ k ∧ k < n ∧ p k = true ∧ ∀ i, j ≤ i → i < k → p i = false := by
 obtain ⟨i, h1, h2, h3⟩ := h
 induction hd : i - j generalizing i j with
 | zero => exact ⟨i, h1, h2, h3, fun x a b => by omega⟩
 | succ d ih =>
   cases hp : p j with
   | true => exact ⟨j, Nat.le_refl _, by omega, hp, fun x a b => by omega⟩
   | false =>
     obtain ⟨k, a, b, c, e⟩ := ih (j := j + 1) i (by omega) h2 h3 (by omega)
     refine ⟨k, by omega, b, c, fun x a' b' => ?_⟩
     by_cases hx : x = j
     ·subst hx; exact hp
     ·exact e x (by omega) b'
section
variable {f : Nat → Bool} {n k : Nat} (hk : k < n) (hf : f k = true) (hl : ∀ i, i < k → f i = false)
include hk hf hl
theorem low_split : bitsN f n = 2 ^ (k + 1) * (bitsN f n / 2 ^ (k + 1)) + 2 ^ k := by
 have h1 := Nat.div_add_mod (bitsN f n) (2 ^ (k + 1))
 have h2 : bitsN f n % 2 ^ (k + 1) = 2 ^ k := by
  apply Nat.eq_of_testBit_eq
  intro i
  rw [Nat.testBit_mod_two_pow, bitsN_bit, Nat.testBit_two_pow]
  by_cases h : i < k
  ·rw [hl i h]; simp; omega
  ·by_cases h3 : i = k
   ·subst h3; simp [hf, hk]
   ·rw [show decide (i < k + 1) = false by simp; omega, Bool.false_and]; simp; omega
 omega
theorem low_pred (i : Nat) : (bitsN f n - 1).testBit i = if i < k then true else if i = k then false else (bitsN f n).testBit i := by
 have h := low_split hk hf hl
 have hp : 0 < 2 ^ k := Nat.two_pow_pos k
 have h2 : bitsN f n - 1 = 2 ^ (k + 1) * (bitsN f n / 2 ^ (k + 1)) + (2 ^ k - 1) := by omega
 have hlt : 2 ^ k - 1 < 2 ^ (k + 1) := by rw [Nat.pow_succ]; omega
 have hlt2 : 2 ^ k < 2 ^ (k + 1) := by rw [Nat.pow_succ]; omega
 rw [h2, Nat.testBit_two_pow_mul_add _ hlt, Nat.testBit_two_pow_sub_one]
 by_cases h3 : i < k
 ·simp [h3, show i < k + 1 by omega]
 ·by_cases h4 : i = k
  ·subst h4; simp
  ·rw [if_neg (by omega), if_neg h3, if_neg h4]
   conv => rhs; rw [h, Nat.testBit_two_pow_mul_add _ hlt2, if_neg (by omega)]
theorem low_pos : 0 < bitsN f n := by
 have := low_split hk hf hl
 have hp : 0 < 2 ^ k := Nat.two_pow_pos k
 omega
theorem low_bit (hn : n ≤ 64) : bitsN f n &&& (2 ^ 64 - bitsN f n) = 2 ^ k := by
 have hpos := low_pos hk hf hl
 apply Nat.eq_of_testBit_eq
 intro i
 have e : 2 ^ 64 - bitsN f n = 2 ^ 64 - ((bitsN f n - 1) + 1) := by omega
 have hlt := lt64 f hn
 rw [Nat.testBit_and, e, Nat.testBit_two_pow_sub_succ (by omega), low_pred hk hf hl, Nat.testBit_two_pow]
 by_cases h3 : i < k
 ·rw [if_pos h3]; simp; omega
 ·by_cases h4 : i = k
  ·subst h4
   rw [bitsN_bit]
   simp [hf, hk]; omega
  ·rw [if_neg h3, if_neg h4]
   cases (bitsN f n).testBit i <;> simp <;> omega
end
theorem tz_all : ∀ k : Fin 64, inB (Int.fdiv (IntKind.wrap IntKind.u64 (((2 ^ k.val : Nat) : Int) * 285870213051353865)) 288230376151711744) 64 = true ∧
  conv IntKind.u8 IntKind.i64 (List.getD [0, 1, 56, 2, 57, 49, 28, 3, 61, 58, 42, 50, 38, 29, 17, 4, 62, 47, 59, 36, 45, 43, 51, 22, 53, 39, 33, 30, 24, 18, 12, 5, 63, 55, 48, 27, 60, 41, 37, 16, 46, 35, 44, 21, 52, 32, 23, 11, 54, 26, 40, 15, 34, 20, 31, 10, 25, 14, 19, 9, 13, 8, 7, 6] (Int.toNat (Int.fdiv (IntKind.wrap IntKind.u64 (((2 ^ k.val : Nat) : Int) * 285870213051353865)) 288230376151711744)) 0) = ((k.val : Nat) : Int) := by decide +kernel
theorem neg_nat {x : Nat} (h0 : 0 < x) (h1 : x < 2 ^ 64) : IntKind.wrap .u64 (0 - (x : Int)) = ((2 ^ 64 - x : Nat) : Int) := by
 have : (0 - (x : Int)) % 18446744073709551616 = 18446744073709551616 - x := by omega
 simp only [IntKind.wrap, IntKind.signed, IntKind.bits]
 simp
 omega
theorem tz_val {f : Nat → Bool} {n k : Nat} (hn : n ≤ 64) (hk : k < n) (hf : f k = true) (hl : ∀ i, i < k → f i = false) : bits_TrailingZeros64 (bitsN f n : Nat) = some (k : Int) := by
 have hpos := low_pos hk hf hl
 have hlt := lt64 f hn
 unfold bits_TrailingZeros64 bits_TrailingZeros64b
 rw [br_false (by simp; omega), neg_nat hpos hlt, bitop_and hlt (by omega), low_bit hk hf hl hn]
 obtain ⟨a, b⟩ := tz_all ⟨k, by omega⟩
 simp only at a b
 rw [br_true a, b]
theorem bits_zero {f : Nat → Bool} {n : Nat} : bitsN f n = 0 ↔ ∀ i, i < n → f i = false := by
 constructor
 ·intro h i hi
  have := bitsN_bit f n i
  rw [h] at this
  simpa [hi] using this.symm
 ·intro h
  rw [bitsN_congr (g := fun _ => false) h, bitsN_false]
def fst (f : Nat → Bool) : Int := match (List.range 81).find? f with
 | some i => i
 | none => -1
theorem fst_some {f : Nat → Bool} {k : Nat} (hk : k < 81) (hf : f k = true) (hl : ∀ i, i < k → f i = false) : fst f = k := by
 unfold fst
 have : (List.range 81).find? f = some k := by
  rw [List.find?_eq_some_iff_getElem]
  exact ⟨hf, k, by simpa using hk, by simp, fun j hj => by simp [hl j hj]⟩
 rw [this]
theorem fst_none {f : Nat → Bool} (h : ∀ i, i < 81 → f i = false) : fst f = -1 := by
 unfold fst
 have : (List.range 81).find? f = none := by simpa using h
 rw [this]
theorem first_val (f : Nat → Bool) : set_First (sLo f) (sHi f) = some (fst f) := by
 unfold set_First
 by_cases h : ∃ i, 0 ≤ i ∧ i < 63 ∧ f i = true
 ·obtain ⟨k, _, hk, hf, hl⟩ := least h
  have hpos := low_pos hk hf fun i hi => hl i (Nat.zero_le _) hi
  rw [br_true (by unfold sLo; simp; omega)]
  unfold sLo
  rw [tz_val (by omega) hk hf fun i hi => hl i (Nat.zero_le _) hi, ob_some, fst_some (by omega) hf fun i hi => hl i (Nat.zero_le _) hi]
 ·have h1 : ∀ i, i < 63 → f i = false := fun i hi => by
   cases hf : f i with
   | false => rfl
   | true => exact absurd ⟨i, Nat.zero_le _, hi, hf⟩ h
  rw [br_false (by unfold sLo; rw [bits_zero.2 h1]; rfl)]
  by_cases h2 : ∃ i, 0 ≤ i ∧ i < 18 ∧ f (63 + i) = true
  ·obtain ⟨k, _, hk, hf, hl⟩ := least (p := fun i => f (63 + i)) h2
   have hpos := low_pos (f := fun i => f (63 + i)) hk hf fun i hi => hl i (Nat.zero_le _) hi
   rw [br_true (by unfold sHi; simp; omega)]
   unfold sHi
   rw [tz_val (f := fun i => f (63 + i)) (by omega) hk hf fun i hi => hl i (Nat.zero_le _) hi, ob_some, wrap_small (by omega) (by omega), fst_some (k := 63 + k) (by omega) hf fun i hi => ?_]
   ·simp
   ·by_cases hi2 : i < 63
    ·exact h1 i hi2
    ·have := hl (i - 63) (Nat.zero_le _) (by omega)
     simpa [show 63 + (i - 63) = i by omega] using this
  ·have h3 : ∀ i, i < 18 → f (63 + i) = false := fun i hi => by
    cases hf : f (63 + i) with
    | false => rfl
    | true => exact absurd ⟨i, Nat.zero_le _, hi, hf⟩ h2
   rw [br_false (by unfold sHi; rw [bits_zero.2 h3]; rfl), fst_none]
   intro i hi
   by_cases hi2 : i < 63
   ·exact h1 i hi2
   ·have := h3 (i - 63) (by omega)
    simpa [show 63 + (i - 63) = i by omega] using this
def sq (f : Nat → Bool) : List Int := ((List.range 81).filter f).map Int.ofNat
end Go.Kk.Pl
namespace Go.Kk.Pl
def mask (c : Nat) : Nat → Nat
 | 0 => 0
 | k + 1 => c + 256 * mask c k
def w1 (k x : Nat) : Nat := ((x / 2) &&& mask 85 k) + (x &&& mask 85 k)
def w2 (k x : Nat) : Nat := ((x / 4) &&& mask 51 k) + (x &&& mask 51 k)
def y1 (b : Nat) : Nat := ((b / 2) &&& 85) + (b &&& 85)
def y2 (b : Nat) : Nat := ((b / 4) &&& 51) + (b &&& 51)
def y3 (b : Nat) : Nat := (b / 16 + b) &&& 15
end Go.Kk.Pl
namespace Go.Kk.Pl
end Go.Kk.Pl
namespace Go.Kk.Pl
def kd (x : Int) : Int := if x < 1 ∨ 31 < x ∨ x = 13 ∨ x = 16 ∨ x = 29 then 0 else x % 16
def sd (x : Int) : Int := if kd x = 0 then -1 else if x < 16 then 0 else 1
theorem fin32 {x : Int} (h0 : 0 ≤ x) (h1 : x ≤ 31) : ∃ n : Fin 32, x = ((n.val : Nat) : Int) := ⟨⟨x.toNat, by omega⟩, by simp; omega⟩
theorem kind_all : ∀ n : Fin 32, piece_Kind ((n.val : Nat) : Int) = some (kd ((n.val : Nat) : Int)) := by decide +kernel
theorem refKind_all : ∀ n : Fin 32, ref02_Kind ((n.val : Nat) : Int) = some (kd ((n.val : Nat) : Int)) := by decide +kernel
theorem kind_val (x : Int) : piece_Kind x = some (kd x) := by
 by_cases h0 : 0 ≤ x
 ·by_cases h1 : x ≤ 31
  ·obtain ⟨n, rfl⟩ := fin32 h0 h1
   exact kind_all n
  ·unfold piece_Kind
   rw [br_false (by simp; omega), br_true (by simp; omega), br_false (by simp; omega), br_false (by simp; omega)]
   unfold kd
   rw [if_pos (by omega)]
 ·unfold piece_Kind
  rw [br_true (by simp; omega), br_false (by simp; omega), br_false (by simp; omega)]
  unfold kd
  rw [if_pos (by omega)]
theorem refKind_val (x : Int) : ref02_Kind x = some (kd x) := by
 by_cases h0 : 0 ≤ x
 ·by_cases h1 : x ≤ 31
  ·obtain ⟨n, rfl⟩ := fin32 h0 h1
   exact refKind_all n
  ·unfold ref02_Kind
   rw [br_false (by simp; omega), br_true (by simp; omega)]
   unfold kd
   rw [if_pos (by omega)]
 ·unfold ref02_Kind
  rw [br_true (by simp; omega)]
  unfold kd
  rw [if_pos (by omega)]
theorem side_val (x : Int) : piece_Side x = some (sd x) := by
 unfold piece_Side
 rw [kind_val, ob_some]
 unfold sd
 by_cases h : kd x = 0
 ·rw [br_true (by simp [h]), if_pos h]
 ·rw [br_false (by simpa using h), if_neg h]
  by_cases h2 : x < 16
  ·rw [br_true (by simpa using h2), if_pos h2]
  ·rw [br_false (by simpa using h2), if_neg h2]
theorem kd_zero : kd 0 = 0 := by decide
theorem kd_range {x : Int} (h : kd x ≠ 0) : 1 ≤ x ∧ x ≤ 31 := by
 unfold kd at h
 split at h
 ·exact absurd rfl h
 ·omega
theorem sd_range {x : Int} (h : kd x ≠ 0) : sd x = 0 ∨ sd x = 1 := by
 unfold sd
 rw [if_neg h]
 split <;> simp
structure Clean (b : List Int) : Prop where
 len : b.length = 81
 ok : ∀ i, i < 81 → b.getD i 0 = 0 ∨ kd (b.getD i 0) ≠ 0
def at_ (b : List Int) (q : Int) : Int := if 0 ≤ q ∧ q < 81 then b.getD q.toNat 0 else 0
def put (b : List Int) (q x : Int) : List Int := if 0 ≤ q ∧ q < 81 then b.set q.toNat (if kd x = 0 then 0 else x) else b
theorem at_val (q : Int) (b h : List Int) (s : Int) (by_ sides : List (List Int)) : board_At q b h s by_ sides = some (at_ b q) := by
 unfold board_At at_
 by_cases h0 : q < 0
 ·rw [br_true (by simpa using h0), if_neg (by omega)]
 ·rw [br_false (by simpa using h0)]
  by_cases h1 : 81 ≤ q
  ·rw [br_true (by simpa using h1), if_neg (by omega)]
  ·rw [br_false (by simpa using h1), br_true (inB_true (by omega) (by omega)), if_pos (by omega)]
theorem Clean.at_ {b : List Int} (hc : Clean b) (q : Int) : at_ b q = 0 ∨ kd (at_ b q) ≠ 0 := by
 unfold Pl.at_
 split
 ·exact hc.ok _ (by omega)
 ·exact .inl rfl
theorem Clean.put {b : List Int} (hc : Clean b) (q x : Int) : Clean (put b q x) := by
 unfold Pl.put
 split
 ·rename_i hq
  refine ⟨by rw [List.length_set]; exact hc.len, fun i hi => ?_⟩
  by_cases hqi : q.toNat = i
  ·subst hqi
   rw [List.getD_eq_getElem?_getD, List.getElem?_set_self (by rw [hc.len]; exact hi), Option.getD_some]
   split
   ·exact .inl rfl
   ·rename_i h; exact .inr h
  ·rw [List.getD_eq_getElem?_getD, List.getElem?_set_ne hqi, ← List.getD_eq_getElem?_getD]
   exact hc.ok i hi
 ·exact hc
end Go.Kk.Pl
namespace Go.Kk.Pl
def prS (f : Nat → Bool) : List Int := [sLo f, sHi f]
theorem prS_congr {f g : Nat → Bool} (h : ∀ i, i < 81 → f i = g i) : prS f = prS g := by
 obtain ⟨h1, h2⟩ := set_congr h
 unfold prS; rw [h1, h2]
def pcs (b : List Int) (x : Int) (i : Nat) : Bool := decide (x ≠ 0 ∧ b.getD i 0 = x)
def sds (b : List Int) (s : Int) (i : Nat) : Bool := decide (sd (b.getD i 0) = s)
def byOf (b : List Int) : List (List Int) := (List.range 32).map fun (x : Nat) => prS (pcs b x)
def sidesOf (b : List Int) : List (List Int) := (List.range 2).map fun (s : Nat) => prS (sds b s)
theorem map_set {α : Type} (G : Nat → α) (n k : Nat) (v : α) : ((List.range n).map G).set k v = (List.range n).map fun j => if j = k then v else G j := by
 apply List.ext_getElem
 ·simp
 ·intro i h1 h2
  simp only [List.length_set, List.length_map, List.length_range] at h1
  rw [List.getElem_set]
  simp only [List.getElem_map, List.getElem_range]
  by_cases h : k = i
  ·simp [h]
  ·simp [h, Ne.symm h]
theorem map_getD {α : Type} (G : Nat → α) {n k : Nat} (h : k < n) (d : α) : ((List.range n).map G).getD k d = G k := by
 rw [List.getD_eq_getElem?_getD, List.getElem?_map, List.getElem?_range h]; rfl
theorem by_get (b : List Int) {x : Int} (h0 : 0 ≤ x) (h1 : x < 32) : (byOf b).getD x.toNat [] = prS (pcs b x) := by
 unfold byOf
 rw [map_getD _ (by omega), show ((x.toNat : Nat) : Int) = x by omega]
theorem sides_get (b : List Int) {s : Int} (h0 : 0 ≤ s) (h1 : s < 2) : (sidesOf b).getD s.toNat [] = prS (sds b s) := by
 unfold sidesOf
 rw [map_getD _ (by omega), show ((s.toNat : Nat) : Int) = s by omega]
theorem prS_hd (f : Nat → Bool) : List.headD (List.take 2 (prS f)) 0 = sLo f := rfl
theorem prS_tl (f : Nat → Bool) : List.headD (List.tail (List.take 2 (prS f))) 0 = sHi f := rfl
theorem prS_mk (f : Nat → Bool) (g : Nat → Bool) : sLo f :: sHi f :: List.drop 2 (prS g) = prS f := rfl
theorem sd_zero : sd 0 = -1 := by decide
theorem sd_none {x : Int} (h : kd x = 0) : sd x = -1 := by unfold sd; rw [if_pos h]
theorem getD_set {b : List Int} {q : Nat} (hq : q < b.length) (x : Int) (i : Nat) : (b.set q x).getD i 0 = if i = q then x else b.getD i 0 := by
 rw [List.getD_eq_getElem?_getD]
 by_cases h : i = q
 ·subst h; rw [List.getElem?_set_self hq, if_pos rfl]; rfl
 ·rw [List.getElem?_set_ne (Ne.symm h), if_neg h, List.getD_eq_getElem?_getD]
theorem by_set {b b' : List Int} {F : Nat → Bool} {x : Int} (h0 : 0 ≤ x) (h : ∀ j : Nat, j < 32 → ∀ i, i < 81 → (if (j : Int) = x then F i else pcs b j i) = pcs b' j i) : List.set (byOf b) x.toNat (prS F) = byOf b' := by
 unfold byOf
 rw [map_set]
 apply List.map_congr_left
 intro j hj
 simp only [List.mem_range] at hj
 have h := h j hj
 split
 ·rename_i hjx
  exact prS_congr fun i hi => by rw [← h i hi, if_pos (by omega)]
 ·rename_i hjx
  exact prS_congr fun i hi => by rw [← h i hi, if_neg (by omega)]
theorem sides_set {b b' : List Int} {F : Nat → Bool} {x : Int} (h0 : 0 ≤ x) (h : ∀ j : Nat, j < 2 → ∀ i, i < 81 → (if (j : Int) = x then F i else sds b j i) = sds b' j i) : List.set (sidesOf b) x.toNat (prS F) = sidesOf b' := by
 unfold sidesOf
 rw [map_set]
 apply List.map_congr_left
 intro j hj
 simp only [List.mem_range] at hj
 have h := h j hj
 split
 ·rename_i hjx
  exact prS_congr fun i hi => by rw [← h i hi, if_pos (by omega)]
 ·rename_i hjx
  exact prS_congr fun i hi => by rw [← h i hi, if_neg (by omega)]
section
variable {b : List Int} {q : Int} (hq0 : 0 ≤ q) (hql : q.toNat < b.length)
include hq0 hql
theorem by_with (hz : b.getD q.toNat 0 = 0) {x : Int} (hx : 1 ≤ x) : List.set (byOf b) x.toNat (prS fun i => pcs b x i || only q i) = byOf (b.set q.toNat x) := by
 refine by_set (by omega) fun j hj i hi => ?_
 unfold pcs only
 rw [getD_set hql, Bool.eq_iff_iff]
 by_cases hi : i = q.toNat
 ·subst hi
  rw [hz]
  split <;> simp <;> omega
 ·have : ¬ (i : Int) = q := by omega
  split
  ·rename_i hjx
   simp [this, hjx]
  ·simp
theorem sides_with (hz : b.getD q.toNat 0 = 0) {x : Int} (hx : sd x = 0 ∨ sd x = 1) : List.set (sidesOf b) (sd x).toNat (prS fun i => sds b (sd x) i || only q i) = sidesOf (b.set q.toNat x) := by
 refine sides_set (by omega) fun j hj i hi => ?_
 unfold sds only
 rw [getD_set hql, Bool.eq_iff_iff]
 by_cases hi : i = q.toNat
 ·subst hi
  rw [hz, sd_zero]
  split <;> simp <;> omega
 ·have : ¬ (i : Int) = q := by omega
  split
  ·rename_i hjx
   simp [this, hjx]
  ·simp
theorem by_without {x : Int} (hz : b.getD q.toNat 0 = x) (hx : 1 ≤ x) : List.set (byOf b) x.toNat (prS fun i => pcs b x i && !only q i) = byOf (b.set q.toNat 0) := by
 refine by_set (by omega) fun j hj i hi => ?_
 unfold pcs only
 rw [getD_set hql, Bool.eq_iff_iff]
 by_cases hi : i = q.toNat
 ·subst hi
  rw [hz]
  split <;> simp <;> omega
 ·have : ¬ (i : Int) = q := by omega
  split
  ·rename_i hjx
   simp [this, hjx]
  ·simp
theorem sides_without {x : Int} (hz : b.getD q.toNat 0 = x) (hx : sd x = 0 ∨ sd x = 1) : List.set (sidesOf b) (sd x).toNat (prS fun i => sds b (sd x) i && !only q i) = sidesOf (b.set q.toNat 0) := by
 refine sides_set (by omega) fun j hj i hi => ?_
 unfold sds only
 rw [getD_set hql, Bool.eq_iff_iff]
 by_cases hi : i = q.toNat
 ·subst hi
  rw [hz, if_pos rfl, sd_zero]
  split <;> simp <;> omega
 ·have : ¬ (i : Int) = q := by omega
  split
  ·rename_i hjx
   simp [this, hjx]
  ·simp
end
theorem put_full {b : List Int} (hc : Clean b) (q x : Int) (h : List Int) (s : Int) :
  board_Put q x b h s (byOf b) (sidesOf b) = some (put b q x, h, s, byOf (put b q x), sidesOf (put b q x)) := by
 unfold board_Put put
 by_cases h0 : q < 0
 ·rw [br_true (by simpa using h0), if_neg (by omega)]
 rw [br_false (by simpa using h0)]
 by_cases h1 : 81 ≤ q
 ·rw [br_true (by simpa using h1), if_neg (by omega)]
 rw [br_false (by simpa using h1), br_true (inB_true (by omega) (by omega)), if_pos (by omega)]
 simp only [side_val, kind_val, ob_some]
 have hq81 : inB q 81 = true := inB_true (by omega) (by omega)
 have hb := hc.ok q.toNat (by omega)
 have hql : q.toNat < b.length := by rw [hc.len]; omega
 have key : ∀ (b : List Int), q.toNat < b.length → b.getD q.toNat 0 = 0 → (br (kd x == 0)
   (br (inB q 81) (some (List.set b q.toNat 0, h, s, byOf b, sidesOf b)) none)
   (br (inB q 81) (br (x != 0) (br (inB x 32) (ob (set_With (List.headD (List.take 2 (List.getD (byOf b) x.toNat [])) 0) (List.headD (List.tail (List.take 2 (List.getD (byOf b) x.toNat []))) 0) q) fun z =>
    br (inB x 32) (br (inB (sd x) 2) (ob (set_With (List.headD (List.take 2 (List.getD (sidesOf b) (sd x).toNat [])) 0) (List.headD (List.tail (List.take 2 (List.getD (sidesOf b) (sd x).toNat []))) 0) q) fun y =>
     br (inB (sd x) 2) (some (List.set b q.toNat x, h, s, List.set (byOf b) x.toNat (z.1 :: z.2 :: List.drop 2 (List.getD (byOf b) x.toNat [])), List.set (sidesOf b) (sd x).toNat (y.1 :: y.2 :: List.drop 2 (List.getD (sidesOf b) (sd x).toNat [])))) none) none) none) none)
    (some (List.set b q.toNat x, h, s, byOf b, sidesOf b))) none)) =
   some (b.set q.toNat (if kd x = 0 then 0 else x), h, s, byOf (b.set q.toNat (if kd x = 0 then 0 else x)), sidesOf (b.set q.toNat (if kd x = 0 then 0 else x))) := by
  intro b hql hz
  by_cases hk : kd x = 0
  ·rw [br_true (by simpa using hk), br_true hq81, if_pos hk]
   have : b.set q.toNat 0 = b := by
    apply List.ext_getElem
    ·rw [List.length_set]
    ·intro i i1 i2
     rw [List.getElem_set]
     split
     ·rename_i hi
      rw [List.getD_eq_getElem?_getD, List.getElem?_eq_getElem hql] at hz
      subst hi
      exact hz.symm
     ·rfl
   rw [this]
  ·have hx := kd_range hk
   have hsd := sd_range hk
   have hs : inB (sd x) 2 = true := by rcases hsd with h | h <;> rw [h] <;> rfl
   rw [br_false (by simpa using hk), br_true hq81, br_true (by simp; omega), br_true (inB_true (by omega) (by omega)), if_neg hk, by_get b (by omega) (by omega),
    prS_hd, prS_tl, with_val, ob_some]
   simp only
   rw [br_true (inB_true (by omega) (by omega)), br_true hs, sides_get b (by omega) (by omega), prS_hd, prS_tl, with_val, ob_some]
   simp only
   rw [br_true hs, prS_mk, prS_mk, by_with (by omega) hql hz hx.1, sides_with (by omega) hql hz hsd]
 by_cases hz : b.getD q.toNat 0 = 0
 ·rw [br_false (by simpa using hz)]
  exact key b hql hz
 ·have hkb := hb.resolve_left hz
  have hxb := kd_range hkb
  have hsdb := sd_range hkb
  have hsb : inB (sd (b.getD q.toNat 0)) 2 = true := by rcases sd_range hkb with h | h <;> rw [h] <;> rfl
  have hb32 : inB (b.getD q.toNat 0) 32 = true := inB_true (by omega) (by omega)
  rw [br_true (by simpa using hz), br_true hb32, by_get b (by omega) (by omega), prS_hd, prS_tl, without_val, ob_some]
  simp only
  rw [br_true hb32, br_true hsb, sides_get b (by omega) (by omega), prS_hd, prS_tl, without_val, ob_some]
  simp only
  rw [br_true hsb, prS_mk, prS_mk, by_without (by omega) hql rfl hxb.1, sides_without (by omega) hql rfl hsdb]
  have := key (b.set q.toNat 0) (by simpa using hql) (by rw [getD_set hql, if_pos rfl])
  rw [List.set_set] at this
  simp only [List.set_set] at this
  exact this
def cl1 (x : Int) : Int := if kd x = 0 then 0 else x
def cl (b : List Int) : List Int := b.map cl1
theorem cl_getD (b : List Int) (i : Nat) : (cl b).getD i 0 = cl1 (b.getD i 0) := by
 unfold cl
 rw [List.getD_eq_getElem?_getD, List.getElem?_map, List.getD_eq_getElem?_getD]
 cases b[i]? <;> rfl
theorem cl_len (b : List Int) : (cl b).length = b.length := by simp [cl]
theorem cl_clean {b : List Int} (hl : b.length = 81) : Clean (cl b) := ⟨by rw [cl_len, hl], fun i _ => by
 rw [cl_getD]
 unfold cl1
 split
 ·exact .inl rfl
 ·rename_i h; exact .inr h⟩
theorem new_goes_full {b : List Int} (hl : b.length = 81) (h : List Int) (s : Int) : ∀ (n i : Nat), i + n = 81 → ∀ (B : List Int), Clean B → (∀ j, j < i → B.getD j 0 = cl1 (b.getD j 0)) →
  ∀ f, board_Newl4 (f + n + 1) b i B h s (byOf B) (sidesOf B) = some (cl b, h, s, byOf (cl b), sidesOf (cl b)) := by
 intro n
 induction n with
 | zero =>
   intro i hi B hB hj f
   have : B = cl b := by
    apply List.ext_getElem
    ·rw [hB.len, cl_len, hl]
    ·intro j h1 h2
     have := hj j (by rw [hB.len] at h1; omega)
     rw [← cl_getD, List.getD_eq_getElem?_getD, List.getElem?_eq_getElem h1, List.getD_eq_getElem?_getD, List.getElem?_eq_getElem h2] at this
     exact this
   subst this
   show board_Newl4s (board_Newl4 (f + 0)) _ _ _ _ _ _ _ = _
   unfold board_Newl4s
   rw [br_false (by simp; omega)]
 | succ n ih =>
   intro i hi B hB hj f
   show board_Newl4s (board_Newl4 (f + n + 1)) _ _ _ _ _ _ _ = _
   unfold board_Newl4s
   rw [br_true (by simp; omega), br_true (inB_true (by omega) (by omega))]
   simp only [cond_true]
   rw [put_full hB, ob_some]
   simp only
   rw [wrap_small (by omega) (by omega)]
   refine ih (i + 1) (by omega) _ (hB.put _ _) (fun j hj' => ?_) f
   unfold put
   rw [if_pos (by omega), getD_set (by rw [hB.len]; omega)]
   by_cases hji : j = i
   ·subst hji
    rw [if_pos (by simp)]
    rfl
   ·rw [if_neg (by simp; exact hji), hj j (by omega)]
theorem clean_zero' : Clean (List.replicate 81 0) := ⟨by simp, fun i hi => .inl (by rw [List.getD_eq_getElem?_getD, List.getElem?_replicate, if_pos hi]; rfl)⟩
theorem byOf_zero : byOf (List.replicate 81 0) = List.replicate 32 [0, 0] := by decide +kernel
theorem sidesOf_zero : sidesOf (List.replicate 81 0) = [[0, 0], [0, 0]] := by decide +kernel
theorem new_full {b : List Int} (hl : b.length = 81) (h : List Int) (s : Int) : board_New b h s = some (cl b, h, s, byOf (cl b), sidesOf (cl b)) := by
 have hz := new_goes_full hl h s 81 0 (by omega) _ clean_zero' (fun j hj => absurd hj (by omega))
 obtain ⟨g, hg⟩ := many_eq 81 (by omega)
 have := hz g
 rw [← hg, byOf_zero, sidesOf_zero] at this
 unfold board_New
 show ob (board_Newl4 many b 0 (List.replicate 81 0) h s (List.replicate 32 [0, 0]) [[0, 0], [0, 0]]) _ = _
 rw [show board_Newl4 many b 0 (List.replicate 81 0) h s (List.replicate 32 [0, 0]) [[0, 0], [0, 0]] = _ from this, ob_some]
end Go.Kk.Pl
namespace Go.Kk.Pl
section
variable {α : Type} {x y : α}
theorem b_lt {a b : Int} (h : a < b) : br (decide (a < b)) x y = x := br_true (by simpa using h)
theorem b_nlt {a b : Int} (h : ¬ a < b) : br (decide (a < b)) x y = y := br_false (by simpa using h)
theorem b_le {a b : Int} (h : a ≤ b) : br (decide (a ≤ b)) x y = x := br_true (by simpa using h)
theorem b_nle {a b : Int} (h : ¬ a ≤ b) : br (decide (a ≤ b)) x y = y := br_false (by simpa using h)
theorem b_gt {a b : Int} (h : a > b) : br (decide (a > b)) x y = x := br_true (by simpa using h)
theorem b_ngt {a b : Int} (h : ¬ a > b) : br (decide (a > b)) x y = y := br_false (by simpa using h)
theorem b_ge {a b : Int} (h : a ≥ b) : br (decide (a ≥ b)) x y = x := br_true (by simpa using h)
theorem b_nge {a b : Int} (h : ¬ a ≥ b) : br (decide (a ≥ b)) x y = y := br_false (by simpa using h)
theorem b_eq {a b : Int} (h : a = b) : br (a == b) x y = x := br_true (by simpa using h)
theorem b_neq {a b : Int} (h : ¬ a = b) : br (a == b) x y = y := br_false (by simpa using h)
theorem b_ne {a b : Int} (h : ¬ a = b) : br (a != b) x y = x := br_true (by simpa using h)
theorem b_nne {a b : Int} (h : a = b) : br (a != b) x y = y := br_false (by simpa using h)
theorem b_in {a : Int} {n : Nat} (h0 : 0 ≤ a) (h1 : a < n) : br (inB a n) x y = x := br_true (inB_true h0 h1)
theorem b_t : br true x y = x := rfl
theorem b_f : br false x y = y := rfl
end
theorem w_s {n : Int} (h1 : -1000000000 ≤ n) (h2 : n ≤ 1000000000) : IntKind.wrap .i64 n = n := wrap_small h1 h2
theorem c_8 (n : Int) : conv IntKind.i8 IntKind.i64 n = n := rfl
theorem tn (n : Nat) : Int.toNat (n : Int) = n := rfl
theorem any_cons (p : Nat → Bool) (i n : Nat) : (List.range' i (n + 1)).any p = (p i || (List.range' (i + 1) n).any p) := by rw [List.range'_succ]; rfl
theorem at_i {b : List Int} {i : Nat} (h : i < b.length) : b.getD i 0 = b[i] := by rw [List.getD_eq_getElem?_getD, List.getElem?_eq_getElem h]; rfl
end Go.Kk.Pl
namespace Go.Kk.Pl
def rw_ (x : Int) : Int := if x < 1 ∨ 15 < x ∨ x = 13 then 0 else if 8 < x then x - 8 else x
def cnt (l : List Int) (k : Int) : Nat := l.countP fun x => rw_ (kd x) == k
def hd_ (h : List Int) (s k : Int) : Int := h.getD (s.toNat * 8 + k.toNat) 0
def Fits8 (h : List Int) : Prop := ∀ i, -128 ≤ h.getD i 0 ∧ h.getD i 0 ≤ 127
end Go.Kk.Pl
namespace Go.Kk.Pl
structure Sound (b h : List Int) (s : Int) : Prop where
 clean : Clean b
 side : s = 0 ∨ s = 1
 hands : ∀ k, 0 ≤ k → k < 8 → 0 ≤ hd_ h 0 k ∧ 0 ≤ hd_ h 1 k
 counts : ∀ k, 1 ≤ k → k < 8 → cnt b k + hd_ h 0 k + hd_ h 1 k ≤ 18
end Go.Kk.Pl
namespace Go.Kk.Pl
def farS (s : Int) (q : Nat) : Int := if s = 0 then ((q % 9 : Nat) : Int) else if s = 1 then 8 - ((q % 9 : Nat) : Int) else -1
def nF (b : List Int) (x : Int) (f : Nat) : Nat := (List.range 9).countP fun r => b.getD (9 * f + r) 0 == x
end Go.Kk.Pl
namespace Go.Kk.Pl
def up_ (k : Int) : Int := if k = 1 ∨ k = 2 ∨ k = 3 ∨ k = 4 ∨ k = 6 ∨ k = 7 then k + 8 else 0
theorem of_all0 : ∀ n : Fin 16, piece_Of 0 ((n.val : Nat) : Int) = some (if n.val = 0 ∨ n.val = 13 then 0 else (n.val : Int)) := by decide +kernel
theorem of_all1 : ∀ n : Fin 16, piece_Of 1 ((n.val : Nat) : Int) = some (if n.val = 0 ∨ n.val = 13 then 0 else 16 + (n.val : Int)) := by decide +kernel
theorem fin16 {x : Int} (h0 : 0 ≤ x) (h1 : x ≤ 15) : ∃ n : Fin 16, x = ((n.val : Nat) : Int) := ⟨⟨x.toNat, by omega⟩, by simp; omega⟩
theorem of_val {s k : Int} (hs : s = 0 ∨ s = 1) (h1 : 1 ≤ k) (h2 : k ≤ 15) (h3 : k ≠ 13) : piece_Of s k = some (16 * s + k) := by
 obtain ⟨n, rfl⟩ := fin16 (by omega) h2
 rcases hs with rfl | rfl
 ·rw [of_all0, if_neg (by omega)]; simp
 ·rw [of_all1, if_neg (by omega)]; simp
theorem kd_bounds (x : Int) : 0 ≤ kd x ∧ kd x ≤ 15 ∧ kd x ≠ 13 := by
 unfold kd
 split <;> omega
theorem kd_of {s k : Int} (hs : s = 0 ∨ s = 1) (h1 : 1 ≤ k) (h2 : k ≤ 15) (h3 : k ≠ 13) : kd (16 * s + k) = k := by
 unfold kd
 rw [if_neg (by omega)]
 omega
structure CanP (b h : List Int) (s f t d : Int) (p : Bool) : Prop where
 to_ : 0 ≤ t ∧ t < 81
 drop : d ≠ 0 → 0 < d ∧ d < 8 ∧ f = 0 ∧ p = false ∧ hd_ h s d > 0 ∧ at_ b t = 0
 move : d = 0 → 0 ≤ f ∧ f < 81 ∧ f ≠ t ∧ sd (at_ b f) = s ∧ sd (at_ b t) ≠ s ∧ kd (at_ b t) ≠ 8 ∧ (p = true → up_ (kd (at_ b f)) ≠ 0)
def hset (h : List Int) (s k d : Int) : List Int := h.set (s.toNat * 8 + k.toNat) (IntKind.wrap .i8 (hd_ h s k + d))
end Go.Kk.Pl
namespace Go.Kk.Pl
def pc (s k : Int) : Int := if (s = 0 ∨ s = 1) ∧ 1 ≤ k ∧ k ≤ 15 ∧ k ≠ 13 then 16 * s + k else 0
theorem pc_ok {s k : Int} (hs : s = 0 ∨ s = 1) (h1 : 1 ≤ k) (h2 : k ≤ 15) (h3 : k ≠ 13) : pc s k = 16 * s + k := by unfold pc; rw [if_pos ⟨hs, h1, h2, h3⟩]
theorem pc_none {s k : Int} (h : ¬ ((s = 0 ∨ s = 1) ∧ 1 ≤ k ∧ k ≤ 15 ∧ k ≠ 13)) : pc s k = 0 := by unfold pc; rw [if_neg h]
theorem pc_range (s k : Int) : 0 ≤ pc s k ∧ pc s k < 32 := by unfold pc; split <;> omega
theorem of_gen (s k : Int) : piece_Of s k = some (pc s k) := by
 by_cases hs : s = 0 ∨ s = 1
 ·by_cases h : 1 ≤ k ∧ k ≤ 15 ∧ k ≠ 13
  ·rw [of_val hs h.1 h.2.1 h.2.2, pc_ok hs h.1 h.2.1 h.2.2]
  ·rw [pc_none (by omega)]
   unfold piece_Of
   simp only [br_if, bne_iff_ne, ne_eq, beq_iff_eq, decide_eq_true_eq]
   repeat' split
   all_goals first | rfl | omega
 ·rw [pc_none (by omega)]
  unfold piece_Of
  simp (disch := omega) only [b_ne]
theorem pcs_zero (b : List Int) : pcs b 0 = fun _ => false := by funext i; unfold pcs; simp
theorem ofB_val (b h : List Int) (S s k : Int) (sd' : List (List Int)) : board_Of s k b h S (byOf b) sd' = some (sLo (pcs b (pc s k)), sHi (pcs b (pc s k))) := by
 unfold board_Of
 obtain ⟨h0, h1⟩ := pc_range s k
 rw [of_gen, ob_some]
 by_cases hz : pc s k = 0
 ·rw [b_eq hz, hz, pcs_zero, sLo_false, sHi_false]
 ·rw [b_neq hz, b_in h0 (by omega), by_get b h0 h1]
  rfl
theorem begins_true : law05_begins = some true := by kernel_rfl
end Go.Kk.Pl
namespace Go.Kk.Pl
def tk (b : List Int) (i : Nat) : Bool := decide (b.getD i 0 ≠ 0)
theorem tk_sides {b : List Int} (hc : Clean b) {i : Nat} (hi : i < 81) : (sds b 0 i || sds b 1 i) = tk b i := by
 have := hc.ok i hi
 unfold sds tk
 rw [Bool.eq_iff_iff]
 simp only [Bool.or_eq_true, decide_eq_true_eq]
 rcases this with h | h
 ·rw [h, sd_zero]; simp
 ·have h1 := kd_range h
  have h2 := sd_range h
  constructor
  ·intro _; omega
  ·intro _; exact h2
theorem takenB_val {b : List Int} (hc : Clean b) (h : List Int) (S : Int) (by_ : List (List Int)) : board_Taken b h S by_ (sidesOf b) = some (sLo (tk b), sHi (tk b)) := by
 unfold board_Taken
 have e0 : (sidesOf b).getD 0 [] = prS (sds b 0) := rfl
 have e1 : (sidesOf b).getD 1 [] = prS (sds b 1) := rfl
 rw [e0, e1, prS_hd, prS_tl, prS_hd, prS_tl, or_val, ob_some]
 obtain ⟨h1, h2⟩ := set_congr (f := fun i => sds b 0 i || sds b 1 i) (g := tk b) fun i hi => tk_sides hc hi
 simp only
 rw [h1, h2]
def sdP (b : List Int) (s : Int) (i : Nat) : Bool := decide (s = 0 ∨ s = 1) && sds b s i
theorem piecesB_val (b h : List Int) (S s : Int) (by_ : List (List Int)) : board_Pieces s b h S by_ (sidesOf b) = some (sLo (sdP b s), sHi (sdP b s)) := by
 unfold board_Pieces
 by_cases h0 : s = 0
 ·subst h0
  have : sdP b 0 = sds b 0 := by funext i; unfold sdP; simp
  rw [this]
  rfl
 ·rw [b_ne h0]
  by_cases h1 : s = 1
  ·subst h1
   have : sdP b 1 = sds b 1 := by funext i; unfold sdP; simp
   rw [this]
   rfl
  ·have : sdP b s = fun _ => false := by funext i; unfold sdP; simp [h0, h1]
   rw [b_ne h1, this, sLo_false, sHi_false]
theorem kingB_val (b h : List Int) (S s : Int) (sd' : List (List Int)) : board_King s b h S (byOf b) sd' = some (fst (pcs b (pc s 8))) := by
 unfold board_King
 rw [ofB_val, ob_some]
 simp only
 rw [first_val, ob_some]
end Go.Kk.Pl
namespace Go.Kk.Pl
def fl (q : Nat) : Int := ((q / 9 : Nat) : Int)
def rn (q : Nat) : Int := ((q % 9 : Nat) : Int)
def df (a c : Nat) : Int := fl c - fl a
def dr (a c : Nat) : Int := rn c - rn a
def upS (x : Int) (a c : Nat) : Int := if sd x = 1 then dr a c else - dr a c
def fromS (dx dy : Int) (a : Nat) : Int := if 0 ≤ fl a + dx ∧ fl a + dx ≤ 8 ∧ 0 ≤ rn a + dy ∧ rn a + dy ≤ 8 then 9 * (fl a + dx) + (rn a + dy) else -1
def stpK (k d u : Int) : Prop :=
 (k = 1 ∧ d = 0 ∧ u = 1) ∨ (k = 3 ∧ (d = 1 ∨ d = -1) ∧ u = 2) ∨ (k = 4 ∧ ((u = 1 ∧ -1 ≤ d ∧ d ≤ 1) ∨ (u = -1 ∧ (d = 1 ∨ d = -1)))) ∨
 ((k = 5 ∨ k = 9 ∨ k = 10 ∨ k = 11 ∨ k = 12) ∧ ((u = 1 ∧ -1 ≤ d ∧ d ≤ 1) ∨ (u = 0 ∧ (d = 1 ∨ d = -1)) ∨ (u = -1 ∧ d = 0))) ∨
 (k = 8 ∧ -1 ≤ d ∧ d ≤ 1 ∧ -1 ≤ u ∧ u ≤ 1 ∧ ¬ (d = 0 ∧ u = 0)) ∨ (k = 14 ∧ ((u = 0 ∧ (d = 1 ∨ d = -1)) ∨ (d = 0 ∧ (u = 1 ∨ u = -1)))) ∨
 (k = 15 ∧ (d = 1 ∨ d = -1) ∧ (u = 1 ∨ u = -1))
instance (k d u : Int) : Decidable (stpK k d u) := by unfold stpK; infer_instance
def stepB (x : Int) (a c : Nat) : Bool := decide (stpK (kd x) (df a c) (upS x a c))
def sg (x : Int) : Int := if sd x = 1 then -1 else 1
end Go.Kk.Pl
namespace Go.Kk.Pl
def sgn (n : Int) : Int := if n < 0 then -1 else if n > 0 then 1 else 0
def lineS (a c : Nat) : Int := if a = c then 0 else if df a c = 0 ∨ dr a c = 0 then 1 else if df a c = dr a c ∨ df a c = -dr a c then 2 else 0
def mx (a c : Nat) : Nat := if (df a c).natAbs < (dr a c).natAbs then (dr a c).natAbs else (df a c).natAbs
def stpD (a c : Nat) : Int := 9 * sgn (df a c) + sgn (dr a c)
def btw (a c : Nat) : List Nat := if lineS a c = 0 then [] else (List.range (mx a c - 1)).map fun (j : Nat) => ((a : Int) + ((j : Int) + 1) * stpD a c).toNat
def freeS (a c : Nat) (t : Nat → Bool) : Bool := (btw a c).all fun s => !t s
def slK (k d u : Int) : Prop := (k = 2 ∧ d = 0 ∧ 0 < u) ∨ ((k = 6 ∨ k = 14) ∧ ¬ (d = 0 ∧ u = 0) ∧ (d = u ∨ d = -u)) ∨ ((k = 7 ∨ k = 15) ∧ ¬ (d = 0 ∧ u = 0) ∧ (d = 0 ∨ u = 0))
instance (k d u : Int) : Decidable (slK k d u) := by unfold slK; infer_instance
def slideB (x : Int) (a c : Nat) : Bool := decide (slK (kd x) (df a c) (upS x a c))
def rch (x : Int) (a c : Nat) (t : Nat → Bool) : Bool := stepB x a c || (slideB x a c && freeS a c t)
end Go.Kk.Pl
namespace Go.Kk.Pl
def ends (dx dy : Int) : Nat → Int → Bool
 | 0, p => decide (p < 0)
 | n + 1, p => decide (p < 0) || ends dx dy n (fromS dx dy p.toNat)
def lieS (d e : Int) : Prop := ¬ (d = 0 ∧ e = 0) ∧ (d = 0 ∨ e = 0 ∨ d = e ∨ d = -e)
instance (d e : Int) : Decidable (lieS d e) := by unfold lieS; infer_instance
end Go.Kk.Pl
namespace Go.Kk.Pl
theorem sd_pc {s k : Int} (hs : s = 0 ∨ s = 1) (h1 : 1 ≤ k) (h2 : k ≤ 15) (h3 : k ≠ 13) : sd (pc s k) = s ∧ kd (pc s k) = k := by
 rw [pc_ok hs h1 h2 h3]
 have hk := kd_of hs h1 h2 h3
 refine ⟨?_, hk⟩
 unfold sd
 rw [hk, if_neg (by omega)]
 rcases hs with rfl | rfl
 ·rw [if_pos (by omega)]
 ·rw [if_neg (by omega)]
theorem pc_of {x : Int} (h : kd x ≠ 0) : x = pc (sd x) (kd x) := by
 obtain ⟨k0, k1, k2⟩ := kd_bounds x
 have hs := sd_range h
 rw [pc_ok hs (by omega) k1 k2]
 have hr := kd_range h
 unfold sd kd at *
 rw [if_neg h]
 split at h
 ·omega
 ·rename_i hh
  rw [if_neg hh]
  split <;> omega
def onS (b : List Int) (q s : Int) (t : Nat → Bool) (c : Nat) : Bool := decide (0 ≤ q ∧ q < 81) && (decide (s = 0 ∨ s = 1) && (decide (sd (b.getD c 0) = s) && rch (b.getD c 0) c q.toNat t))
def kg (b : List Int) (s : Int) : Int := fst (pcs b (pc s 8))
def chs (b : List Int) (s : Int) : Nat → Bool := onS b (kg b s) (1 - s) (tk b)
end Go.Kk.Pl
namespace Go.Kk.Pl
end Go.Kk.Pl
namespace Go.Kk.Pl
end Go.Kk.Pl
namespace Go.Kk.Pl
def farI (s q : Int) : Int := if 0 ≤ q ∧ q < 81 then farS s q.toNat else -1
def deadI (x q : Int) : Bool := decide (((kd x = 1 ∨ kd x = 2) ∧ farI (sd x) q = 0) ∨ (kd x = 3 ∧ (farI (sd x) q = 0 ∨ farI (sd x) q = 1)))
def inZ (s q : Int) : Bool := decide (0 ≤ farI s q ∧ farI s q ≤ 2)
def mayS (x f t : Int) : Bool := decide (up_ (kd x) ≠ 0) && (inZ (sd x) f || inZ (sd x) t)
def mustS (x t : Int) : Bool := decide (up_ (kd x) ≠ 0) && deadI x t
def chkM (f t d : Int) (p : Bool) : Int := if ¬ (0 ≤ t ∧ t < 81) then 1 else if d ≠ 0 then (if 1 ≤ d ∧ d ≤ 7 ∧ f = 0 ∧ p = false then 0 else 70) else if ¬ (0 ≤ f ∧ f < 81) then 1 else if f = t then 70 else 0
def canS (b h : List Int) (s f t d : Int) (p : Bool) : Bool := decide (chkM f t d p = 0) && (decide (s = 0 ∨ s = 1) &&
 if d ≠ 0 then decide (0 < hd_ h s d) && decide (at_ b t = 0)
 else decide (sd (at_ b f) = s ∧ sd (at_ b t) ≠ s ∧ kd (at_ b t) ≠ 8) && (!p || decide (up_ (kd (at_ b f)) ≠ 0)))
theorem at_in {b : List Int} {q : Int} (h : 0 ≤ q ∧ q < 81) : at_ b q = b.getD q.toNat 0 := by unfold at_; rw [if_pos h]
def movS (b h : List Int) (s f t d : Int) (p : Bool) : Bool := canS b h s f t d p &&
 if d ≠ 0 then !deadI (16 * s + d) t && (decide (d ≠ 1) || decide (nF b (16 * s + d) (t.toNat / 9) = 0))
 else rch (at_ b f) f.toNat t.toNat (tk b) && if p = true then mayS (at_ b f) f t else !mustS (at_ b f) t
end Go.Kk.Pl
namespace Go.Kk.Pl
end Go.Kk.Pl
namespace Go.Kk.Pl
def one2 (x f t : Int) : List (List Int) := (if mustS x t then [] else [[f, t, 0, 0]]) ++ (if mayS x f t then [[f, t, 0, 1]] else [])
def kgs (b : List Int) (c : Nat) : Bool := pcs b (pc 0 8) c || pcs b (pc 1 8) c
def goesS (b : List Int) (S : Int) (G : Nat → Bool) (f : Nat) (c : Nat) : Bool := ((rch (b.getD f 0) f c (tk b) && !sdP b S c) && !kgs b c) && G c
def mvsF (b : List Int) (S : Int) (G : Nat → Bool) (f : Int) : List (List Int) := (sq (goesS b S G f.toNat)).flatMap (one2 (b.getD f.toNat 0) f)
def mvsB (b : List Int) (S : Int) (G : Nat → Bool) : List (List Int) := (sq (sdP b S)).flatMap (mvsF b S G)
end Go.Kk.Pl
namespace Go.Kk.Pl
end Go.Kk.Pl
namespace Go.Kk.Pl
theorem hd1 (m : List Int) : List.headD (List.tail (List.take 4 m)) 0 = m.getD 1 0 := by
 rcases m with _ | ⟨a, _ | ⟨b, m⟩⟩ <;> rfl
theorem hd2 (m : List Int) : List.headD (List.tail (List.tail (List.take 4 m))) 0 = m.getD 2 0 := by
 rcases m with _ | ⟨a, _ | ⟨b, _ | ⟨c, m⟩⟩⟩ <;> rfl
end Go.Kk.Pl
namespace Go.Kk.Pl
structure MvOK (b h : List Int) (S f t d p : Int) : Prop where
 pp : p = 0 ∨ p = 1
 mov : movS b h S f t d (p != 0) = true
 tr : 0 ≤ t ∧ t < 81
 fr : 0 ≤ f ∧ f < 81
 dr : 0 ≤ d ∧ d ≤ 7
 drop : d ≠ 0 → f = 0 ∧ p = 0 ∧ 0 < hd_ h S d ∧ at_ b t = 0
end Go.Kk.Pl
namespace Go.Kk.Pl
def enm (b : List Int) (s : Int) (c : Nat) : Bool := decide (sd (b.getD c 0) = 1 - s)
def pinB (b : List Int) (s : Int) (k f c : Nat) : Bool := enm b s c && (slideB (b.getD c 0) c k && ((btw c k).contains f && (tk b f && (decide (sd (b.getD f 0) = s) && (btw c k).all fun i => i == f || !tk b i))))
end Go.Kk.Pl
namespace Go.Kk.Pl
theorem fst_one {g : Nat → Bool} {f : Nat} (hf : f < 81) (h : ∀ i, i < 81 → (g i = true ↔ i = f)) : fst g = f := by
 apply fst_some hf ((h f hf).mpr rfl)
 intro i hi
 cases hg : g i with
 | false => rfl
 | true => exact absurd ((h i (by omega)).mp hg) (by omega)
def wayP (k c : Nat) (i : Nat) : Bool := (btw c k).contains i || only c i
end Go.Kk.Pl
namespace Go.Kk.Pl
def laid (b : List Int) (s f d : Int) (p : Bool) : Int := if d ≠ 0 then 16 * s + d else if p = true then 16 * s + up_ (kd (at_ b f)) else at_ b f
def was (b : List Int) (s f d : Int) : Int := if d ≠ 0 then 16 * s + d else at_ b f
end Go.Kk.Pl
namespace Go.Kk.Pl
end Go.Kk.Pl
namespace Go.Kk.Pl
end Go.Kk.Pl
namespace Go.Kk.Pl
theorem kd_sd {x s : Int} (hs : s = 0 ∨ s = 1) (h : sd x = s) : kd x ≠ 0 := by
 intro h0
 rw [sd_none h0] at h
 omega
def KS (b : List Int) (s : Int) (k : Nat) : Prop := k < 81 ∧ ∀ i, i < 81 → (b.getD i 0 = pc s 8 ↔ i = k)
theorem pc8 {s : Int} (hs : s = 0 ∨ s = 1) : pc s 8 = 16 * s + 8 := pc_ok hs (by omega) (by omega) (by omega)
theorem KS.kg {b : List Int} {s : Int} {k : Nat} (hs : s = 0 ∨ s = 1) (h : KS b s k) : kg b s = k := by
 apply fst_one h.1
 intro i hi
 unfold pcs
 rw [decide_eq_true_eq, h.2 i hi, pc8 hs]
 exact ⟨fun h => h.2, fun h => ⟨by omega, h⟩⟩
theorem KS.sd {b : List Int} {s : Int} {k : Nat} (hs : s = 0 ∨ s = 1) (h : KS b s k) : sd (b.getD k 0) = s ∧ kd (b.getD k 0) = 8 := by
 rw [(h.2 k h.1).mpr rfl]
 exact sd_pc hs (by omega) (by omega) (by omega)
def ontoS (b : List Int) (s : Int) (t : Nat) : Bool := (List.range 81).all fun c => !chs b s c || wayP (kg b s).toNat c t
def pinOK (b : List Int) (s : Int) (f t : Nat) : Bool := (List.range 81).all fun c => !pinB b s (kg b s).toNat f c || wayP (kg b s).toNat c t
def stB (b : List Int) (s : Int) (f t : Nat) : Bool := if (f : Int) = kg b s then isE (onS b t (1 - s) (fun i => tk b i && !only f i)) else ontoS b s t && pinOK b s f t
end Go.Kk.Pl
namespace Go.Kk.Pl
def T_ (_ : Nat) : Bool := true
def m0 (m : List Int) : Int := m.getD 0 0
def m1 (m : List Int) : Int := m.getD 1 0
def m2 (m : List Int) : Int := m.getD 2 0
def m3 (m : List Int) : Bool := m.getD 3 0 != 0
theorem atL {M : List (List Int)} {i : Nat} (hi : i < M.length) : M.getD i [] = M[i] := by rw [List.getD_eq_getElem?_getD, List.getElem?_eq_getElem hi]; rfl
def g1 (b : List Int) (s : Int) (m : List Int) : Bool := stB b s (m0 m).toNat (m1 m).toNat
def pb (b : List Int) (s : Int) (q : Int) : List Int := put b q (16 * s + 1)
def pmS (b : List Int) (s : Int) (q : Int) : Bool := decide (0 ≤ q ∧ q < 81) && (decide (at_ b q = 0) && (chs (pb b s q) (1 - s) q.toNat && (mvsB (pb b s q) (1 - s) T_).all fun m => !g1 (pb b s q) (1 - s) m))
def g2 (b : List Int) (s : Int) (m : List Int) : Bool := !(decide (m2 m = 1) && pmS b s (m1 m))
end Go.Kk.Pl
namespace Go.Kk.Pl
theorem holds8 {b : List Int} (hl : b.length = 81) (lo len cap : Nat) (rows : List (List Int)) (h : List Int) (s : Int) (B hB : List Int) (sB : Int) (by_ sd_ : List (List Int)) : ∀ (n i : Nat), i + n = 81 → ∀ W : List Int, W.length = 81 → (∀ j, j < 81 → W.getD j 0 = if j < i then cl1 (b.getD j 0) else 0) → ∀ F,
  law05_BoardHoldsl8 (F + n + 1) lo len b i cap rows b h s B hB sB by_ sd_ W = some (lo, len, cap, rows, b, h, s, B, hB, sB, by_, sd_, cl b) := by
 intro n
 induction n with
 | zero =>
   intro i hi W hW hj F
   show law05_BoardHoldsl8s (law05_BoardHoldsl8 (F + 0)) _ _ _ _ _ _ _ _ _ _ _ _ _ _ _ = _
   unfold law05_BoardHoldsl8s
   have : W = cl b := by
    apply List.ext_getElem (by rw [hW, cl_len, hl])
    intro j h1 h2
    rw [← at_i h1, ← at_i h2, hj j (by omega), if_pos (by omega), cl_getD]
   rw [b_nlt (by omega), this]
 | succ n ih =>
   intro i hi W hW hj F
   show law05_BoardHoldsl8s (law05_BoardHoldsl8 (F + n + 1)) _ _ _ _ _ _ _ _ _ _ _ _ _ _ _ = _
   unfold law05_BoardHoldsl8s
   simp only [cond_true]
   rw [b_lt (by omega), b_in (by omega) (by omega), tn, c_8, refKind_val, ob_some, w_s (n := (i : Int) + 1) (by omega) (by omega)]
   by_cases hk : kd (b.getD i 0) = 0
   ·rw [b_nne hk]
    refine ih (i + 1) (by omega) W hW (fun j hjl => ?_) F
    rw [hj j hjl]
    by_cases h1 : j < i
    ·rw [if_pos h1, if_pos (by omega)]
    ·rw [if_neg h1]
     by_cases h2 : j = i
     ·rw [if_pos (by omega), h2]; unfold cl1; rw [if_pos hk]
     ·rw [if_neg (by omega)]
   ·rw [b_ne hk, b_in (by omega) (by omega)]
    refine ih (i + 1) (by omega) _ (by simp [hW]) (fun j hjl => ?_) F
    rw [getD_set (by omega)]
    by_cases h2 : j = i
    ·rw [if_pos h2, if_pos (by omega), h2]; unfold cl1; rw [if_neg hk]
    ·rw [if_neg h2, hj j hjl]
     by_cases h1 : j < i
     ·rw [if_pos h1, if_pos (by omega)]
     ·rw [if_neg h1, if_neg (by omega)]
def putsB (B : List Int) (L : List (List Int)) : List Int := L.foldl (fun B r => put B (r.getD 0 0) (r.getD 1 0)) B
theorem putsB_clean : ∀ (L : List (List Int)) {B : List Int}, Clean B → Clean (putsB B L)
 | [], _, h => h
 | r :: L, B, h => putsB_clean L (h.put (r.getD 0 0) (r.getD 1 0))
theorem hr0 (r : List Int) : List.headD (List.take 2 r) 0 = r.getD 0 0 := by cases r <;> rfl
theorem hr1 (r : List Int) : List.headD (List.tail (List.take 2 r)) 0 = r.getD 1 0 := by
 match r with
 | [] => rfl
 | [_] => rfl
 | _ :: _ :: _ => rfl
theorem holds14 (cap : Nat) (rows : List (List Int)) (hr : rows.length ≤ 100) (b h : List Int) (s : Int) : ∀ (n i : Nat), i + n = rows.length → ∀ {B : List Int}, Clean B → ∀ F,
  law05_BoardHoldsl14 (F + n + 1) 0 rows.length rows.length i cap rows b h s B h s (byOf B) (sidesOf B) B =
   some (cap, rows, b, h, s, putsB B (rows.drop i), h, s, byOf (putsB B (rows.drop i)), sidesOf (putsB B (rows.drop i)), putsB B (rows.drop i)) := by
 intro n
 induction n with
 | zero =>
   intro i hi B hB F
   show law05_BoardHoldsl14s (law05_BoardHoldsl14 (F + 0)) _ _ _ _ _ _ _ _ _ _ _ _ _ _ _ = _
   unfold law05_BoardHoldsl14s
   rw [b_nlt (by omega), List.drop_eq_nil_of_le (by omega)]
   rfl
 | succ n ih =>
   intro i hi B hB F
   show law05_BoardHoldsl14s (law05_BoardHoldsl14 (F + n + 1)) _ _ _ _ _ _ _ _ _ _ _ _ _ _ _ = _
   unfold law05_BoardHoldsl14s
   have hil : i < rows.length := by omega
   rw [b_lt (by omega), b_in (by omega) (by omega), tn, Nat.zero_add, atL hil, hr0, hr1, w_s (n := (i : Int) + 1) (by omega) (by omega), put_full hB, ob_some]
   simp only
   have hd : rows.drop i = rows[i] :: rows.drop (i + 1) := List.drop_eq_getElem_cons hil
   have rest : ∀ W, W = put B (rows[i].getD 0 0) (rows[i].getD 1 0) → law05_BoardHoldsl14 (F + n + 1) 0 rows.length rows.length ((i + 1 : Nat) : Int) cap rows b h s (put B (rows[i].getD 0 0) (rows[i].getD 1 0)) h s (byOf (put B (rows[i].getD 0 0) (rows[i].getD 1 0))) (sidesOf (put B (rows[i].getD 0 0) (rows[i].getD 1 0))) W =
     some (cap, rows, b, h, s, putsB B (rows.drop i), h, s, byOf (putsB B (rows.drop i)), sidesOf (putsB B (rows.drop i)), putsB B (rows.drop i)) := by
    rintro W rfl
    rw [hd]
    exact ih (i + 1) (by omega) (hB.put _ _) F
   by_cases h0 : rows[i].getD 0 0 ≥ 0
   ·rw [b_ge h0]
    by_cases h1 : rows[i].getD 0 0 ≤ 80
    ·rw [b_le h1, b_in h0 (by omega), c_8, refKind_val, ob_some]
     by_cases hk : kd (rows[i].getD 1 0) = 0
     ·rw [b_nne hk]
      refine rest _ ?_
      unfold put
      rw [if_pos ⟨h0, by omega⟩, if_pos hk]
     ·rw [b_ne hk, b_in h0 (by omega)]
      refine rest _ ?_
      unfold put
      rw [if_pos ⟨h0, by omega⟩, if_neg hk, List.set_set]
    ·rw [b_nle h1]
     refine rest _ ?_
     unfold put
     rw [if_neg (by omega)]
   ·rw [b_nge h0]
    refine rest _ ?_
    unfold put
    rw [if_neg (by omega)]
theorem holds24 (cap : Nat) (rows : List (List Int)) (b h : List Int) (s : Int) {B : List Int} (hB : Clean B) (hB' : List Int) (sB : Int) : ∀ (n i : Nat), i + n = 81 → ∀ F,
  law05_BoardHoldsl24 (F + n + 1) i cap rows b h s B hB' sB (byOf B) (sidesOf B) B (sLo fun c => decide (c < i) && tk B c) (sHi fun c => decide (c < i) && tk B c) =
   some (.inr (cap, rows, b, h, s, B, hB', sB, byOf B, sidesOf B, B, sLo (tk B), sHi (tk B))) := by
 intro n
 induction n with
 | zero =>
   intro i hi F
   show law05_BoardHoldsl24s (law05_BoardHoldsl24 (F + 0)) _ _ _ _ _ _ _ _ _ _ _ _ _ _ = _
   unfold law05_BoardHoldsl24s
   have := set_congr (f := fun c => decide (c < i) && tk B c) (g := tk B) fun c hc => by rw [decide_eq_true (by omega), Bool.true_and]
   rw [b_nlt (by omega), this.1, this.2]
 | succ n ih =>
   intro i hi F
   show law05_BoardHoldsl24s (law05_BoardHoldsl24 (F + n + 1)) _ _ _ _ _ _ _ _ _ _ _ _ _ _ = _
   unfold law05_BoardHoldsl24s
   have rest := ih (i + 1) (by omega) F
   have hb : ∀ {α : Type} {x y : α}, br (inB (i : Int) 81) x y = x := fun {α x y} => b_in (by omega) (by omega)
   rw [b_lt (by omega), at_val, ob_some, at_in (by omega), tn]
   simp only [hb, c_8]
   rw [b_nne rfl, b_nne rfl, w_s (n := (i : Int) + 1) (by omega) (by omega)]
   by_cases h0 : B.getD i 0 = 0
   ·rw [b_nne h0]
    have := set_congr (f := fun c => decide (c < i) && tk B c) (g := fun c => decide (c < i + 1) && tk B c) fun c hc => by
     by_cases hci : c = i
     ·subst hci
      unfold tk
      rw [h0]; simp
     ·have : decide (c < i) = decide (c < i + 1) := by rw [decide_eq_decide]; omega
      rw [this]
    rw [this.1, this.2]
    exact rest
   ·rw [b_ne h0, with_val, ob_some]
    simp only
    have := set_congr (f := fun c => (decide (c < i) && tk B c) || only i c) (g := fun c => decide (c < i + 1) && tk B c) fun c hc => by
     unfold only
     by_cases hci : c = i
     ·subst hci
      unfold tk
      rw [decide_eq_true h0]; simp
     ·have : decide (c < i) = decide (c < i + 1) := by rw [decide_eq_decide]; omega
      rw [this, decide_eq_false (p := (c : Int) = i) (by omega), Bool.or_false]
    rw [this.1, this.2]
    exact rest
theorem holds39 (cap : Nat) (rows : List (List Int)) (b h : List Int) (s : Int) {B : List Int} (hB : Clean B) (hB' : List Int) (sB : Int) (t1 t2 a1 a2 : Int) {sd' k : Nat} (hs : sd' < 2) (hk1 : 1 ≤ k) (hk2 : k ≤ 15) : ∀ (n i : Nat), i + n = 81 → ∀ F,
  law05_BoardHoldsl39 (F + n + 1) sd' k i cap rows b h s B hB' sB (byOf B) (sidesOf B) B t1 t2 a1 a2 (sLo (pcs B (pc sd' k))) (sHi (pcs B (pc sd' k))) =
   some (.inr (sd', k, cap, rows, b, h, s, B, hB', sB, byOf B, sidesOf B, B, t1, t2, a1, a2, sLo (pcs B (pc sd' k)), sHi (pcs B (pc sd' k)))) := by
 intro n
 induction n with
 | zero =>
   intro i hi F
   show law05_BoardHoldsl39s (law05_BoardHoldsl39 (F + 0)) _ _ _ _ _ _ _ _ _ _ _ _ _ _ _ _ _ _ _ _ = _
   unfold law05_BoardHoldsl39s
   rw [b_nlt (by omega)]
 | succ n ih =>
   intro i hi F
   show law05_BoardHoldsl39s (law05_BoardHoldsl39 (F + n + 1)) _ _ _ _ _ _ _ _ _ _ _ _ _ _ _ _ _ _ _ _ = _
   unfold law05_BoardHoldsl39s
   have rest := ih (i + 1) (by omega) F
   have hh : ∀ g : Nat → Bool, has g (i : Int) = g i := by
    intro g; unfold has; rw [decide_eq_true (by omega), decide_eq_true (by omega), tn]; rfl
   have hb : ∀ {α : Type} {x y : α}, br (inB (i : Int) 81) x y = x := fun {α x y} => b_in (by omega) (by omega)
   rw [b_lt (by omega), has_val, ob_some, hh]
   simp only [hb, tn]
   rw [w_s (n := (i : Int) + 1) (by omega) (by omega), w_s (n := 16 * (sd' : Int)) (by omega) (by omega), w_s (n := 16 * (sd' : Int) + k) (by omega) (by omega)]
   by_cases h0 : B.getD i 0 = 0
   ·have : pcs B (pc sd' k) i = false := by
     unfold pcs
     rw [decide_eq_false_iff_not]
     rintro ⟨h1, h2⟩
     exact h1 (h2.symm.trans h0)
    rw [b_nne h0, this]
    exact rest
   ·have : pcs B (pc sd' k) i = (B.getD i 0 == 16 * (sd' : Int) + k) := by
     unfold pcs
     rw [Bool.eq_iff_iff, decide_eq_true_eq, beq_iff_eq]
     by_cases h13 : k = 13
     ·subst h13
      rw [pc_none (by omega)]
      constructor
      ·intro h; exact absurd rfl h.1
      ·intro h
       have hkd := (hB.ok i (by omega)).resolve_left h0
       have hz : ∀ j : Fin 2, kd (16 * ((j.val : Nat) : Int) + ((13 : Nat) : Int)) = 0 := by decide
       rw [h] at hkd
       exact absurd (hz ⟨sd', hs⟩) hkd
     ·rw [pc_ok (by omega) (by omega) (by omega) (by omega)]
      exact ⟨fun h => h.2, fun h => ⟨by omega, h⟩⟩
    rw [b_ne h0, this]
    cases (B.getD i 0 == 16 * (sd' : Int) + k) <;> exact rest
def upK (B : List Int) (s : Nat) (k : Nat) (c : Nat) : Bool := (List.range' 1 (k - 1)).any fun j => pcs B (pc s j) c
theorem holds35 (cap : Nat) (rows : List (List Int)) (b h : List Int) (s : Int) {B : List Int} (hB : Clean B) (hB' : List Int) (sB : Int) (t1 t2 : Int) {sd' : Nat} (hs : sd' < 2) : ∀ (n k : Nat), k + n = 16 → 1 ≤ k → ∀ F,
  law05_BoardHoldsl35 (F + n + 1) sd' k cap rows b h s B hB' sB (byOf B) (sidesOf B) B t1 t2 (sLo (upK B sd' k)) (sHi (upK B sd' k)) =
   some (.inr (sd', cap, rows, b, h, s, B, hB', sB, byOf B, sidesOf B, B, t1, t2, sLo (upK B sd' 16), sHi (upK B sd' 16))) := by
 intro n
 induction n with
 | zero =>
   intro k hk h1 F
   show law05_BoardHoldsl35s (law05_BoardHoldsl35 (F + 0)) _ _ _ _ _ _ _ _ _ _ _ _ _ _ _ _ _ = _
   unfold law05_BoardHoldsl35s
   rw [b_nle (by omega), show k = 16 by omega]
 | succ n ih =>
   intro k hk h1 F
   show law05_BoardHoldsl35s (law05_BoardHoldsl35 (F + n + 1)) _ _ _ _ _ _ _ _ _ _ _ _ _ _ _ _ _ = _
   unfold law05_BoardHoldsl35s
   rw [b_le (by omega), ofB_val, ob_some]
   simp only
   obtain ⟨g, hg⟩ := many_eq 81 (by omega)
   have := holds39 cap rows b h s hB hB' sB t1 t2 (sLo (upK B sd' k)) (sHi (upK B sd' k)) hs h1 (by omega) 81 0 (by omega) g
   rw [← hg] at this
   rw [show law05_BoardHoldsl39 many sd' k 0 cap rows b h s B hB' sB (byOf B) (sidesOf B) B t1 t2 (sLo (upK B sd' k)) (sHi (upK B sd' k)) (sLo (pcs B (pc sd' k))) (sHi (pcs B (pc sd' k))) = _ from this, ob_some, sw_inr]
   simp only
   rw [w_s (n := (k : Int) + 1) (by omega) (by omega)]
   have hor : (fun c => upK B sd' k c || pcs B (pc sd' k) c) = upK B sd' (k + 1) := by
    funext c
    unfold upK
    rw [show k + 1 - 1 = (k - 1) + 1 by omega, List.range'_concat, List.any_append, List.any_cons, List.any_nil, Bool.or_false, show 1 + 1 * (k - 1) = k by omega]
   have rest := ih (k + 1) (by omega) (by omega) F
   by_cases h8 : (k : Int) = 8
   ·rw [b_eq h8, kingB_val, ob_some, first_val, ob_some, b_nne (by rw [h8]), or_val, ob_some, hor]
    exact rest
   ·rw [b_neq h8, or_val, ob_some, hor]
    exact rest
theorem upK_all {B : List Int} (hB : Clean B) {s : Nat} (hs : s < 2) {c : Nat} (hc : c < 81) : upK B s 16 c = sdP B s c := by
 unfold upK sdP sds
 rw [decide_eq_true (p := (s : Int) = 0 ∨ (s : Int) = 1) (by omega), Bool.true_and, Bool.eq_iff_iff, List.any_eq_true, decide_eq_true_eq]
 constructor
 ·rintro ⟨k, hk, hp⟩
  have hk := List.mem_range'_1.mp hk
  have hp := of_decide_eq_true hp
  have hv : k ≠ 13 := by
   rintro rfl
   rw [pc_none (by omega)] at hp
   exact hp.1 rfl
  rw [hp.2, (sd_pc (by omega) (by omega) (by omega) (by omega)).1]
 ·intro h
  have hkd := kd_sd (by omega) h
  have hb := kd_bounds (B.getD c 0)
  refine ⟨(kd (B.getD c 0)).toNat, List.mem_range'_1.mpr (by omega), ?_⟩
  unfold pcs
  rw [decide_eq_true_eq, show (((kd (B.getD c 0)).toNat : Nat) : Int) = kd (B.getD c 0) by omega, ← h, ← pc_of hkd]
  refine ⟨fun h0 => ?_, rfl⟩
  rw [h0] at hkd
  exact hkd kd_zero
theorem holds31 (cap : Nat) (rows : List (List Int)) (b h : List Int) (s : Int) {B : List Int} (hB : Clean B) (hB' : List Int) (sB : Int) (t1 t2 : Int) : ∀ (n i : Nat), i + n = 2 → ∀ F,
  law05_BoardHoldsl31 (F + n + 1) i cap rows b h s B hB' sB (byOf B) (sidesOf B) B t1 t2 = some (.inr (cap, rows, b, h, s, B, hB', sB, byOf B, sidesOf B, t1, t2)) := by
 intro n
 induction n with
 | zero =>
   intro i hi F
   show law05_BoardHoldsl31s (law05_BoardHoldsl31 (F + 0)) _ _ _ _ _ _ _ _ _ _ _ _ _ _ = _
   unfold law05_BoardHoldsl31s
   rw [b_nlt (by omega)]
 | succ n ih =>
   intro i hi F
   show law05_BoardHoldsl31s (law05_BoardHoldsl31 (F + n + 1)) _ _ _ _ _ _ _ _ _ _ _ _ _ _ = _
   unfold law05_BoardHoldsl31s
   obtain ⟨g, hg⟩ := many_eq 15 (by omega)
   have h0 : upK B i 1 = fun _ => false := by funext c; unfold upK; simp
   have := holds35 cap rows b h s hB hB' sB t1 t2 (sd' := i) (by omega) 15 1 (by omega) (by omega) g
   rw [← hg, h0, sLo_false, sHi_false] at this
   rw [b_lt (by omega), show law05_BoardHoldsl35 many i 1 cap rows b h s B hB' sB (byOf B) (sidesOf B) B t1 t2 0 0 = _ from this, ob_some, sw_inr]
   simp only
   have e := set_congr (f := sdP B i) (g := upK B i 16) fun c hc => (upK_all hB (by omega) hc).symm
   rw [piecesB_val, ob_some]
   simp only
   rw [e.1, e.2, beq_self_eq_true, beq_self_eq_true, w_s (n := (i : Int) + 1) (by omega) (by omega)]
   exact ih (i + 1) (by omega) F
theorem boardHolds_true {b : List Int} (h : List Int) (s : Int) (hl : b.length = 81) (cap : Nat) (rows : List (List Int)) : law05_BoardHolds b h s 0 rows.length cap rows = some true := by
 unfold law05_BoardHolds
 rw [begins_true, ob_some]
 simp only [Bool.not_true, b_f]
 by_cases hr : Int.ofNat rows.length > 100
 ·rw [b_gt hr]
 ·have hr' : rows.length ≤ 100 := by simp only [Int.ofNat_eq_natCast] at hr; omega
  rw [b_ngt hr, new_full hl, ob_some]
  simp only
  obtain ⟨g, hg⟩ := many_eq 81 (by omega)
  have t8 := holds8 hl 0 rows.length cap rows h s (cl b) h s (byOf (cl b)) (sidesOf (cl b)) 81 0 (by omega) (List.replicate 81 0) rfl (fun j hj => by
   rw [if_neg (by omega), at_i (by simpa using hj), List.getElem_replicate]) g
  rw [← hg] at t8
  show ob (law05_BoardHoldsl8 many 0 rows.length b ((0 : Nat) : Int) cap rows b h s (cl b) h s (byOf (cl b)) (sidesOf (cl b)) (List.replicate 81 0)) _ = _
  rw [t8, ob_some]
  simp only
  obtain ⟨g, hg⟩ := many_eq rows.length (by omega)
  have t14 := holds14 cap rows hr' b h s rows.length 0 (by omega) (cl_clean hl) g
  rw [← hg, List.drop_zero] at t14
  rw [show law05_BoardHoldsl14 many 0 rows.length (Int.ofNat rows.length) 0 cap rows b h s (cl b) h s (byOf (cl b)) (sidesOf (cl b)) (cl b) = _ from t14, ob_some]
  simp only
  have hB := putsB_clean rows (cl_clean hl)
  obtain ⟨g, hg⟩ := many_eq 81 (by omega)
  have h0 : (fun c : Nat => decide (c < 0) && tk (putsB (cl b) rows) c) = fun _ => false := by funext c; simp
  have t24 := holds24 cap rows b h s hB h s 81 0 (by omega) g
  rw [← hg, h0, sLo_false, sHi_false] at t24
  rw [show law05_BoardHoldsl24 many 0 cap rows b h s (putsB (cl b) rows) h s (byOf (putsB (cl b) rows)) (sidesOf (putsB (cl b) rows)) (putsB (cl b) rows) 0 0 = _ from t24, ob_some, sw_inr]
  simp only
  obtain ⟨g, hg⟩ := many_eq 2 (by omega)
  have t31 := holds31 cap rows b h s hB h s (sLo (tk (putsB (cl b) rows))) (sHi (tk (putsB (cl b) rows))) 2 0 (by omega) g
  rw [← hg] at t31
  rw [show law05_BoardHoldsl31 many 0 cap rows b h s (putsB (cl b) rows) h s (byOf (putsB (cl b) rows)) (sidesOf (putsB (cl b) rows)) (putsB (cl b) rows) (sLo (tk (putsB (cl b) rows))) (sHi (tk (putsB (cl b) rows))) = _ from t31, ob_some, sw_inr]
  simp only
  rw [takenB_val hB, ob_some]
  simp only [beq_self_eq_true, Bool.and_self, b_t]
end Go.Kk.Pl
