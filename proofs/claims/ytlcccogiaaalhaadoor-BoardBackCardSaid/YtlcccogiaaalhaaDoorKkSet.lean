/-
  Sets of squares, plainly: two words told by which squares they hold.
-/
import Derived.Test.YtlcccogiaaalhaaDoorKkG
namespace Go.Kk.Pl

/-! ### words of bits -/

/-- The number whose first 'n' bits are told. -/
def bitsN (f : Nat → Bool) : Nat → Nat
  | 0 => 0
  | n + 1 => bitsN f n + bif f n then 2 ^ n else 0

theorem bitsN_lt (f : Nat → Bool) : ∀ n, bitsN f n < 2 ^ n
  | 0 => Nat.one_pos
  | n + 1 => by
    have := bitsN_lt f n
    simp only [bitsN]
    rw [Nat.pow_succ]
    cases f n <;> simp <;> omega

theorem bitsN_bit (f : Nat → Bool) : ∀ n i, (bitsN f n).testBit i = (decide (i < n) && f i)
  | 0, i => by simp [bitsN]
  | n + 1, i => by
    have ih := bitsN_bit f n
    have hlt := bitsN_lt f n
    have e : bitsN f (n + 1) = 2 ^ n * (f n).toNat + bitsN f n := by
      simp only [bitsN]
      cases f n <;> simp [Nat.add_comm]
    rw [e, Nat.testBit_two_pow_mul_add _ hlt]
    by_cases h : i < n
    · rw [if_pos h, ih i]
      simp [h, show i < n + 1 by omega]
    · rw [if_neg h]
      by_cases h2 : i = n
      · subst h2
        simp only [Nat.sub_self, Nat.lt_succ_self, decide_true, Bool.true_and]
        cases f i <;> rfl
      · rw [show decide (i < n + 1) = false by simp; omega, Bool.false_and]
        have : 1 ≤ i - n := by omega
        obtain ⟨k, hk⟩ : ∃ k, i - n = k + 1 := ⟨i - n - 1, by omega⟩
        rw [hk]
        cases f n
        · simp
        · show Nat.testBit 1 (k + 1) = false
          rw [Nat.testBit_succ]; simp

theorem bitsN_congr {f g : Nat → Bool} : ∀ {n : Nat}, (∀ i, i < n → f i = g i) → bitsN f n = bitsN g n
  | 0, _ => rfl
  | n + 1, h => by
    simp only [bitsN]
    rw [bitsN_congr fun i hi => h i (by omega), h n (by omega)]
theorem bitsN_inj {f g : Nat → Bool} {n : Nat} (h : bitsN f n = bitsN g n) : ∀ i, i < n → f i = g i := by
  intro i hi
  have h1 := bitsN_bit f n i
  have h2 := bitsN_bit g n i
  rw [h, h2] at h1
  simpa [hi] using h1.symm
theorem bitsN_eq {f : Nat → Bool} {n x : Nat} (hx : x < 2 ^ n) (h : ∀ i, i < n → x.testBit i = f i) : x = bitsN f n := by
  apply Nat.eq_of_testBit_eq
  intro i
  rw [bitsN_bit]
  by_cases hi : i < n
  · simp [hi, h i hi]
  · rw [show decide (i < n) = false by simp [hi], Bool.false_and]
    exact Nat.testBit_lt_two_pow (Nat.lt_of_lt_of_le hx (Nat.pow_le_pow_right (by omega) (by omega)))

/-! ### operations on words -/

theorem wrap_nat {n : Nat} (h : n < 2 ^ 64) : IntKind.wrap .u64 (n : Int) = n := by
  refine wrap_of_range ?_ ?_ <;> simp [IntKind.min, IntKind.max, IntKind.signed, IntKind.bits] <;> omega
theorem ofInt_nat (a : Nat) : BitVec.ofInt 64 (a : Int) = BitVec.ofNat 64 a := by simp
theorem bitop_and {a b : Nat} (ha : a < 2 ^ 64) (hb : b < 2 ^ 64) : bitop .and .u64 (a : Int) (b : Int) = ((a &&& b : Nat) : Int) := by
  unfold bitop
  show IntKind.wrap .u64 _ = _
  rw [show IntKind.bits .u64 = 64 from rfl, ofInt_nat, ofInt_nat, BitVec.toNat_and, BitVec.toNat_ofNat, BitVec.toNat_ofNat, Nat.mod_eq_of_lt ha, Nat.mod_eq_of_lt hb]
  exact wrap_nat (Nat.lt_of_le_of_lt Nat.and_le_left ha)
theorem bitop_or {a b : Nat} (ha : a < 2 ^ 64) (hb : b < 2 ^ 64) : bitop .or .u64 (a : Int) (b : Int) = ((a ||| b : Nat) : Int) := by
  unfold bitop
  show IntKind.wrap .u64 _ = _
  rw [show IntKind.bits .u64 = 64 from rfl, ofInt_nat, ofInt_nat, BitVec.toNat_or, BitVec.toNat_ofNat, BitVec.toNat_ofNat, Nat.mod_eq_of_lt ha, Nat.mod_eq_of_lt hb]
  exact wrap_nat (Nat.or_lt_two_pow ha hb)
theorem bitop_andNot {a b : Nat} (ha : a < 2 ^ 64) (hb : b < 2 ^ 64) : bitop .andNot .u64 (a : Int) (b : Int) = ((a &&& (2 ^ 64 - (b + 1)) : Nat) : Int) := by
  unfold bitop
  show IntKind.wrap .u64 _ = _
  rw [show IntKind.bits .u64 = 64 from rfl, ofInt_nat, ofInt_nat, BitVec.toNat_and, BitVec.toNat_not, BitVec.toNat_ofNat, BitVec.toNat_ofNat, Nat.mod_eq_of_lt ha, Nat.mod_eq_of_lt hb]
  rw [show 2 ^ 64 - 1 - b = 2 ^ 64 - (b + 1) by omega]
  exact wrap_nat (Nat.lt_of_le_of_lt Nat.and_le_left ha)

theorem lt64 (f : Nat → Bool) {n : Nat} (h : n ≤ 64) : bitsN f n < 2 ^ 64 := Nat.lt_of_lt_of_le (bitsN_lt f n) (Nat.pow_le_pow_right (by omega) h)
theorem and_bits (f g : Nat → Bool) {n : Nat} (h : n ≤ 64) : bitop .and .u64 (bitsN f n : Nat) (bitsN g n : Nat) = (bitsN (fun i => f i && g i) n : Nat) := by
  rw [bitop_and (lt64 f h) (lt64 g h)]
  congr 1
  refine bitsN_eq (Nat.lt_of_le_of_lt Nat.and_le_left (bitsN_lt f n)) fun i hi => ?_
  rw [Nat.testBit_and, bitsN_bit, bitsN_bit]
  simp [hi]
theorem or_bits (f g : Nat → Bool) {n : Nat} (h : n ≤ 64) : bitop .or .u64 (bitsN f n : Nat) (bitsN g n : Nat) = (bitsN (fun i => f i || g i) n : Nat) := by
  rw [bitop_or (lt64 f h) (lt64 g h)]
  congr 1
  refine bitsN_eq (Nat.or_lt_two_pow (bitsN_lt f n) (bitsN_lt g n)) fun i hi => ?_
  rw [Nat.testBit_or, bitsN_bit, bitsN_bit]
  simp [hi]
theorem andNot_bits (f g : Nat → Bool) {n : Nat} (h : n ≤ 64) : bitop .andNot .u64 (bitsN f n : Nat) (bitsN g n : Nat) = (bitsN (fun i => f i && !g i) n : Nat) := by
  rw [bitop_andNot (lt64 f h) (lt64 g h)]
  congr 1
  refine bitsN_eq (Nat.lt_of_le_of_lt Nat.and_le_left (bitsN_lt f n)) fun i hi => ?_
  rw [Nat.testBit_and, bitsN_bit, Nat.testBit_two_pow_sub_succ (lt64 g h), bitsN_bit]
  simp [hi, show i < 64 by omega]

/-! ### sets -/

/-- The lower word of a set; its higher one. -/
def sLo (f : Nat → Bool) : Int := (bitsN f 63 : Nat)
def sHi (f : Nat → Bool) : Int := (bitsN (fun i => f (63 + i)) 18 : Nat)
/-- Just one square. -/
def only (q : Int) (i : Nat) : Bool := decide ((i : Int) = q)
/-- Is a square in a set? -/
def has (f : Nat → Bool) (q : Int) : Bool := decide (0 ≤ q) && (decide (q < 81) && f q.toNat)
/-- Has a set no square? -/
def isE (f : Nat → Bool) : Bool := (List.range 81).all fun i => !f i

theorem set_congr {f g : Nat → Bool} (h : ∀ i, i < 81 → f i = g i) : sLo f = sLo g ∧ sHi f = sHi g := by
  unfold sLo sHi
  rw [bitsN_congr (f := f) (g := g) fun i hi => h i (by omega), bitsN_congr (f := fun i => f (63 + i)) (g := fun i => g (63 + i)) fun i hi => h _ (by omega)]
  exact ⟨rfl, rfl⟩
theorem set_inj {f g : Nat → Bool} (h1 : sLo f = sLo g) (h2 : sHi f = sHi g) : ∀ i, i < 81 → f i = g i := by
  intro i hi
  unfold sLo at h1
  unfold sHi at h2
  by_cases h : i < 63
  · exact bitsN_inj (Int.ofNat.inj h1) i h
  · have := bitsN_inj (Int.ofNat.inj h2) (i - 63) (by omega)
    simpa [show 63 + (i - 63) = i by omega] using this
theorem set_beq (f g : Nat → Bool) : (sLo f == sLo g && sHi f == sHi g) = (List.range 81).all fun i => f i == g i := by
  rw [Bool.eq_iff_iff]
  simp only [Bool.and_eq_true, beq_iff_eq, List.all_eq_true, List.mem_range]
  exact ⟨fun h i hi => set_inj h.1 h.2 i hi, fun h => set_congr h⟩
theorem bitsN_false : ∀ n, bitsN (fun _ => false) n = 0
  | 0 => rfl
  | n + 1 => by simp [bitsN, bitsN_false n]
theorem sLo_false : sLo (fun _ => false) = 0 := by unfold sLo; rw [bitsN_false]; rfl
theorem sHi_false : sHi (fun _ => false) = 0 := by unfold sHi; rw [bitsN_false]; rfl
theorem empty_beq (f : Nat → Bool) : (sLo f == 0 && sHi f == 0) = isE f := by
  have := set_beq f fun _ => false
  rw [sLo_false, sHi_false] at this
  rw [this]
  unfold isE
  congr 1
  funext i
  cases f i <;> rfl
theorem isE_iff {f : Nat → Bool} : isE f = true ↔ ∀ i, i < 81 → f i = false := by simp [isE]

theorem bit_all : ∀ q : Fin 81, set_bit ((q.val : Nat) : Int) = some (sLo (only ((q.val : Nat) : Int)), sHi (only ((q.val : Nat) : Int))) := by decide +kernel
theorem only_out {q : Int} (h : ¬ (0 ≤ q ∧ q < 81)) : sLo (only q) = 0 ∧ sHi (only q) = 0 := by
  have h := set_congr (f := only q) (g := fun _ => false) fun i hi => by unfold only; simp; omega
  rw [sLo_false, sHi_false] at h
  exact h
theorem bit_val (q : Int) : set_bit q = some (sLo (only q), sHi (only q)) := by
  by_cases h : 0 ≤ q ∧ q < 81
  · have := bit_all ⟨q.toNat, by omega⟩
    simpa [show ((q.toNat : Nat) : Int) = q by omega] using this
  · obtain ⟨h1, h2⟩ := only_out h
    rw [h1, h2]
    unfold set_bit
    by_cases h0 : q < 0
    · rw [br_true (by simpa using h0)]
    · rw [br_false (by simpa using h0), br_true (by simp; omega)]

theorem or_val (f g : Nat → Bool) : set_Or (sLo f) (sHi f) (sLo g) (sHi g) = some (sLo fun i => f i || g i, sHi fun i => f i || g i) := by
  unfold set_Or sLo sHi
  rw [or_bits _ _ (by omega), or_bits _ _ (by omega)]
theorem and_val (f g : Nat → Bool) : set_And (sLo f) (sHi f) (sLo g) (sHi g) = some (sLo fun i => f i && g i, sHi fun i => f i && g i) := by
  unfold set_And sLo sHi
  rw [and_bits _ _ (by omega), and_bits _ _ (by omega)]
theorem minus_val (f g : Nat → Bool) : set_Minus (sLo f) (sHi f) (sLo g) (sHi g) = some (sLo fun i => f i && !g i, sHi fun i => f i && !g i) := by
  unfold set_Minus sLo sHi
  rw [andNot_bits _ _ (by omega), andNot_bits _ _ (by omega)]
theorem with_val (f : Nat → Bool) (q : Int) : set_With (sLo f) (sHi f) q = some (sLo fun i => f i || only q i, sHi fun i => f i || only q i) := by
  unfold set_With
  rw [bit_val, ob_some]
  simp only
  rw [or_val, ob_some]
theorem without_val (f : Nat → Bool) (q : Int) : set_Without (sLo f) (sHi f) q = some (sLo fun i => f i && !only q i, sHi fun i => f i && !only q i) := by
  unfold set_Without
  rw [bit_val, ob_some]
  simp only
  rw [minus_val, ob_some]
theorem empty_val (f : Nat → Bool) : set_Empty (sLo f) (sHi f) = some (isE f) := by
  unfold set_Empty
  rw [empty_beq]
theorem has_val (f : Nat → Bool) (q : Int) : set_Has (sLo f) (sHi f) q = some (has f q) := by
  unfold set_Has
  rw [bit_val, ob_some]
  simp only
  rw [and_val, ob_some]
  simp only
  rw [empty_val, ob_some]
  congr 1
  rw [Bool.eq_iff_iff]
  unfold has
  simp only [Bool.not_eq_true', Bool.and_eq_true, decide_eq_true_eq]
  constructor
  · intro h
    rw [Bool.eq_false_iff] at h
    simp only [ne_eq, isE_iff] at h
    by_cases hq : 0 ≤ q ∧ q < 81
    · refine ⟨hq.1, hq.2, ?_⟩
      by_cases hf : f q.toNat = true
      · exact hf
      · refine absurd (fun i hi => ?_) h
        unfold only
        by_cases hiq : (i : Int) = q
        · have : i = q.toNat := by omega
          subst this
          simp at hf
          simp [hf]
        · simp [hiq]
    · refine absurd (fun i hi => ?_) h
      unfold only
      have : ¬ (i : Int) = q := by omega
      simp [this]
  · intro ⟨h0, h1, h2⟩
    rw [Bool.eq_false_iff]
    simp only [ne_eq, isE_iff]
    intro h
    have := h q.toNat (by omega)
    simp [only, h2, show max q 0 = q by omega] at this

end Go.Kk.Pl
