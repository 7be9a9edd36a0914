/-
  Sets of squares, plainly: the first square, all squares in their order.
-/
import Derived.Test.YtlcccogiaaalhaaDoorKkSet
namespace Go.Kk.Pl

/-! ### the lowest bit -/

theorem least {p : Nat → Bool} {j n : Nat} (h : ∃ i, j ≤ i ∧ i < n ∧ p i = true) : ∃ k, j ≤ k ∧ k < n ∧ p k = true ∧ ∀ i, j ≤ i → i < k → p i = false := by
  obtain ⟨i, h1, h2, h3⟩ := h
  induction hd : i - j generalizing i j with
  | zero => exact ⟨i, h1, h2, h3, fun x a b => by omega⟩
  | succ d ih =>
    cases hp : p j with
    | true => exact ⟨j, Nat.le_refl _, by omega, hp, fun x a b => by omega⟩
    | false =>
      obtain ⟨k, a, b, c, e⟩ := ih (j := j + 1) i (by omega) h2 h3 (by omega)
      refine ⟨k, by omega, b, c, fun x a' b' => ?_⟩
      by_cases hx : x = j
      · subst hx; exact hp
      · exact e x (by omega) b'

section
variable {f : Nat → Bool} {n k : Nat} (hk : k < n) (hf : f k = true) (hl : ∀ i, i < k → f i = false)
include hk hf hl

theorem low_split : bitsN f n = 2 ^ (k + 1) * (bitsN f n / 2 ^ (k + 1)) + 2 ^ k := by
  have h1 := Nat.div_add_mod (bitsN f n) (2 ^ (k + 1))
  have h2 : bitsN f n % 2 ^ (k + 1) = 2 ^ k := by
    apply Nat.eq_of_testBit_eq
    intro i
    rw [Nat.testBit_mod_two_pow, bitsN_bit, Nat.testBit_two_pow]
    by_cases h : i < k
    · rw [hl i h]; simp; omega
    · by_cases h3 : i = k
      · subst h3; simp [hf, hk]
      · rw [show decide (i < k + 1) = false by simp; omega, Bool.false_and]; simp; omega
  omega
theorem low_pred (i : Nat) : (bitsN f n - 1).testBit i = if i < k then true else if i = k then false else (bitsN f n).testBit i := by
  have h := low_split hk hf hl
  have hp : 0 < 2 ^ k := Nat.two_pow_pos k
  have h2 : bitsN f n - 1 = 2 ^ (k + 1) * (bitsN f n / 2 ^ (k + 1)) + (2 ^ k - 1) := by omega
  have hlt : 2 ^ k - 1 < 2 ^ (k + 1) := by rw [Nat.pow_succ]; omega
  have hlt2 : 2 ^ k < 2 ^ (k + 1) := by rw [Nat.pow_succ]; omega
  rw [h2, Nat.testBit_two_pow_mul_add _ hlt, Nat.testBit_two_pow_sub_one]
  by_cases h3 : i < k
  · simp [h3, show i < k + 1 by omega]
  · by_cases h4 : i = k
    · subst h4; simp
    · rw [if_neg (by omega), if_neg h3, if_neg h4]
      conv => rhs; rw [h, Nat.testBit_two_pow_mul_add _ hlt2, if_neg (by omega)]
theorem low_pos : 0 < bitsN f n := by
  have := low_split hk hf hl
  have hp : 0 < 2 ^ k := Nat.two_pow_pos k
  omega
theorem low_bit (hn : n ≤ 64) : bitsN f n &&& (2 ^ 64 - bitsN f n) = 2 ^ k := by
  have hpos := low_pos hk hf hl
  apply Nat.eq_of_testBit_eq
  intro i
  have e : 2 ^ 64 - bitsN f n = 2 ^ 64 - ((bitsN f n - 1) + 1) := by omega
  have hlt := lt64 f hn
  rw [Nat.testBit_and, e, Nat.testBit_two_pow_sub_succ (by omega), low_pred hk hf hl, Nat.testBit_two_pow]
  by_cases h3 : i < k
  · rw [if_pos h3]; simp; omega
  · by_cases h4 : i = k
    · subst h4
      rw [bitsN_bit]
      simp [hf, hk]; omega
    · rw [if_neg h3, if_neg h4]
      cases (bitsN f n).testBit i <;> simp <;> omega
theorem low_drop : bitsN f n &&& (bitsN f n - 1) = bitsN (fun i => f i && decide (k < i)) n := by
  refine bitsN_eq (Nat.lt_of_le_of_lt Nat.and_le_left (bitsN_lt f n)) fun i hi => ?_
  rw [Nat.testBit_and, low_pred hk hf hl, bitsN_bit]
  by_cases h3 : i < k
  · rw [hl i h3]; simp
  · by_cases h4 : i = k
    · subst h4; simp
    · rw [if_neg h3, if_neg h4]
      simp [hi, show k < i by omega]
end

theorem tz_all : ∀ k : Fin 64, inB (Int.fdiv (IntKind.wrap IntKind.u64 (((2 ^ k.val : Nat) : Int) * 285870213051353865)) 288230376151711744) 64 = true ∧
    conv IntKind.u8 IntKind.i64 (List.getD [0, 1, 56, 2, 57, 49, 28, 3, 61, 58, 42, 50, 38, 29, 17, 4, 62, 47, 59, 36, 45, 43, 51, 22, 53, 39, 33, 30, 24, 18, 12, 5, 63, 55, 48, 27, 60, 41, 37, 16, 46, 35, 44, 21, 52, 32, 23, 11, 54, 26, 40, 15, 34, 20, 31, 10, 25, 14, 19, 9, 13, 8, 7, 6] (Int.toNat (Int.fdiv (IntKind.wrap IntKind.u64 (((2 ^ k.val : Nat) : Int) * 285870213051353865)) 288230376151711744)) 0) = ((k.val : Nat) : Int) := by decide +kernel

theorem neg_nat {x : Nat} (h0 : 0 < x) (h1 : x < 2 ^ 64) : IntKind.wrap .u64 (0 - (x : Int)) = ((2 ^ 64 - x : Nat) : Int) := by
  have : (0 - (x : Int)) % 18446744073709551616 = 18446744073709551616 - x := by omega
  simp only [IntKind.wrap, IntKind.signed, IntKind.bits]
  simp
  omega
theorem pred_nat {x : Nat} (h0 : 0 < x) (h1 : x < 2 ^ 64) : IntKind.wrap .u64 ((x : Int) - 1) = ((x - 1 : Nat) : Int) := by
  rw [show (x : Int) - 1 = ((x - 1 : Nat) : Int) by omega]
  exact wrap_nat (by omega)

/-- The number of noughts ahead of the first one. -/
theorem tz_val {f : Nat → Bool} {n k : Nat} (hn : n ≤ 64) (hk : k < n) (hf : f k = true) (hl : ∀ i, i < k → f i = false) : bits_TrailingZeros64 (bitsN f n : Nat) = some (k : Int) := by
  have hpos := low_pos hk hf hl
  have hlt := lt64 f hn
  unfold bits_TrailingZeros64 bits_TrailingZeros64b
  rw [br_false (by simp; omega), neg_nat hpos hlt, bitop_and hlt (by omega), low_bit hk hf hl hn]
  obtain ⟨a, b⟩ := tz_all ⟨k, by omega⟩
  simp only at a b
  rw [br_true a, b]

theorem bits_zero {f : Nat → Bool} {n : Nat} : bitsN f n = 0 ↔ ∀ i, i < n → f i = false := by
  constructor
  · intro h i hi
    have := bitsN_bit f n i
    rw [h] at this
    simpa [hi] using this.symm
  · intro h
    rw [bitsN_congr (g := fun _ => false) h, bitsN_false]

/-! ### the first square -/

/-- The least square of a set; -1: it has none. -/
def fst (f : Nat → Bool) : Int := match (List.range 81).find? f with
  | some i => i
  | none => -1

theorem fst_some {f : Nat → Bool} {k : Nat} (hk : k < 81) (hf : f k = true) (hl : ∀ i, i < k → f i = false) : fst f = k := by
  unfold fst
  have : (List.range 81).find? f = some k := by
    rw [List.find?_eq_some_iff_getElem]
    exact ⟨hf, k, by simpa using hk, by simp, fun j hj => by simp [hl j hj]⟩
  rw [this]
theorem fst_none {f : Nat → Bool} (h : ∀ i, i < 81 → f i = false) : fst f = -1 := by
  unfold fst
  have : (List.range 81).find? f = none := by simpa using h
  rw [this]

theorem first_val (f : Nat → Bool) : set_First (sLo f) (sHi f) = some (fst f) := by
  unfold set_First
  by_cases h : ∃ i, 0 ≤ i ∧ i < 63 ∧ f i = true
  · obtain ⟨k, _, hk, hf, hl⟩ := least h
    have hpos := low_pos hk hf fun i hi => hl i (Nat.zero_le _) hi
    rw [br_true (by unfold sLo; simp; omega)]
    unfold sLo
    rw [tz_val (by omega) hk hf fun i hi => hl i (Nat.zero_le _) hi, ob_some, fst_some (by omega) hf fun i hi => hl i (Nat.zero_le _) hi]
  · have h1 : ∀ i, i < 63 → f i = false := fun i hi => by
      cases hf : f i with
      | false => rfl
      | true => exact absurd ⟨i, Nat.zero_le _, hi, hf⟩ h
    rw [br_false (by unfold sLo; rw [bits_zero.2 h1]; rfl)]
    by_cases h2 : ∃ i, 0 ≤ i ∧ i < 18 ∧ f (63 + i) = true
    · obtain ⟨k, _, hk, hf, hl⟩ := least (p := fun i => f (63 + i)) h2
      have hpos := low_pos (f := fun i => f (63 + i)) hk hf fun i hi => hl i (Nat.zero_le _) hi
      rw [br_true (by unfold sHi; simp; omega)]
      unfold sHi
      rw [tz_val (f := fun i => f (63 + i)) (by omega) hk hf fun i hi => hl i (Nat.zero_le _) hi, ob_some, wrap_small (by omega) (by omega), fst_some (k := 63 + k) (by omega) hf fun i hi => ?_]
      · simp
      · by_cases hi2 : i < 63
        · exact h1 i hi2
        · have := hl (i - 63) (Nat.zero_le _) (by omega)
          simpa [show 63 + (i - 63) = i by omega] using this
    · have h3 : ∀ i, i < 18 → f (63 + i) = false := fun i hi => by
        cases hf : f (63 + i) with
        | false => rfl
        | true => exact absurd ⟨i, Nat.zero_le _, hi, hf⟩ h2
      rw [br_false (by unfold sHi; rw [bits_zero.2 h3]; rfl), fst_none]
      intro i hi
      by_cases hi2 : i < 63
      · exact h1 i hi2
      · have := h3 (i - 63) (by omega)
        simpa [show 63 + (i - 63) = i by omega] using this

/-! ### all squares -/

/-- The squares of a set, rising. -/
def sq (f : Nat → Bool) : List Int := ((List.range 81).filter f).map Int.ofNat

theorem filter_range_skip {f : Nat → Bool} {j k : Nat} (hjk : j ≤ k) (h : ∀ i, j ≤ i → i < k → f i = false) : (List.range k).filter f = (List.range j).filter f := by
  induction k with
  | zero => rw [show j = 0 by omega]
  | succ k ih =>
    by_cases hj : j = k + 1
    · rw [hj]
    · rw [List.range_succ, List.filter_append, ih (by omega) fun i a b => h i a (by omega)]
      simp [h k (by omega) (by omega)]
theorem filter_range_next {f : Nat → Bool} {j k : Nat} (hjk : j ≤ k) (h : ∀ i, j ≤ i → i < k → f i = false) (hf : f k = true) : (List.range (k + 1)).filter f = (List.range j).filter f ++ [k] := by
  rw [List.range_succ, List.filter_append, filter_range_skip hjk h]
  simp [hf]

theorem app_take {l : List Int} {n : Nat} (h : n = l.length) (x : List Int) : List.append (List.take n l) x = l ++ x := by
  subst h; simp [List.take_length]

theorem sq_lo (f : Nat → Bool) (hi : Int) : ∀ (d j : Nat), 63 - j = d → j ≤ 63 → ∀ g, d < g →
    set_Squaresl2 g ((List.range j).filter f).length (bitsN (fun i => f i && decide (j ≤ i)) 63 : Nat) hi ((List.range j).filter f).length (((List.range j).filter f).map Int.ofNat) =
      some (((List.range 63).filter f).length, 0, hi, ((List.range 63).filter f).length, ((List.range 63).filter f).map Int.ofNat) := by
  intro d
  induction d using Nat.strongRecOn with
  | ind d ih =>
    intro j hd hj g hg
    obtain ⟨g, rfl⟩ : ∃ g', g = g' + 1 := ⟨g - 1, by omega⟩
    show set_Squaresl2s (set_Squaresl2 g) _ _ _ _ _ = _
    unfold set_Squaresl2s
    by_cases h : ∃ i, j ≤ i ∧ i < 63 ∧ f i = true
    · obtain ⟨k, h1, h2, h3, h4⟩ := least h
      have hl : ∀ i, i < k → (f i && decide (j ≤ i)) = false := fun i hi => by
        by_cases hji : j ≤ i
        · rw [h4 i hji hi]; rfl
        · simp [hji]
      have hf : (f k && decide (j ≤ k)) = true := by simp [h3, h1]
      have hpos := low_pos (f := fun i => f i && decide (j ≤ i)) h2 hf hl
      have hlen : ((List.range j).filter f).length ≤ 63 := Nat.le_trans (List.length_filter_le _ _) (by simpa using hj)
      rw [br_true (by simp; omega), tz_val (f := fun i => f i && decide (j ≤ i)) (by omega) h2 hf hl, ob_some, br_true (by simp; omega), app_take (by simp),
        pred_nat hpos (lt64 _ (by omega)), bitop_and (lt64 _ (by omega)) (Nat.lt_of_le_of_lt (Nat.sub_le _ _) (lt64 (fun i => f i && decide (j ≤ i)) (by omega))), low_drop h2 hf hl,
        bitsN_congr (g := fun i => f i && decide (k + 1 ≤ i)) fun i _ => by
          by_cases hki : k < i
          · simp [show k + 1 ≤ i by omega, show j ≤ i by omega, hki]
          · simp [hki, show ¬ k + 1 ≤ i by omega]]
      have hn := filter_range_next h1 h4 h3
      have := ih (63 - (k + 1)) (by omega) (k + 1) rfl (by omega) g (by omega)
      rw [hn] at this
      simpa using this
    · have h5 : ∀ i, j ≤ i → i < 63 → f i = false := fun i a b => by
        cases hf : f i with
        | false => rfl
        | true => exact absurd ⟨i, a, b, hf⟩ h
      have hz : bitsN (fun i => f i && decide (j ≤ i)) 63 = 0 := bits_zero.2 fun i hi => by
        by_cases hji : j ≤ i
        · rw [h5 i hji hi]; rfl
        · simp [hji]
      rw [hz, br_false (by rfl), filter_range_skip hj h5]
      rfl

theorem sq_hi (f : Nat → Bool) (l : List Int) (lo : Int) (hl0 : l.length ≤ 63) : ∀ (d j : Nat), 18 - j = d → j ≤ 18 → ∀ g, d < g →
    set_Squaresl5 g (l ++ ((List.range j).filter fun i => f (63 + i)).map fun i => Int.ofNat (63 + i)).length lo (bitsN (fun i => f (63 + i) && decide (j ≤ i)) 18 : Nat) (l ++ ((List.range j).filter fun i => f (63 + i)).map fun i => Int.ofNat (63 + i)).length
      (l ++ ((List.range j).filter fun i => f (63 + i)).map fun i => Int.ofNat (63 + i)) =
      some ((l ++ ((List.range 18).filter fun i => f (63 + i)).map fun i => Int.ofNat (63 + i)).length, (l ++ ((List.range 18).filter fun i => f (63 + i)).map fun i => Int.ofNat (63 + i)).length, l ++ ((List.range 18).filter fun i => f (63 + i)).map fun i => Int.ofNat (63 + i)) := by
  intro d
  induction d using Nat.strongRecOn with
  | ind d ih =>
    intro j hd hj g hg
    obtain ⟨g, rfl⟩ : ∃ g', g = g' + 1 := ⟨g - 1, by omega⟩
    show set_Squaresl5s (set_Squaresl5 g) _ _ _ _ _ = _
    unfold set_Squaresl5s
    by_cases h : ∃ i, j ≤ i ∧ i < 18 ∧ f (63 + i) = true
    · obtain ⟨k, h1, h2, h3, h4⟩ := least (p := fun i => f (63 + i)) h
      have hl : ∀ i, i < k → (f (63 + i) && decide (j ≤ i)) = false := fun i hi => by
        by_cases hji : j ≤ i
        · rw [h4 i hji hi]; rfl
        · simp [hji]
      have hf : (f (63 + k) && decide (j ≤ k)) = true := by simp [h3, h1]
      have hpos := low_pos (f := fun i => f (63 + i) && decide (j ≤ i)) h2 hf hl
      have hlen : ((List.range j).filter fun i => f (63 + i)).length ≤ 18 := Nat.le_trans (List.length_filter_le _ _) (by simpa using hj)
      rw [br_true (by simp; omega), tz_val (f := fun i => f (63 + i) && decide (j ≤ i)) (by omega) h2 hf hl, ob_some, br_true (by simp; omega), app_take rfl,
        pred_nat hpos (lt64 _ (by omega)), bitop_and (lt64 _ (by omega)) (Nat.lt_of_le_of_lt (Nat.sub_le _ _) (lt64 (fun i => f (63 + i) && decide (j ≤ i)) (by omega))), low_drop h2 hf hl,
        bitsN_congr (g := fun i => f (63 + i) && decide (k + 1 ≤ i)) fun i _ => by
          by_cases hki : k < i
          · simp [show k + 1 ≤ i by omega, show j ≤ i by omega, hki]
          · simp [hki, show ¬ k + 1 ≤ i by omega], wrap_small (by omega) (by omega)]
      have hn := filter_range_next (f := fun i => f (63 + i)) h1 h4 h3
      have := ih (18 - (k + 1)) (by omega) (k + 1) rfl (by omega) g (by omega)
      rw [hn] at this
      simpa [Nat.add_assoc] using this
    · have h5 : ∀ i, j ≤ i → i < 18 → f (63 + i) = false := fun i a b => by
        cases hf : f (63 + i) with
        | false => rfl
        | true => exact absurd ⟨i, a, b, hf⟩ h
      have hz : bitsN (fun i => f (63 + i) && decide (j ≤ i)) 18 = 0 := bits_zero.2 fun i hi => by
        by_cases hji : j ≤ i
        · rw [h5 i hji hi]; rfl
        · simp [hji]
      rw [hz, br_false (by rfl), filter_range_skip (f := fun i => f (63 + i)) hj h5]

theorem range81 : List.range 81 = List.range 63 ++ (List.range 18).map (63 + ·) := by decide +kernel
theorem sq_split (f : Nat → Bool) : sq f = ((List.range 63).filter f).map Int.ofNat ++ ((List.range 18).filter fun i => f (63 + i)).map fun i => Int.ofNat (63 + i) := by
  unfold sq
  rw [range81, List.filter_append, List.map_append, List.filter_map, List.map_map]
  rfl

theorem squares_val (f : Nat → Bool) : set_Squares (sLo f) (sHi f) = some ((sq f).length, (sq f).length, sq f) := by
  unfold set_Squares
  have h1 := sq_lo f (sHi f) 63 0 rfl (by omega) many (by unfold many; omega)
  have e1 : (bitsN (fun i => f i && decide (0 ≤ i)) 63 : Nat) = bitsN f 63 := bitsN_congr fun i _ => by simp
  rw [e1] at h1
  have h2 := sq_hi f (((List.range 63).filter f).map Int.ofNat) 0 (by rw [List.length_map]; exact Nat.le_trans (List.length_filter_le _ _) (by simp)) 18 0 rfl (by omega) many (by unfold many; omega)
  have e2 : (bitsN (fun i => f (63 + i) && decide (0 ≤ i)) 18 : Nat) = bitsN (fun i => f (63 + i)) 18 := bitsN_congr fun i _ => by simp
  rw [e2] at h2
  simp only [List.range_zero, List.filter_nil, List.map_nil, List.append_nil, List.length_nil, List.length_map] at h1 h2
  unfold sLo
  rw [h1, ob_some]
  simp only
  unfold sHi
  rw [h2, ob_some, sq_split]

end Go.Kk.Pl
