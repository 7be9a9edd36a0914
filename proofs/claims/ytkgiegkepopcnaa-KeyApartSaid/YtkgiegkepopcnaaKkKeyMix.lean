/-
  The mix of a key is one to one; the laws KeyNone and KeyApart, told plainly.
-/
import Derived.Test.YtkgiegkepopcnaaKkKeyXor
namespace Go.Kk.KkKey

theorem wrap_un (n : Int) : IntKind.wrap .u64 n = un (bv n) := by
  show n % (2 ^ 64) = ((BitVec.ofInt 64 n).toNat : Int)
  rw [BitVec.toNat_ofInt]
  omega
theorem fdiv_un (z : B64) (k : Nat) : Int.fdiv (un z) (2 ^ k : Nat) = un (z >>> k) := by
  unfold un
  rw [Int.fdiv_eq_ediv_of_nonneg _ (Int.natCast_nonneg _), BitVec.toNat_ushiftRight, Nat.shiftRight_eq_div_pow]
  exact (Int.natCast_ediv _ _).symm
theorem bv_mul (z : B64) (m : Int) : bv (un z * m) = z * bv m := by
  unfold bv
  rw [BitVec.ofInt_mul]
  congr 1
  exact bv_un z
theorem bv_add (z m : Int) : bv (z + m) = bv z + bv m := BitVec.ofInt_add ..

def shB (k : Nat) (z : B64) : B64 := z ^^^ (z >>> k)
def mixB (z : B64) : B64 := shB 31 (shB 27 (shB 30 (z + bv 11400714819323198485) * bv 13787848793156543929) * bv 10723151780598845931)

theorem k18_mix (x : Int) : k18 x = some (un (mixB (bv x))) := by
  unfold k18
  have h30 : ∀ z : B64, Int.fdiv (un z) 1073741824 = un (z >>> 30) := fun z => fdiv_un z 30
  have h27 : ∀ z : B64, Int.fdiv (un z) 134217728 = un (z >>> 27) := fun z => fdiv_un z 27
  have h31 : ∀ z : B64, Int.fdiv (un z) 2147483648 = un (z >>> 31) := fun z => fdiv_un z 31
  simp only [wrap_un, h30, h27, h31, xor_un, bv_un, bv_mul, bv_add]
  rfl

theorem shB_inj (k : Nat) (hk : 0 < k) {z w : B64} (h : shB k z = shB k w) : z = w := by
  have key : ∀ (n i : Nat), 64 ≤ i + n → z.getLsbD i = w.getLsbD i := by
    intro n
    induction n using Nat.strongRecOn with
    | _ n ih =>
      intro i hi
      rcases Nat.lt_or_ge i 64 with h' | h'
      · have e := congrArg (fun x => BitVec.getLsbD x i) h
        simp only [shB, BitVec.getLsbD_xor, BitVec.getLsbD_ushiftRight] at e
        have : z.getLsbD (k + i) = w.getLsbD (k + i) := by
          rcases Nat.lt_or_ge n k with hn | hn
          · rw [BitVec.getLsbD_of_ge _ _ (by omega), BitVec.getLsbD_of_ge _ _ (by omega)]
          · exact ih (n - k) (by omega) (k + i) (by omega)
        rw [this] at e
        simpa using e
      · rw [BitVec.getLsbD_of_ge _ _ h', BitVec.getLsbD_of_ge _ _ h']
  exact BitVec.eq_of_getLsbD_eq fun i hi => key 64 i (by omega)

theorem mul_inj {a b m m' : B64} (h1 : m * m' = 1) (h : a * m = b * m) : a = b := by
  have := congrArg (· * m') h
  simp only [BitVec.mul_assoc, h1] at this
  simpa using this

theorem mixB_inj {a b : B64} (h : mixB a = mixB b) : a = b := by
  have h1 := shB_inj 31 (by omega) h
  have h2 := mul_inj (m' := bv 3573116690164977347) (by decide) h1
  have h3 := shB_inj 27 (by omega) h2
  have h4 := mul_inj (m' := bv 10871156337175269513) (by decide) h3
  have h5 := shB_inj 30 (by omega) h4
  have h6 := congrArg (fun z => z - bv 11400714819323198485) h5
  simpa [BitVec.add_sub_cancel] using h6

theorem mixB_zero : mixB (bv 7046029254386353131) = 0 := by decide

theorem bv_inj {a b : Int} (ha : 0 ≤ a) (ha' : a < 18446744073709551616) (hb : 0 ≤ b) (hb' : b < 18446744073709551616) (h : bv a = bv b) : a = b := by
  have := congrArg un h
  rw [← wrap_un, ← wrap_un] at this
  rwa [wrap_of_range (k := .u64) (by show (0 : Int) ≤ a; omega) (by show a ≤ 18446744073709551615; omega), wrap_of_range (k := .u64) (by show (0 : Int) ≤ b; omega) (by show b ≤ 18446744073709551615; omega)] at this

/-- A small number's mix is not nothing; two small numbers' mixes are apart. -/
theorem mix_ne {a : Int} (h0 : 0 ≤ a) (h1 : a < 10000000) : un (mixB (bv a)) ≠ 0 := by
  intro h
  have : mixB (bv a) = mixB (bv 7046029254386353131) := by
    rw [mixB_zero]
    exact un_inj h
  have := bv_inj h0 (by omega) (by omega) (by omega) (mixB_inj this)
  omega
theorem mix_eq {a b : Int} (h0 : 0 ≤ a) (h1 : a < 10000000) (h2 : 0 ≤ b) (h3 : b < 10000000) (h : un (mixB (bv a)) = un (mixB (bv b))) : a = b :=
  bv_inj h0 (by omega) h2 (by omega) (mixB_inj (un_inj h))

theorem ku_small {n : Int} (h0 : 0 ≤ n) (h1 : n < 10000000) : IntKind.wrap .u64 n = n := wrap_of_range (by show (0 : Int) ≤ n; omega) (by show n ≤ 18446744073709551615; omega)

/-- The kinds: nothing for what is no piece. -/
theorem kinds : ∀ i : Fin 256, (k17 ((i.val : Int) - 128)).getD 0 = 0 ↔ (k14 ((i.val : Int) - 128)).getD 0 = 0 := by decide +kernel
theorem kinds_in : ∀ i : Fin 256, (k17 ((i.val : Int) - 128)).getD 0 ≠ 0 → 1 ≤ (i.val : Int) - 128 ∧ (i.val : Int) - 128 ≤ 31 := by decide +kernel
theorem k14_tot (x : Int) : ∃ v, k14 x = some v := by
  unfold k14
  repeat first | exact ⟨_, rfl⟩ | apply br_tot
theorem piece_kind {x : Int} (hx : IntKind.wrap .i8 x = x) : ∃ a b, k17 x = some a ∧ k14 x = some b ∧ (a = 0 ↔ b = 0) ∧ (a ≠ 0 → 1 ≤ x ∧ x ≤ 31) := by
  have h1 : -128 ≤ x ∧ x ≤ 127 := wrap_range hx
  obtain ⟨a, ha⟩ := k17_tot x
  obtain ⟨b, hb⟩ := k14_tot x
  have e : (((⟨(x + 128).toNat, by omega⟩ : Fin 256).val : Nat) : Int) - 128 = x := by
    show ((x + 128).toNat : Int) - 128 = x
    omega
  have h2 := kinds ⟨(x + 128).toNat, by omega⟩
  have h3 := kinds_in ⟨(x + 128).toNat, by omega⟩
  rw [e, ha, hb] at h2
  rw [e, ha] at h3
  exact ⟨a, b, ha, hb, h2, h3⟩

/-- What a piece on a square counts. -/
theorem piece_val (q : Int) {x : Int} (hx : IntKind.wrap .i8 x = x) : ∃ b, k14 x = some b ∧ ∃ v, k10 q x = some v ∧ ((0 ≤ q ∧ q ≤ 80 ∧ b ≠ 0 ∧ 1 ≤ x ∧ x ≤ 31 ∧ v = un (mixB (bv (q * 32 + x))) ∧ v ≠ 0) ∨ (v = 0 ∧ ¬ (0 ≤ q ∧ q ≤ 80 ∧ b ≠ 0))) := by
  obtain ⟨a, b, ha, hb, hab, hin⟩ := piece_kind hx
  refine ⟨b, hb, ?_⟩
  unfold k10
  rw [ha]
  show ∃ v, br (a == 0) _ _ = some v ∧ _
  by_cases h0 : a = 0
  · exact ⟨0, br_true (by simpa using h0), .inr ⟨rfl, fun h => h.2.2 (hab.1 h0)⟩⟩
  · rw [br_false (by simpa using h0)]
    by_cases h1 : q < 0
    · exact ⟨0, br_true (by simpa using h1), .inr ⟨rfl, fun h => by omega⟩⟩
    · rw [br_false (by simpa using h1)]
      by_cases h2 : q ≥ 81
      · exact ⟨0, br_true (by simpa using h2), .inr ⟨rfl, fun h => by omega⟩⟩
      · rw [br_false (by simpa using h2)]
        obtain ⟨x1, x2⟩ := hin h0
        have c1 : conv .i64 .u64 q = q := ku_small (by omega) (by omega)
        have c2 : conv .i8 .u64 x = x := ku_small (by omega) (by omega)
        rw [c1, c2, ku_small (n := q * 32) (by omega) (by omega), ku_small (by omega) (by omega), k18_mix]
        exact ⟨_, rfl, .inl ⟨by omega, by omega, fun h => h0 (hab.2 h), x1, x2, rfl, mix_ne (by omega) (by omega)⟩⟩

/-- What a count in hand counts. -/
theorem hand_val (s k n : Int) : ∃ v, k11 s k n = some v ∧ (((s = 0 ∨ s = 1) ∧ 1 ≤ k ∧ k ≤ 7 ∧ 1 ≤ n ∧ n ≤ 18 ∧ v = un (mixB (bv (65536 + s * 1024 + k * 32 + n))) ∧ v ≠ 0) ∨ (v = 0 ∧ ¬ ((s = 0 ∨ s = 1) ∧ 1 ≤ k ∧ k ≤ 7 ∧ 1 ≤ n ∧ n ≤ 18))) := by
  have tail : s = 0 ∨ s = 1 → ∃ v, (br (decide (k < 1)) (some 0) (br (decide (k ≥ 8)) (some 0) (br (decide (n ≤ 0)) (some 0) (br (decide (n > 18)) (some 0)
      (ob (k18 (IntKind.wrap .u64 (IntKind.wrap .u64 (IntKind.wrap .u64 (65536 + IntKind.wrap .u64 (conv .i64 .u64 s * 1024)) + IntKind.wrap .u64 (conv .i64 .u64 k * 32)) + conv .i64 .u64 n))) fun r27 => some r27))))) = some v ∧
      (((s = 0 ∨ s = 1) ∧ 1 ≤ k ∧ k ≤ 7 ∧ 1 ≤ n ∧ n ≤ 18 ∧ v = un (mixB (bv (65536 + s * 1024 + k * 32 + n))) ∧ v ≠ 0) ∨ (v = 0 ∧ ¬ ((s = 0 ∨ s = 1) ∧ 1 ≤ k ∧ k ≤ 7 ∧ 1 ≤ n ∧ n ≤ 18))) := by
    intro hs
    by_cases h1 : k < 1
    · exact ⟨0, br_true (by simpa using h1), .inr ⟨rfl, fun h => by omega⟩⟩
    · rw [br_false (by simpa using h1)]
      by_cases h2 : k ≥ 8
      · exact ⟨0, br_true (by simpa using h2), .inr ⟨rfl, fun h => by omega⟩⟩
      · rw [br_false (by simpa using h2)]
        by_cases h3 : n ≤ 0
        · exact ⟨0, br_true (by simpa using h3), .inr ⟨rfl, fun h => by omega⟩⟩
        · rw [br_false (by simpa using h3)]
          by_cases h4 : n > 18
          · exact ⟨0, br_true (by simpa using h4), .inr ⟨rfl, fun h => by omega⟩⟩
          · rw [br_false (by simpa using h4)]
            have c1 : conv .i64 .u64 s = s := ku_small (by omega) (by omega)
            have c2 : conv .i64 .u64 k = k := ku_small (by omega) (by omega)
            have c3 : conv .i64 .u64 n = n := ku_small (by omega) (by omega)
            rw [c1, c2, c3, ku_small (n := s * 1024) (by omega) (by omega), ku_small (n := 65536 + s * 1024) (by omega) (by omega), ku_small (n := k * 32) (by omega) (by omega),
              ku_small (n := 65536 + s * 1024 + k * 32) (by omega) (by omega), ku_small (by omega) (by omega), k18_mix]
            exact ⟨_, rfl, .inl ⟨hs, by omega, by omega, by omega, by omega, rfl, mix_ne (by omega) (by omega)⟩⟩
  unfold k11
  by_cases h0 : s = 0
  · rw [br_false (by simpa using h0)]
    exact tail (.inl h0)
  · rw [br_true (by simpa using h0)]
    by_cases h1 : s = 1
    · rw [br_false (by simpa using h1)]
      exact tail (.inr h1)
    · rw [br_true (by simpa using h1)]
      exact ⟨0, rfl, .inr ⟨rfl, fun h => by omega⟩⟩

theorem ne_bool {v : Int} {p : Prop} [Decidable p] (h : v ≠ 0 ↔ p) : (v != 0) = decide p := by
  by_cases hp : p
  · simp [hp, h.2 hp]
  · have : v = 0 := Classical.byContradiction fun hv => hp (h.1 hv)
    simp [hp, this]

/-- KeyNone. -/
theorem keyNone_true (q x : Int) (hand : List Int) (hx : IntKind.wrap .i8 x = x) : k4 q x hand = some true := by
  obtain ⟨b, hb, v, hv, hc⟩ := piece_val q hx
  obtain ⟨w, hw, hd⟩ := hand_val (hand.getD 0 0) (hand.getD 1 0) (hand.getD 2 0)
  have hV : (v != 0) = (decide (q ≥ 0) && (decide (q ≤ 80) && (b != 0))) := by
    rw [ne_bool (p := 0 ≤ q ∧ q ≤ 80 ∧ b ≠ 0) (by
      rcases hc with ⟨c1, c2, c3, _, _, _, c4⟩ | ⟨c1, c2⟩
      · exact ⟨fun _ => ⟨c1, c2, c3⟩, fun _ => c4⟩
      · exact ⟨fun h => absurd c1 h, fun h => absurd h c2⟩)]
    by_cases h1 : 0 ≤ q <;> by_cases h2 : q ≤ 80 <;> by_cases h3 : b = 0 <;> simp [h1, h2, h3]
  have hW : (w != 0) = ((hand.getD 0 0 == 0 || hand.getD 0 0 == 1) && (decide (hand.getD 1 0 ≥ 1) && (decide (hand.getD 1 0 ≤ 7) && (decide (hand.getD 2 0 ≥ 1) && decide (hand.getD 2 0 ≤ 18))))) := by
    rw [ne_bool (p := (hand.getD 0 0 = 0 ∨ hand.getD 0 0 = 1) ∧ 1 ≤ hand.getD 1 0 ∧ hand.getD 1 0 ≤ 7 ∧ 1 ≤ hand.getD 2 0 ∧ hand.getD 2 0 ≤ 18) (by
      rcases hd with ⟨c1, c2, c3, c5, c6, _, c4⟩ | ⟨c1, c2⟩
      · exact ⟨fun _ => ⟨c1, c2, c3, c5, c6⟩, fun _ => c4⟩
      · exact ⟨fun h => absurd c1 h, fun h => absurd h c2⟩)]
    simp only [Bool.decide_and, Bool.decide_or]
    rfl
  unfold k4
  rw [k9_true]
  simp only [ob, hv, hw, hb, hV, hW]
  generalize decide (q ≥ 0) = a1
  generalize decide (q ≤ 80) = a2
  generalize (b != 0) = a3
  generalize (hand.getD 0 0 == 0) = a4
  generalize (hand.getD 0 0 == 1) = a5
  generalize decide (hand.getD 1 0 ≥ 1) = a6
  generalize decide (hand.getD 1 0 ≤ 7) = a7
  generalize decide (hand.getD 2 0 ≥ 1) = a8
  generalize decide (hand.getD 2 0 ≤ 18) = a9
  cases a1 <;> cases a2 <;> cases a3 <;> cases a4 <;> cases a5 <;> cases a6 <;> cases a7 <;> cases a8 <;> cases a9 <;> rfl

/-- What one thing counts: nothing, or the mix of a small number that names it. -/
theorem one_val (a : List Int) : ∃ v, k15 a = some v ∧ (v = 0 ∨ ∃ c, v = un (mixB (bv c)) ∧ v ≠ 0 ∧
    ((0 ≤ a.getD 0 0 ∧ a.getD 0 0 ≤ 80 ∧ 1 ≤ a.getD 1 0 ∧ a.getD 1 0 ≤ 31 ∧ c = a.getD 0 0 * 32 + a.getD 1 0) ∨
      ((a.getD 0 0 = -1 ∨ a.getD 0 0 = -2) ∧ 1 ≤ a.getD 1 0 ∧ a.getD 1 0 ≤ 7 ∧ 1 ≤ a.getD 2 0 ∧ a.getD 2 0 ≤ 18 ∧ c = 65536 + (-1 - a.getD 0 0) * 1024 + a.getD 1 0 * 32 + a.getD 2 0))) := by
  generalize h0 : a.getD 0 0 = x
  generalize h1 : a.getD 1 0 = y
  generalize h2 : a.getD 2 0 = z
  have hands : (x = -1 ∨ x = -2) → ∃ v, (ob (k11 (IntKind.wrap .i64 (-1 - x)) y z) fun r4 => some r4) = some v ∧ (v = 0 ∨ ∃ c, v = un (mixB (bv c)) ∧ v ≠ 0 ∧ ((0 ≤ x ∧ x ≤ 80 ∧ 1 ≤ y ∧ y ≤ 31 ∧ c = x * 32 + y) ∨
      ((x = -1 ∨ x = -2) ∧ 1 ≤ y ∧ y ≤ 7 ∧ 1 ≤ z ∧ z ≤ 18 ∧ c = 65536 + (-1 - x) * 1024 + y * 32 + z))) := by
    intro hx
    rw [wrap_small (by omega) (by omega)]
    obtain ⟨v, hv, hc⟩ := hand_val (-1 - x) y z
    refine ⟨v, by rw [hv]; rfl, ?_⟩
    rcases hc with ⟨_, c2, c3, c4, c5, c6, c7⟩ | ⟨c1, _⟩
    · exact .inr ⟨_, c6, c7, .inr ⟨hx, c2, c3, c4, c5, rfl⟩⟩
    · exact .inl c1
  have rest : ¬ (0 ≤ x ∧ x ≤ 80) → ∃ v, (br (x == -1) (ob (k11 (IntKind.wrap .i64 (-1 - x)) y z) fun r4 => some r4) (br (x == -2) (ob (k11 (IntKind.wrap .i64 (-1 - x)) y z) fun r4 => some r4) (some 0))) = some v ∧
      (v = 0 ∨ ∃ c, v = un (mixB (bv c)) ∧ v ≠ 0 ∧ ((0 ≤ x ∧ x ≤ 80 ∧ 1 ≤ y ∧ y ≤ 31 ∧ c = x * 32 + y) ∨ ((x = -1 ∨ x = -2) ∧ 1 ≤ y ∧ y ≤ 7 ∧ 1 ≤ z ∧ z ≤ 18 ∧ c = 65536 + (-1 - x) * 1024 + y * 32 + z))) := by
    intro _
    by_cases e1 : x = -1
    · rw [br_true (by simpa using e1)]; exact hands (.inl e1)
    · rw [br_false (by simpa using e1)]
      by_cases e2 : x = -2
      · rw [br_true (by simpa using e2)]; exact hands (.inr e2)
      · rw [br_false (by simpa using e2)]; exact ⟨0, rfl, .inl rfl⟩
  unfold k15
  rw [h0, h1, h2]
  by_cases q0 : x ≥ 0
  · rw [br_true (by simpa using q0)]
    by_cases q1 : x ≤ 80
    · rw [br_true (by simpa using q1)]
      by_cases y0 : y < 1
      · exact ⟨0, br_true (by simpa using y0), .inl rfl⟩
      · rw [br_false (by simpa using y0)]
        by_cases y1 : y > 31
        · exact ⟨0, br_true (by simpa using y1), .inl rfl⟩
        · rw [br_false (by simpa using y1)]
          have e : conv .i64 .i8 y = y := wrap_of_range (k := .i8) (by show -128 ≤ y; omega) (by show y ≤ 127; omega)
          rw [e]
          obtain ⟨b, _, v, hv, hc⟩ := piece_val x (x := y) (wrap_of_range (by show -128 ≤ y; omega) (by show y ≤ 127; omega))
          refine ⟨v, by rw [hv]; rfl, ?_⟩
          rcases hc with ⟨_, _, _, _, _, c6, c7⟩ | ⟨c1, _⟩
          · exact .inr ⟨_, c6, c7, .inl ⟨q0, q1, by omega, by omega, rfl⟩⟩
          · exact .inl c1
    · rw [br_false (by simpa using q1)]; exact rest (by omega)
  · rw [br_false (by simpa using q0)]; exact rest (by omega)

theorem norm_val (a : List Int) : k16 a = some (if 0 ≤ a.getD 0 0 ∧ a.getD 0 0 ≤ 80 then [a.getD 0 0, a.getD 1 0, 0] else a) := by
  unfold k16
  by_cases h0 : a.getD 0 0 ≥ 0
  · rw [br_true (by simpa using h0)]
    by_cases h1 : a.getD 0 0 ≤ 80
    · rw [br_true (by simpa using h1), if_pos ⟨h0, h1⟩]
    · rw [br_false (by simpa using h1), if_neg (by omega)]
  · rw [br_false (by simpa using h0), if_neg (by omega)]

theorem three {a : List Int} (h : a.length = 3) : a = [a.getD 0 0, a.getD 1 0, a.getD 2 0] := by
  match a, h with
  | [x, y, z], _ => rfl

/-- KeyApart. -/
theorem keyApart_true (a b : List Int) (ha : a.length = 3) (hb : b.length = 3) : k6 a b = some true := by
  obtain ⟨v, hv, hcv⟩ := one_val a
  obtain ⟨w, hw, hcw⟩ := one_val b
  unfold k6
  rw [k9_true, hv, hw, norm_val, norm_val]
  show br (v == 0) (some true) (br (w == 0) (some true) (some ((v == w) == _))) = _
  by_cases v0 : v = 0
  · exact br_true (by simpa using v0)
  · rw [br_false (by simpa using v0)]
    by_cases w0 : w = 0
    · exact br_true (by simpa using w0)
    · rw [br_false (by simpa using w0)]
      obtain ⟨c, hc, _, hc2⟩ := hcv.resolve_left v0
      obtain ⟨d, hd, _, hd2⟩ := hcw.resolve_left w0
      have hvw : v = w ↔ c = d := by
        constructor
        · intro h
          rw [hc, hd] at h
          exact mix_eq (by omega) (by omega) (by omega) (by omega) h
        · intro h; rw [hc, hd, h]
      have hn : ((if 0 ≤ a.getD 0 0 ∧ a.getD 0 0 ≤ 80 then [a.getD 0 0, a.getD 1 0, 0] else a) = (if 0 ≤ b.getD 0 0 ∧ b.getD 0 0 ≤ 80 then [b.getD 0 0, b.getD 1 0, 0] else b)) ↔ c = d := by
        have ea := three ha
        have eb := three hb
        rcases hc2 with ⟨p1, p2, p3, p4, p5⟩ | ⟨p1, p2, p3, p4, p5, p6⟩ <;> rcases hd2 with ⟨q1, q2, q3, q4, q5⟩ | ⟨q1, q2, q3, q4, q5, q6⟩
        · rw [if_pos ⟨p1, p2⟩, if_pos ⟨q1, q2⟩]
          simp only [List.cons.injEq, and_true]
          omega
        · rw [if_pos ⟨p1, p2⟩, if_neg (by omega), eb]
          simp only [List.cons.injEq, and_true]
          omega
        · rw [if_neg (by omega), if_pos ⟨q1, q2⟩, ea]
          simp only [List.cons.injEq, and_true]
          omega
        · rw [if_neg (by omega), if_neg (by omega), ea, eb]
          simp only [List.cons.injEq, and_true]
          omega
      have : (v == w) = ((if 0 ≤ a.getD 0 0 ∧ a.getD 0 0 ≤ 80 then [a.getD 0 0, a.getD 1 0, 0] else a) == (if 0 ≤ b.getD 0 0 ∧ b.getD 0 0 ≤ 80 then [b.getD 0 0, b.getD 1 0, 0] else b)) := by
        rw [Bool.eq_iff_iff, beq_iff_eq, beq_iff_eq, hvw, hn]
      rw [this]
      simp
end Go.Kk.KkKey
