/-
  The ways on which pieces slide, plainly: the reference's and the program's are one.
-/
import Derived.Test.YtaoifdkheaagpaaDoorKkGeo
namespace Go.Kk.Pl

def sgn (n : Int) : Int := if n < 0 then -1 else if n > 0 then 1 else 0
/-- Do two squares lie straight (1) or aslant (2) from each other? 0: neither. -/
def lineS (a c : Nat) : Int := if a = c then 0 else if df a c = 0 ∨ dr a c = 0 then 1 else if df a c = dr a c ∨ df a c = -dr a c then 2 else 0
/-- How many steps apart; what a step is. -/
def mx (a c : Nat) : Nat := if (df a c).natAbs < (dr a c).natAbs then (dr a c).natAbs else (df a c).natAbs
def stpD (a c : Nat) : Int := 9 * sgn (df a c) + sgn (dr a c)
/-- The squares between. -/
def btw (a c : Nat) : List Nat := if lineS a c = 0 then [] else (List.range (mx a c - 1)).map fun (j : Nat) => ((a : Int) + ((j : Int) + 1) * stpD a c).toNat

theorem sign_val (n : Int) : ref04_sign n = some (sgn n) := by
  unfold ref04_sign sgn
  split
  · rename_i h; rw [b_lt h]
  · rename_i h
    rw [b_nlt h]
    split
    · rename_i h2; rw [b_gt h2]
    · rename_i h2; rw [b_ngt h2]
theorem line_val {a c : Nat} (ha : a < 81) (hc : c < 81) : ref04_Line a c = some (lineS a c) := by
  have hg := geo ha
  have hg2 := geo hc
  unfold ref04_Line lineS
  simp (disch := omega) only [b_nlt, tdiv9, tmod9', w_s]
  by_cases hac : a = c
  · rw [b_eq (by omega), if_pos hac]
  · rw [b_neq (by omega), if_neg hac]
    by_cases h1 : df a c = 0
    · rw [b_eq (by unfold df at h1; omega), if_pos (.inl h1)]
    · rw [b_neq (by unfold df at h1; omega)]
      by_cases h2 : dr a c = 0
      · rw [b_eq (by unfold dr at h2; omega), if_pos (.inr h2)]
      · rw [b_neq (by unfold dr at h2; omega), if_neg (by omega)]
        by_cases h3 : df a c = dr a c
        · rw [b_eq (by unfold df dr at h3; omega), if_pos (.inl h3)]
        · rw [b_neq (by unfold df dr at h3; omega)]
          by_cases h4 : df a c = -dr a c
          · rw [b_eq (by unfold df dr at h4; omega), if_pos (.inr h4)]
          · rw [b_neq (by unfold df dr at h4; omega), if_neg (by omega)]

/-- Of squares that lie so: the second one is so many steps on. -/
theorem line_end {a c : Nat} (ha : a < 81) (hc : c < 81) (h : lineS a c ≠ 0) : 1 ≤ mx a c ∧ mx a c ≤ 8 ∧ (c : Int) = a + (mx a c : Int) * stpD a c ∧ stpD a c ≠ 0 ∧ -10 ≤ stpD a c ∧ stpD a c ≤ 10 := by
  have hg := geo ha
  have hg2 := geo hc
  have hdf : df a c = fl c - fl a := rfl
  have hdr : dr a c = rn c - rn a := rfl
  unfold lineS at h
  split at h
  · exact absurd rfl h
  rename_i hac
  have hne : ¬ (df a c = 0 ∧ dr a c = 0) := fun hh => hac (geo_eq hh.1 hh.2)
  have hl : df a c = 0 ∨ dr a c = 0 ∨ df a c = dr a c ∨ df a c = -dr a c := by
    split at h
    · rename_i h1; rcases h1 with h1 | h1
      · exact .inl h1
      · exact .inr (.inl h1)
    · split at h
      · rename_i h1; rcases h1 with h1 | h1
        · exact .inr (.inr (.inl h1))
        · exact .inr (.inr (.inr h1))
      · exact absurd rfl h
  clear h
  unfold mx stpD sgn
  generalize df a c = d at *
  generalize dr a c = e at *
  rcases Int.lt_trichotomy d 0 with h1 | h1 | h1 <;> rcases Int.lt_trichotomy e 0 with h2 | h2 | h2
  all_goals simp (disch := omega) only [if_pos, if_neg]
  all_goals (refine ⟨by omega, by omega, by omega, by omega, by omega, by omega⟩)

theorem mid_range {a c D : Int} {m j : Nat} (hm : c = a + (m : Int) * D) (ha : 0 ≤ a ∧ a < 81) (hc : 0 ≤ c ∧ c < 81) (hj : j ≤ m) (hD : -10 ≤ D ∧ D ≤ 10) : 0 ≤ a + (j : Int) * D ∧ a + (j : Int) * D < 81 := by
  have hj' : (j : Int) ≤ m := by omega
  rcases Int.le_total 0 D with h | h
  · have h1 : (0 : Int) ≤ (j : Int) * D := Int.mul_nonneg (by omega) h
    have h2 : (j : Int) * D ≤ (m : Int) * D := Int.mul_le_mul_of_nonneg_right hj' h
    omega
  · have h1 : (j : Int) * D ≤ 0 := Int.mul_nonpos_of_nonneg_of_nonpos (by omega) h
    have h2 : (m : Int) * D ≤ (j : Int) * D := Int.mul_le_mul_of_nonpos_right hj' h
    omega

theorem between_goes {a c : Nat} (ha : a < 81) (hc : c < 81) (h : lineS a c ≠ 0) : ∀ (n j : Nat), j + 1 + n = mx a c → ∀ F,
    ref04_Betweenl6 (F + n + 1) c j (stpD a c) ((a : Int) + ((j : Int) + 1) * stpD a c) j ((List.range j).map fun (j : Nat) => (a : Int) + ((j : Int) + 1) * stpD a c) =
      some (mx a c - 1, mx a c - 1, (List.range (mx a c - 1)).map fun (j : Nat) => (a : Int) + ((j : Int) + 1) * stpD a c) := by
  obtain ⟨m1, m8, hend, hD0, hD1, hD2⟩ := line_end ha hc h
  intro n
  induction n with
  | zero =>
    intro j hj F
    show ref04_Betweenl6s (ref04_Betweenl6 (F + 0)) _ _ _ _ _ _ = _
    unfold ref04_Betweenl6s
    have hjm : ((j : Int) + 1) = (mx a c : Int) := by omega
    rw [hjm, b_nne (by omega), show mx a c - 1 = j by omega]
  | succ n ih =>
    intro j hj F
    show ref04_Betweenl6s (ref04_Betweenl6 (F + n + 1)) _ _ _ _ _ _ = _
    unfold ref04_Betweenl6s
    have hne : ¬ (a : Int) + ((j : Int) + 1) * stpD a c = c := by
      rw [hend]
      intro hh
      have : ((j : Int) + 1) * stpD a c = (mx a c : Int) * stpD a c := by omega
      have := Int.eq_of_mul_eq_mul_right hD0 this
      omega
    have hr := mid_range (j := j + 1) hend (by omega) (by omega) (by omega) ⟨hD1, hD2⟩
    have hr2 := mid_range (j := j + 2) hend (by omega) (by omega) (by omega) ⟨hD1, hD2⟩
    have e2 : (a : Int) + ((j : Int) + 1) * stpD a c + stpD a c = (a : Int) + (((j + 1 : Nat) : Int) + 1) * stpD a c := by
      rw [show (((j + 1 : Nat) : Int) + 1) = ((j : Int) + 1) + 1 by omega, Int.add_mul ((j : Int) + 1), Int.one_mul]; omega
    have e3 : (((j + 2 : Nat) : Int)) = (((j + 1 : Nat) : Int) + 1) := by omega
    rw [e3] at hr2
    rw [b_ne hne, br_true (by simp; omega), e2, w_s (by omega) (by omega), app_take (by simp)]
    have e4 : (((List.range j).map fun (j : Nat) => (a : Int) + ((j : Int) + 1) * stpD a c) ++ [(a : Int) + ((j : Int) + 1) * stpD a c]) = (List.range (j + 1)).map fun (j : Nat) => (a : Int) + ((j : Int) + 1) * stpD a c := by
      rw [List.range_succ, List.map_append]; rfl
    rw [e4]
    exact ih (j + 1) (by omega) F

theorem btw_mem {a c : Nat} (ha : a < 81) (hc : c < 81) {s : Nat} (hs : s ∈ btw a c) : s < 81 := by
  unfold btw at hs
  split at hs
  · cases hs
  · rename_i h
    obtain ⟨m1, m8, hend, hD0, hD1, hD2⟩ := line_end ha hc h
    obtain ⟨j, hj, rfl⟩ := List.mem_map.1 hs
    rw [List.mem_range] at hj
    have hr := mid_range (j := j + 1) hend (by omega) (by omega) (by omega) ⟨hD1, hD2⟩
    rw [show (((j + 1 : Nat) : Int)) = (j : Int) + 1 by omega] at hr
    omega
theorem btw_len {a c : Nat} (ha : a < 81) (hc : c < 81) : (btw a c).length ≤ 7 := by
  unfold btw
  split
  · simp
  · rename_i h
    obtain ⟨m1, m8, _⟩ := line_end ha hc h
    simp; omega
theorem between_val {a c : Nat} (ha : a < 81) (hc : c < 81) : ref04_Between a c = some ((btw a c).length, (btw a c).length, (btw a c).map Int.ofNat) := by
  have hg := geo ha
  have hg2 := geo hc
  unfold ref04_Between
  rw [line_val ha hc, ob_some]
  by_cases h : lineS a c = 0
  · rw [b_eq h]
    unfold btw
    rw [if_pos h]
    rfl
  · obtain ⟨m1, m8, hend, hD0, hD1, hD2⟩ := line_end ha hc h
    have hs1 : -1 ≤ sgn (df a c) ∧ sgn (df a c) ≤ 1 := by unfold sgn; split <;> (try split) <;> omega
    have hs2 : -1 ≤ sgn (dr a c) ∧ sgn (dr a c) ≤ 1 := by unfold sgn; split <;> (try split) <;> omega
    rw [b_neq h]
    simp (disch := omega) only [tdiv9, tmod9', w_s, sign_val, ob_some]
    rw [show fl c - fl a = df a c from rfl, show rn c - rn a = dr a c from rfl, w_s (n := 9 * sgn (df a c)) (by omega) (by omega), show 9 * sgn (df a c) + sgn (dr a c) = stpD a c from rfl, w_s (n := stpD a c) (by omega) (by omega), w_s (n := (a : Int) + stpD a c) (by omega) (by omega)]
    obtain ⟨g, hgm⟩ := many_eq (mx a c - 1) (by omega)
    have := between_goes ha hc h (mx a c - 1) 0 (by omega) g
    rw [← hgm] at this
    have e0 : (a : Int) + (((0 : Nat) : Int) + 1) * stpD a c = a + stpD a c := by
      rw [show ((0 : Nat) : Int) + 1 = 1 from rfl, Int.one_mul]
    rw [e0] at this
    rw [show ref04_Betweenl6 many c 0 (stpD a c) ((a : Int) + stpD a c) 0 [] = _ from this, ob_some]
    unfold btw
    rw [if_neg h]
    simp only [List.length_map, List.length_range, List.map_map]
    congr 3
    apply List.map_congr_left
    intro j hj
    rw [List.mem_range] at hj
    have hr := mid_range (j := j + 1) hend (by omega) (by omega) (by omega) ⟨hD1, hD2⟩
    rw [show (((j + 1 : Nat) : Int)) = (j : Int) + 1 by omega] at hr
    show _ = Int.ofNat (Int.toNat _)
    simp only [Int.ofNat_eq_natCast]
    omega

/-- Is none of the squares between taken? -/
def freeS (a c : Nat) (t : Nat → Bool) : Bool := (btw a c).all fun s => !t s
theorem free_goes (t : List Bool) (L : List Nat) (hL : ∀ s ∈ L, s < 81) (hl : L.length ≤ 100) (N : Nat) : ∀ (n i : Nat), i + n = L.length → ∀ F,
    ref04_Freel3 (F + n + 1) L.length i t N (L.map Int.ofNat) = some (if (L.drop i).all (fun s => !t.getD s false) then .inr () else .inl false) := by
  intro n
  induction n with
  | zero =>
    intro i hi F
    show ref04_Freel3s (ref04_Freel3 (F + 0)) _ _ _ _ _ = _
    unfold ref04_Freel3s
    rw [b_nlt (by simp; omega), List.drop_eq_nil_of_le (by omega)]
    rfl
  | succ n ih =>
    intro i hi F
    show ref04_Freel3s (ref04_Freel3 (F + n + 1)) _ _ _ _ _ = _
    unfold ref04_Freel3s
    have hil : i < L.length := by omega
    have hd : L.drop i = L[i] :: L.drop (i + 1) := List.drop_eq_getElem_cons hil
    have hget : (L.map Int.ofNat).getD i 0 = (L[i] : Int) := by
      rw [List.getD_eq_getElem?_getD, List.getElem?_map, List.getElem?_eq_getElem hil]; rfl
    have h81 := hL L[i] (List.getElem_mem hil)
    rw [b_lt (by simp; omega), b_in (by omega) (by omega), tn, hget, b_in (by omega) (by omega), tn, hd, List.all_cons, w_s (by omega) (by omega)]
    cases ht : t.getD L[i] false with
    | true => rfl
    | false =>
      rw [b_f, Bool.not_false, Bool.true_and]
      exact ih (i + 1) (by omega) F
theorem free_val {a c : Nat} (ha : a < 81) (hc : c < 81) (t : List Bool) : ref04_Free a c t = some (freeS a c fun s => t.getD s false) := by
  unfold ref04_Free
  rw [between_val ha hc, ob_some]
  simp only
  have hlen := btw_len ha hc
  obtain ⟨g, hg⟩ := many_eq (btw a c).length (by omega)
  have := free_goes t (btw a c) (fun s hs => btw_mem ha hc hs) (by omega) (btw a c).length (btw a c).length 0 (by omega) g
  rw [← hg] at this
  rw [show ref04_Freel3 many (btw a c).length 0 t (btw a c).length ((btw a c).map Int.ofNat) = _ from this, ob_some, List.drop_zero]
  unfold freeS
  cases (btw a c).all fun s => !t.getD s false <;> rfl

/-- A kind slides so. -/
def slK (k d u : Int) : Prop := (k = 2 ∧ d = 0 ∧ 0 < u) ∨ ((k = 6 ∨ k = 14) ∧ ¬ (d = 0 ∧ u = 0) ∧ (d = u ∨ d = -u)) ∨ ((k = 7 ∨ k = 15) ∧ ¬ (d = 0 ∧ u = 0) ∧ (d = 0 ∨ u = 0))
instance (k d u : Int) : Decidable (slK k d u) := by unfold slK; infer_instance
def slideB (x : Int) (a c : Nat) : Bool := decide (slK (kd x) (df a c) (upS x a c))
/-- Does a piece go from a square to another one, if some are taken? -/
def rch (x : Int) (a c : Nat) (t : Nat → Bool) : Bool := stepB x a c || (slideB x a c && freeS a c t)

theorem line_one {a c : Nat} : lineS a c = 1 ↔ (¬ (df a c = 0 ∧ dr a c = 0)) ∧ (df a c = 0 ∨ dr a c = 0) := by
  unfold lineS
  by_cases hac : a = c
  · subst hac
    have := geo_self a
    simp [this.1, this.2]
  · have : ¬ (df a c = 0 ∧ dr a c = 0) := fun h => hac (geo_eq h.1 h.2)
    rw [if_neg hac]
    split
    · rename_i h; simp [this, h]
    · rename_i h
      split <;> simp [h]
theorem line_two {a c : Nat} : lineS a c = 2 ↔ (¬ (df a c = 0 ∧ dr a c = 0)) ∧ (df a c = dr a c ∨ df a c = -dr a c) := by
  unfold lineS
  by_cases hac : a = c
  · subst hac
    have := geo_self a
    simp [this.1, this.2]
  · have : ¬ (df a c = 0 ∧ dr a c = 0) := fun h => hac (geo_eq h.1 h.2)
    rw [if_neg hac]
    split
    · rename_i h
      constructor
      · intro hh; omega
      · rintro ⟨h1, h2⟩; omega
    · rename_i h
      split
      · rename_i h2; simp [h2]; omega
      · rename_i h2; simp [h2]

theorem reach_val (x : Int) {a c : Nat} (ha : a < 81) (hc : c < 81) (t : List Bool) : ref04_Reaches x a c t = some (rch x a c fun s => t.getD s false) := by
  have hg := geo ha
  have hg2 := geo hc
  unfold ref04_Reaches
  rw [refStep_val x ha hc, ob_some]
  unfold rch
  cases hst : stepB x a c with
  | true => rfl
  | false =>
    rw [b_f, line_val ha hc, ob_some, refSide_val, ob_some, Bool.false_or]
    have l1 := line_one (a := a) (c := c)
    have l2 := line_two (a := a) (c := c)
    have hup : upS x a c = if sd x = 1 then dr a c else -dr a c := rfl
    have hdr : dr a c = rn c - rn a := rfl
    have hdf : df a c = fl c - fl a := rfl
    have fin : ∀ (p : Bool), p = slideB x a c → (br p (ob (ref04_Free a c t) fun a8 => some a8) (some false) : Option Bool) = some (slideB x a c && freeS a c fun s => t.getD s false) := by
      intro p hp
      rw [hp, free_val ha hc, ob_some]
      cases slideB x a c <;> rfl
    have sl : ∀ {p : Prop} [Decidable p], (p ↔ slK (kd x) (df a c) (upS x a c)) → decide p = slideB x a c := by
      intro p _ h
      unfold slideB
      rw [decide_eq_decide]; exact h
    have nsl : ¬ slK (kd x) (df a c) (upS x a c) → (some false : Option Bool) = some (slideB x a c && freeS a c fun s => t.getD s false) := by
      intro h
      have : slideB x a c = false := by unfold slideB; simpa using h
      rw [this]; rfl
    simp (disch := omega) only [tdiv9, tmod9', w_s, refKind_val, ob_some]
    have body : ∀ (u : Int), u = upS x a c → (br (kd x == 2)
         (br (lineS a c == 1)
          (br (fl a == fl c)
           (br (decide (u > 0))
            (ob (ref04_Free a c t) fun a8 =>
            some (a8))
            (some (false)))
           (some (false)))
          (some (false)))
         (br (kd x == 6)
          (br (lineS a c == 2)
           (ob (ref04_Free a c t) fun a8 =>
           some (a8))
           (some (false)))
          (br (kd x == 14)
           (br (lineS a c == 2)
            (ob (ref04_Free a c t) fun a8 =>
            some (a8))
            (some (false)))
           (br (kd x == 7)
            (br (lineS a c == 1)
             (ob (ref04_Free a c t) fun a8 =>
             some (a8))
             (some (false)))
            (br (kd x == 15)
             (br (lineS a c == 1)
              (ob (ref04_Free a c t) fun a8 =>
              some (a8))
              (some (false)))
             (some (false))))))  : Option Bool) = some (slideB x a c && freeS a c fun s => t.getD s false) := by
      intro u hu
      by_cases k2 : kd x = 2
      · rw [b_eq k2]
        by_cases h1 : lineS a c = 1
        · rw [b_eq h1]
          by_cases h3 : fl a = fl c
          · rw [b_eq h3]
            refine fin _ ?_
            exact sl (by unfold slK; rw [← hu]; omega)
          · rw [b_neq h3]
            exact nsl (by unfold slK; omega)
        · rw [b_neq h1]
          refine nsl (by
            rw [l1] at h1
            unfold slK
            split at hup <;> omega)
      · rw [b_neq k2]
        have two : (kd x = 6 ∨ kd x = 14) → (br (lineS a c == 2) (ob (ref04_Free a c t) fun a8 => some a8) (some false) : Option Bool) = some (slideB x a c && freeS a c fun s => t.getD s false) := by
          intro hk
          refine fin _ ?_
          have : (lineS a c == 2) = decide (lineS a c = 2) := by rw [Bool.eq_iff_iff]; simp
          rw [this]
          refine sl ?_
          rw [l2]
          unfold slK
          split at hup <;> omega
        have one : (kd x = 7 ∨ kd x = 15) → (br (lineS a c == 1) (ob (ref04_Free a c t) fun a8 => some a8) (some false) : Option Bool) = some (slideB x a c && freeS a c fun s => t.getD s false) := by
          intro hk
          refine fin _ ?_
          have : (lineS a c == 1) = decide (lineS a c = 1) := by rw [Bool.eq_iff_iff]; simp
          rw [this]
          refine sl ?_
          rw [l1]
          unfold slK
          split at hup <;> omega
        by_cases k6 : kd x = 6
        · rw [b_eq k6]; exact two (.inl k6)
        rw [b_neq k6]
        by_cases k14 : kd x = 14
        · rw [b_eq k14]; exact two (.inr k14)
        rw [b_neq k14]
        by_cases k7 : kd x = 7
        · rw [b_eq k7]; exact one (.inl k7)
        rw [b_neq k7]
        by_cases k15 : kd x = 15
        · rw [b_eq k15]; exact one (.inr k15)
        rw [b_neq k15]
        exact nsl (by unfold slK; omega)
    by_cases hs : sd x = 1
    · rw [b_eq hs]
      exact body _ (by rw [hup, if_pos hs]; omega)
    · rw [b_neq hs]
      exact body _ (by rw [hup, if_neg hs]; omega)

end Go.Kk.Pl
