/- What the program's functions come to, told plainly: the texts of this project that this claim leans on, cut down to what is used. -/
import Derived.Test.YtljnnegjhcdlkaaGreatDoorKkU1
namespace Go.Kk.Pl
def sgn (n : Int) : Int := if n < 0 then -1 else if n > 0 then 1 else 0
def lineS (a c : Nat) : Int := if a = c then 0 else if df a c = 0 ∨ dr a c = 0 then 1 else if df a c = dr a c ∨ df a c = -dr a c then 2 else 0
def mx (a c : Nat) : Nat := if (df a c).natAbs < (dr a c).natAbs then (dr a c).natAbs else (df a c).natAbs
def stpD (a c : Nat) : Int := 9 * sgn (df a c) + sgn (dr a c)
def btw (a c : Nat) : List Nat := if lineS a c = 0 then [] else (List.range (mx a c - 1)).map fun (j : Nat) => ((a : Int) + ((j : Int) + 1) * stpD a c).toNat
theorem sign_val (n : Int) : ref04_sign n = some (sgn n) := by
 unfold ref04_sign sgn
 split
 ·rename_i h; rw [b_lt h]
 ·rename_i h
  rw [b_nlt h]
  split
  ·rename_i h2; rw [b_gt h2]
  ·rename_i h2; rw [b_ngt h2]
theorem line_val {a c : Nat} (ha : a < 81) (hc : c < 81) : ref04_Line a c = some (lineS a c) := by
 have hg := geo ha
 have hg2 := geo hc
 unfold ref04_Line lineS
 simp (disch := omega) only [b_nlt, tdiv9, tmod9', w_s]
 by_cases hac : a = c
 ·rw [b_eq (by omega), if_pos hac]
 ·rw [b_neq (by omega), if_neg hac]
  by_cases h1 : df a c = 0
  ·rw [b_eq (by unfold df at h1; omega), if_pos (.inl h1)]
  ·rw [b_neq (by unfold df at h1; omega)]
   by_cases h2 : dr a c = 0
   ·rw [b_eq (by unfold dr at h2; omega), if_pos (.inr h2)]
   ·rw [b_neq (by unfold dr at h2; omega), if_neg (by omega)]
    by_cases h3 : df a c = dr a c
    ·rw [b_eq (by unfold df dr at h3; omega), if_pos (.inl h3)]
    ·rw [b_neq (by unfold df dr at h3; omega)]
     by_cases h4 : df a c = -dr a c
     ·rw [b_eq (by unfold df dr at h4; omega), if_pos (.inr h4)]
     ·rw [b_neq (by unfold df dr at h4; omega), if_neg (by omega)]
theorem line_end {a c : Nat} (ha : a < 81) (hc : c < 81) (h : lineS a c ≠ 0) : 1 ≤ mx a c ∧ mx a c ≤ 8 ∧ (c : Int) = a + (mx a c : Int) * stpD a c ∧ stpD a c ≠ 0 ∧ -10 ≤ stpD a c ∧ stpD a c ≤ 10 := by
 have hg := geo ha
 have hg2 := geo hc
 have hdf : df a c = fl c - fl a := rfl
 have hdr : dr a c = rn c - rn a := rfl
 unfold lineS at h
 split at h
 ·exact absurd rfl h
 rename_i hac
 have hne : ¬ (df a c = 0 ∧ dr a c = 0) := fun hh => hac (geo_eq hh.1 hh.2)
 have hl : df a c = 0 ∨ dr a c = 0 ∨ df a c = dr a c ∨ df a c = -dr a c := by
  split at h
  ·rename_i h1; rcases h1 with h1 | h1
   ·exact .inl h1
   ·exact .inr (.inl h1)
  ·split at h
   ·rename_i h1; rcases h1 with h1 | h1
    ·exact .inr (.inr (.inl h1))
    ·exact .inr (.inr (.inr h1))
   ·exact absurd rfl h
 clear h
 unfold mx stpD sgn
 generalize df a c = d at *
 generalize dr a c = e at *
 rcases Int.lt_trichotomy d 0 with h1 | h1 | h1 <;> rcases Int.lt_trichotomy e 0 with h2 | h2 | h2
 all_goals simp (disch := omega) only [if_pos, if_neg]
 all_goals (refine ⟨by omega, by omega, by omega, by omega, by omega, by omega⟩)
theorem mid_range {a c D : Int} {m j : Nat} (hm : c = a + (m : Int) * D) (ha : 0 ≤ a ∧ a < 81) (hc : 0 ≤ c ∧ c < 81) (hj : j ≤ m) (_hD : -10 ≤ D ∧ D ≤ 10) : 0 ≤ a + (j : Int) * D ∧ a + (j : Int) * D < 81 := by
 have hj' : (j : Int) ≤ m := by omega
 rcases Int.le_total 0 D with h | h
 ·have h1 : (0 : Int) ≤ (j : Int) * D := Int.mul_nonneg (by omega) h
  have h2 : (j : Int) * D ≤ (m : Int) * D := Int.mul_le_mul_of_nonneg_right hj' h
  omega
 ·have h1 : (j : Int) * D ≤ 0 := Int.mul_nonpos_of_nonneg_of_nonpos (by omega) h
  have h2 : (m : Int) * D ≤ (j : Int) * D := Int.mul_le_mul_of_nonpos_right hj' h
  omega
theorem between_goes {a c : Nat} (ha : a < 81) (hc : c < 81) (h : lineS a c ≠ 0) : ∀ (n j : Nat), j + 1 + n = mx a c → ∀ F,
  ref04_Betweenl6 (F + n + 1) c j (stpD a c) ((a : Int) + ((j : Int) + 1) * stpD a c) j ((List.range j).map fun (j : Nat) => (a : Int) + ((j : Int) + 1) * stpD a c) =
   some (mx a c - 1, mx a c - 1, (List.range (mx a c - 1)).map fun (j : Nat) => (a : Int) + ((j : Int) + 1) * stpD a c) := by
 obtain ⟨m1, m8, hend, hD0, hD1, hD2⟩ := line_end ha hc h
 intro n
 induction n with
 | zero =>
   intro j hj F
   show ref04_Betweenl6s (ref04_Betweenl6 (F + 0)) _ _ _ _ _ _ = _
   unfold ref04_Betweenl6s
   have hjm : ((j : Int) + 1) = (mx a c : Int) := by omega
   rw [hjm, b_nne (by omega), show mx a c - 1 = j by omega]
 | succ n ih =>
   intro j hj F
   show ref04_Betweenl6s (ref04_Betweenl6 (F + n + 1)) _ _ _ _ _ _ = _
   unfold ref04_Betweenl6s
   have hne : ¬ (a : Int) + ((j : Int) + 1) * stpD a c = c := by
    rw [hend]
    intro hh
    have : ((j : Int) + 1) * stpD a c = (mx a c : Int) * stpD a c := by omega
    have := Int.eq_of_mul_eq_mul_right hD0 this
    omega
   have hr := mid_range (j := j + 1) hend (by omega) (by omega) (by omega) ⟨hD1, hD2⟩
   have hr2 := mid_range (j := j + 2) hend (by omega) (by omega) (by omega) ⟨hD1, hD2⟩
   have e2 : (a : Int) + ((j : Int) + 1) * stpD a c + stpD a c = (a : Int) + (((j + 1 : Nat) : Int) + 1) * stpD a c := by
    rw [show (((j + 1 : Nat) : Int) + 1) = ((j : Int) + 1) + 1 by omega, Int.add_mul ((j : Int) + 1), Int.one_mul]; omega
   have e3 : (((j + 2 : Nat) : Int)) = (((j + 1 : Nat) : Int) + 1) := by omega
   rw [e3] at hr2
   rw [b_ne hne, br_true (by simp; omega), e2, w_s (by omega) (by omega), app_take (by simp)]
   have e4 : (((List.range j).map fun (j : Nat) => (a : Int) + ((j : Int) + 1) * stpD a c) ++ [(a : Int) + ((j : Int) + 1) * stpD a c]) = (List.range (j + 1)).map fun (j : Nat) => (a : Int) + ((j : Int) + 1) * stpD a c := by
    rw [List.range_succ, List.map_append]; rfl
   rw [e4]
   exact ih (j + 1) (by omega) F
theorem btw_mem {a c : Nat} (ha : a < 81) (hc : c < 81) {s : Nat} (hs : s ∈ btw a c) : s < 81 := by
 unfold btw at hs
 split at hs
 ·cases hs
 ·rename_i h
  obtain ⟨m1, m8, hend, hD0, hD1, hD2⟩ := line_end ha hc h
  obtain ⟨j, hj, rfl⟩ := List.mem_map.1 hs
  rw [List.mem_range] at hj
  have hr := mid_range (j := j + 1) hend (by omega) (by omega) (by omega) ⟨hD1, hD2⟩
  rw [show (((j + 1 : Nat) : Int)) = (j : Int) + 1 by omega] at hr
  omega
theorem btw_len {a c : Nat} (ha : a < 81) (hc : c < 81) : (btw a c).length ≤ 7 := by
 unfold btw
 split
 ·simp
 ·rename_i h
  obtain ⟨m1, m8, _⟩ := line_end ha hc h
  simp; omega
theorem between_val {a c : Nat} (ha : a < 81) (hc : c < 81) : ref04_Between a c = some ((btw a c).length, (btw a c).length, (btw a c).map Int.ofNat) := by
 have hg := geo ha
 have hg2 := geo hc
 unfold ref04_Between
 rw [line_val ha hc, ob_some]
 by_cases h : lineS a c = 0
 ·rw [b_eq h]
  unfold btw
  rw [if_pos h]
  rfl
 ·obtain ⟨m1, m8, hend, hD0, hD1, hD2⟩ := line_end ha hc h
  have hs1 : -1 ≤ sgn (df a c) ∧ sgn (df a c) ≤ 1 := by unfold sgn; split <;> (try split) <;> omega
  have hs2 : -1 ≤ sgn (dr a c) ∧ sgn (dr a c) ≤ 1 := by unfold sgn; split <;> (try split) <;> omega
  rw [b_neq h]
  simp (disch := omega) only [tdiv9, tmod9', w_s, sign_val, ob_some]
  rw [show fl c - fl a = df a c from rfl, show rn c - rn a = dr a c from rfl, w_s (n := 9 * sgn (df a c)) (by omega) (by omega), show 9 * sgn (df a c) + sgn (dr a c) = stpD a c from rfl, w_s (n := stpD a c) (by omega) (by omega), w_s (n := (a : Int) + stpD a c) (by omega) (by omega)]
  obtain ⟨g, hgm⟩ := many_eq (mx a c - 1) (by omega)
  have := between_goes ha hc h (mx a c - 1) 0 (by omega) g
  rw [← hgm] at this
  have e0 : (a : Int) + (((0 : Nat) : Int) + 1) * stpD a c = a + stpD a c := by
   rw [show ((0 : Nat) : Int) + 1 = 1 from rfl, Int.one_mul]
  rw [e0] at this
  rw [show ref04_Betweenl6 many c 0 (stpD a c) ((a : Int) + stpD a c) 0 [] = _ from this, ob_some]
  unfold btw
  rw [if_neg h]
  simp only [List.length_map, List.length_range, List.map_map]
  congr 3
  apply List.map_congr_left
  intro j hj
  rw [List.mem_range] at hj
  have hr := mid_range (j := j + 1) hend (by omega) (by omega) (by omega) ⟨hD1, hD2⟩
  rw [show (((j + 1 : Nat) : Int)) = (j : Int) + 1 by omega] at hr
  show _ = Int.ofNat (Int.toNat _)
  simp only [Int.ofNat_eq_natCast]
  omega
def freeS (a c : Nat) (t : Nat → Bool) : Bool := (btw a c).all fun s => !t s
theorem free_goes (t : List Bool) (L : List Nat) (hL : ∀ s ∈ L, s < 81) (hl : L.length ≤ 100) (N : Nat) : ∀ (n i : Nat), i + n = L.length → ∀ F,
  ref04_Freel3 (F + n + 1) L.length i t N (L.map Int.ofNat) = some (if (L.drop i).all (fun s => !t.getD s false) then .inr () else .inl false) := by
 intro n
 induction n with
 | zero =>
   intro i hi F
   show ref04_Freel3s (ref04_Freel3 (F + 0)) _ _ _ _ _ = _
   unfold ref04_Freel3s
   rw [b_nlt (by simp; omega), List.drop_eq_nil_of_le (by omega)]
   rfl
 | succ n ih =>
   intro i hi F
   show ref04_Freel3s (ref04_Freel3 (F + n + 1)) _ _ _ _ _ = _
   unfold ref04_Freel3s
   have hil : i < L.length := by omega
   have hd : L.drop i = L[i] :: L.drop (i + 1) := List.drop_eq_getElem_cons hil
   have hget : (L.map Int.ofNat).getD i 0 = (L[i] : Int) := by
    rw [List.getD_eq_getElem?_getD, List.getElem?_map, List.getElem?_eq_getElem hil]; rfl
   have h81 := hL L[i] (List.getElem_mem hil)
   rw [b_lt (by simp; omega), b_in (by omega) (by omega), tn, hget, b_in (by omega) (by omega), tn, hd, List.all_cons, w_s (by omega) (by omega)]
   cases ht : t.getD L[i] false with
   | true => rfl
   | false =>
     rw [b_f, Bool.not_false, Bool.true_and]
     exact ih (i + 1) (by omega) F
theorem free_val {a c : Nat} (ha : a < 81) (hc : c < 81) (t : List Bool) : ref04_Free a c t = some (freeS a c fun s => t.getD s false) := by
 unfold ref04_Free
 rw [between_val ha hc, ob_some]
 simp only
 have hlen := btw_len ha hc
 obtain ⟨g, hg⟩ := many_eq (btw a c).length (by omega)
 have := free_goes t (btw a c) (fun s hs => btw_mem ha hc hs) (by omega) (btw a c).length (btw a c).length 0 (by omega) g
 rw [← hg] at this
 rw [show ref04_Freel3 many (btw a c).length 0 t (btw a c).length ((btw a c).map Int.ofNat) = _ from this, ob_some, List.drop_zero]
 unfold freeS
 cases (btw a c).all fun s => !t.getD s false <;> rfl
def slK (k d u : Int) : Prop := (k = 2 ∧ d = 0 ∧ 0 < u) ∨ ((k = 6 ∨ k = 14) ∧ ¬ (d = 0 ∧ u = 0) ∧ (d = u ∨ d = -u)) ∨ ((k = 7 ∨ k = 15) ∧ ¬ (d = 0 ∧ u = 0) ∧ (d = 0 ∨ u = 0))
instance (k d u : Int) : Decidable (slK k d u) := by unfold slK; infer_instance
def slideB (x : Int) (a c : Nat) : Bool := decide (slK (kd x) (df a c) (upS x a c))
def rch (x : Int) (a c : Nat) (t : Nat → Bool) : Bool := stepB x a c || (slideB x a c && freeS a c t)
theorem line_one {a c : Nat} : lineS a c = 1 ↔ (¬ (df a c = 0 ∧ dr a c = 0)) ∧ (df a c = 0 ∨ dr a c = 0) := by
 unfold lineS
 by_cases hac : a = c
 ·subst hac
  have := geo_self a
  simp [this.1, this.2]
 ·have : ¬ (df a c = 0 ∧ dr a c = 0) := fun h => hac (geo_eq h.1 h.2)
  rw [if_neg hac]
  split
  ·rename_i h; simp [this, h]
  ·rename_i h
   split <;> simp [h]
theorem line_two {a c : Nat} : lineS a c = 2 ↔ (¬ (df a c = 0 ∧ dr a c = 0)) ∧ (df a c = dr a c ∨ df a c = -dr a c) := by
 unfold lineS
 by_cases hac : a = c
 ·subst hac
  have := geo_self a
  simp [this.1, this.2]
 ·have : ¬ (df a c = 0 ∧ dr a c = 0) := fun h => hac (geo_eq h.1 h.2)
  rw [if_neg hac]
  split
  ·rename_i h
   constructor
   ·intro hh; omega
   ·rintro ⟨h1, h2⟩; omega
  ·rename_i h
   split
   ·rename_i h2; simp [h2]; omega
   ·rename_i h2; simp [h2]
theorem reach_val (x : Int) {a c : Nat} (ha : a < 81) (hc : c < 81) (t : List Bool) : ref04_Reaches x a c t = some (rch x a c fun s => t.getD s false) := by
 have hg := geo ha
 have hg2 := geo hc
 unfold ref04_Reaches
 rw [refStep_val x ha hc, ob_some]
 unfold rch
 cases hst : stepB x a c with
 | true => rfl
 | false =>
   rw [b_f, line_val ha hc, ob_some, refSide_val, ob_some, Bool.false_or]
   have l1 := line_one (a := a) (c := c)
   have l2 := line_two (a := a) (c := c)
   have hup : upS x a c = if sd x = 1 then dr a c else -dr a c := rfl
   have hdr : dr a c = rn c - rn a := rfl
   have hdf : df a c = fl c - fl a := rfl
   have fin : ∀ (p : Bool), p = slideB x a c → (br p (ob (ref04_Free a c t) fun a8 => some a8) (some false) : Option Bool) = some (slideB x a c && freeS a c fun s => t.getD s false) := by
    intro p hp
    rw [hp, free_val ha hc, ob_some]
    cases slideB x a c <;> rfl
   have sl : ∀ {p : Prop} [Decidable p], (p ↔ slK (kd x) (df a c) (upS x a c)) → decide p = slideB x a c := by
    intro p _ h
    unfold slideB
    rw [decide_eq_decide]; exact h
   have nsl : ¬ slK (kd x) (df a c) (upS x a c) → (some false : Option Bool) = some (slideB x a c && freeS a c fun s => t.getD s false) := by
    intro h
    have : slideB x a c = false := by unfold slideB; simpa using h
    rw [this]; rfl
   simp (disch := omega) only [tdiv9, tmod9', w_s, refKind_val, ob_some]
   have body : ∀ (u : Int), u = upS x a c → (br (kd x == 2)
        (br (lineS a c == 1)
         (br (fl a == fl c)
          (br (decide (u > 0))
           (ob (ref04_Free a c t) fun a8 =>
           some (a8))
           (some (false)))
          (some (false)))
         (some (false)))
        (br (kd x == 6)
         (br (lineS a c == 2)
          (ob (ref04_Free a c t) fun a8 =>
          some (a8))
          (some (false)))
         (br (kd x == 14)
          (br (lineS a c == 2)
           (ob (ref04_Free a c t) fun a8 =>
           some (a8))
           (some (false)))
          (br (kd x == 7)
           (br (lineS a c == 1)
            (ob (ref04_Free a c t) fun a8 =>
            some (a8))
            (some (false)))
           (br (kd x == 15)
            (br (lineS a c == 1)
             (ob (ref04_Free a c t) fun a8 =>
             some (a8))
             (some (false)))
            (some (false))))))  : Option Bool) = some (slideB x a c && freeS a c fun s => t.getD s false) := by
    intro u hu
    by_cases k2 : kd x = 2
    ·rw [b_eq k2]
     by_cases h1 : lineS a c = 1
     ·rw [b_eq h1]
      by_cases h3 : fl a = fl c
      ·rw [b_eq h3]
       refine fin _ ?_
       exact sl (by unfold slK; rw [← hu]; omega)
      ·rw [b_neq h3]
       exact nsl (by unfold slK; omega)
     ·rw [b_neq h1]
      refine nsl (by
       rw [l1] at h1
       unfold slK
       split at hup <;> omega)
    ·rw [b_neq k2]
     have two : (kd x = 6 ∨ kd x = 14) → (br (lineS a c == 2) (ob (ref04_Free a c t) fun a8 => some a8) (some false) : Option Bool) = some (slideB x a c && freeS a c fun s => t.getD s false) := by
      intro hk
      refine fin _ ?_
      have : (lineS a c == 2) = decide (lineS a c = 2) := by rw [Bool.eq_iff_iff]; simp
      rw [this]
      refine sl ?_
      rw [l2]
      unfold slK
      split at hup <;> omega
     have one : (kd x = 7 ∨ kd x = 15) → (br (lineS a c == 1) (ob (ref04_Free a c t) fun a8 => some a8) (some false) : Option Bool) = some (slideB x a c && freeS a c fun s => t.getD s false) := by
      intro hk
      refine fin _ ?_
      have : (lineS a c == 1) = decide (lineS a c = 1) := by rw [Bool.eq_iff_iff]; simp
      rw [this]
      refine sl ?_
      rw [l1]
      unfold slK
      split at hup <;> omega
     by_cases k6 : kd x = 6
     ·rw [b_eq k6]; exact two (.inl k6)
     rw [b_neq k6]
     by_cases k14 : kd x = 14
     ·rw [b_eq k14]; exact two (.inr k14)
     rw [b_neq k14]
     by_cases k7 : kd x = 7
     ·rw [b_eq k7]; exact one (.inl k7)
     rw [b_neq k7]
     by_cases k15 : kd x = 15
     ·rw [b_eq k15]; exact one (.inr k15)
     rw [b_neq k15]
     exact nsl (by unfold slK; omega)
   by_cases hs : sd x = 1
   ·rw [b_eq hs]
    exact body _ (by rw [hup, if_pos hs]; omega)
   ·rw [b_neq hs]
    exact body _ (by rw [hup, if_neg hs]; omega)
end Go.Kk.Pl
namespace Go.Kk.Pl
def rayL (dx dy : Int) : Nat → Int → List Nat
 | 0, _ => []
 | n + 1, p => if p < 0 then [] else p.toNat :: rayL dx dy n (fromS dx dy p.toNat)
def upto (t : Nat → Bool) : List Nat → Nat → Bool
 | [], _ => false
 | s :: L, c => decide (c = s) || (!t s && upto t L c)
def ends (dx dy : Int) : Nat → Int → Bool
 | 0, p => decide (p < 0)
 | n + 1, p => decide (p < 0) || ends dx dy n (fromS dx dy p.toNat)
theorem fromS_range (dx dy : Int) (a : Nat) : -1 ≤ fromS dx dy a ∧ fromS dx dy a < 81 := by unfold fromS; split <;> omega
theorem way_goes {dx dy : Int} (h1 : -8 ≤ dx) (h2 : dx ≤ 8) (h3 : -8 ≤ dy) (h4 : dy ≤ 8) (t : Nat → Bool) (u v : Int) : ∀ (n : Nat) (p : Int), -1 ≤ p → p < 81 → ends dx dy n p = true → ∀ (f : Nat → Bool) (F : Nat),
  ray_Wayl5 (F + n + 1) p dx dy (sLo t) (sHi t) u v (sLo f) (sHi f) = some (u, v, sLo fun c => f c || upto t (rayL dx dy n p) c, sHi fun c => f c || upto t (rayL dx dy n p) c) := by
 intro n
 induction n with
 | zero =>
   intro p hp0 hp1 he f F
   show ray_Wayl5s (ray_Wayl5 (F + 0)) _ _ _ _ _ _ _ _ _ = _
   unfold ray_Wayl5s
   simp only [ends, decide_eq_true_eq] at he
   rw [b_nge (by omega)]
   have : (fun c => f c || upto t (rayL dx dy 0 p) c) = f := by funext c; simp [rayL, upto]
   rw [this]
 | succ n ih =>
   intro p hp0 hp1 he f F
   show ray_Wayl5s (ray_Wayl5 (F + n + 1)) _ _ _ _ _ _ _ _ _ = _
   unfold ray_Wayl5s
   by_cases hp : p < 0
   ·rw [b_nge (by omega)]
    have : (fun c => f c || upto t (rayL dx dy (n + 1) p) c) = f := by funext c; simp [rayL, upto, hp]
    rw [this]
   ·obtain ⟨q, rfl⟩ : ∃ q : Nat, p = q := ⟨p.toNat, by omega⟩
    have hq : q < 81 := by omega
    rw [b_ge (by omega), with_val, ob_some]
    simp only
    rw [has_val, ob_some]
    have hhas : has t q = t q := by unfold has; simp; intro _; omega
    have hL : rayL dx dy (n + 1) q = q :: rayL dx dy n (fromS dx dy q) := by simp [rayL]
    rw [hhas, hL]
    cases ht : t q with
    | true =>
      rw [b_t]
      obtain ⟨e1, e2⟩ := set_congr (f := fun i => f i || only q i) (g := fun c => f c || upto t (q :: rayL dx dy n (fromS dx dy q)) c) fun c hc => by
       unfold upto only
       rw [ht]
       have : decide ((c : Int) = (q : Int)) = decide (c = q) := by rw [decide_eq_decide]; omega
       rw [this]; simp
      rw [e1, e2]
    | false =>
      rw [b_f, from_val h1 h2 h3 h4 hq, ob_some]
      obtain ⟨r1, r2⟩ := fromS_range dx dy q
      have he' : ends dx dy n (fromS dx dy q) = true := by
       simp only [ends, Bool.or_eq_true, decide_eq_true_eq] at he
       rcases he with he | he
       ·omega
       ·simpa using he
      refine (ih _ r1 r2 he' _ F).trans ?_
      obtain ⟨e1, e2⟩ := set_congr (f := fun c => (f c || only q c) || upto t (rayL dx dy n (fromS dx dy q)) c) (g := fun c => f c || upto t (q :: rayL dx dy n (fromS dx dy q)) c) fun c hc => by
       unfold only
       have : decide ((c : Int) = (q : Int)) = decide (c = q) := by rw [decide_eq_decide]; omega
       rw [this]
       show _ = (f c || (decide (c = q) || (!t q && upto t (rayL dx dy n (fromS dx dy q)) c)))
       rw [ht]
       simp [Bool.or_assoc]
      rw [e1, e2]
def wayL (dx dy : Int) (a : Nat) : List Nat := rayL dx dy 9 (fromS dx dy a)
theorem ends_all : ∀ (d : Fin 9) (a : Fin 81), (d.val = 4 ∨ ends ((d.val / 3 : Nat) - 1) ((d.val % 3 : Nat) - 1) 9 (fromS ((d.val / 3 : Nat) - 1) ((d.val % 3 : Nat) - 1) a.val) = true) := by decide +kernel
theorem way_val {dx dy : Int} (h1 : -1 ≤ dx) (h2 : dx ≤ 1) (h3 : -1 ≤ dy) (h4 : dy ≤ 1) (hne : ¬ (dx = 0 ∧ dy = 0)) {a : Nat} (ha : a < 81) (t : Nat → Bool) :
  ray_Way a dx dy (sLo t) (sHi t) = some (sLo (upto t (wayL dx dy a)), sHi (upto t (wayL dx dy a))) := by
 unfold ray_Way
 rw [br_false (by rw [Bool.and_eq_false_iff]; simp; omega), from_val (by omega) (by omega) (by omega) (by omega) ha, ob_some]
 obtain ⟨r1, r2⟩ := fromS_range dx dy a
 have he : ends dx dy 9 (fromS dx dy a) = true := by
  have := ends_all ⟨((dx + 1) * 3 + (dy + 1)).toNat, by omega⟩ ⟨a, ha⟩
  simp only at this
  rw [show (((((dx + 1) * 3 + (dy + 1)).toNat / 3 : Nat) : Int) - 1) = dx by omega, show (((((dx + 1) * 3 + (dy + 1)).toNat % 3 : Nat) : Int) - 1) = dy by omega] at this
  exact this.resolve_left (by omega)
 obtain ⟨g, hg⟩ := many_eq 9 (by omega)
 have := way_goes (by omega) (by omega) (by omega) (by omega) t 0 0 9 _ r1 r2 he (fun _ => false) g
 rw [← hg, sLo_false, sHi_false] at this
 rw [this, ob_some]
 simp only [Bool.false_or]
 rfl
def chkA (a c : Nat) : Bool := decide (lineS a c = 0) || ((wayL (sgn (df a c)) (sgn (dr a c)) a).take (btw a c).length == btw a c && ((wayL (sgn (df a c)) (sgn (dr a c)) a)[(btw a c).length]? == some c && !(btw a c).contains c))
def chkB (a : Nat) (dx dy : Int) : Bool := (wayL dx dy a).all fun c => decide (c < 81) && (decide (lineS a c ≠ 0) && (decide (sgn (df a c) = dx) && decide (sgn (dr a c) = dy)))
theorem chkA_all : ∀ (a c : Fin 81), chkA a.val c.val = true := by decide +kernel
theorem chkB_all : ∀ (d : Fin 9) (a : Fin 81), (d.val = 4 ∨ chkB a.val ((d.val / 3 : Nat) - 1) ((d.val % 3 : Nat) - 1) = true) := by decide +kernel
theorem upto_split (t : Nat → Bool) {c : Nat} : ∀ (P Q : List Nat), c ∉ P → upto t (P ++ c :: Q) c = P.all fun s => !t s
 | [], Q, _ => by simp [upto]
 | s :: P, Q, h => by
   simp only [List.mem_cons, not_or] at h
   show (decide (c = s) || (!t s && upto t (P ++ c :: Q) c)) = _
   rw [upto_split t P Q h.2, List.all_cons, show decide (c = s) = false by simpa using h.1, Bool.false_or]
theorem upto_none (t : Nat → Bool) {c : Nat} : ∀ (P : List Nat), c ∉ P → upto t P c = false
 | [], _ => rfl
 | s :: P, h => by
   simp only [List.mem_cons, not_or] at h
   show (decide (c = s) || (!t s && upto t P c)) = _
   rw [upto_none t P h.2, show decide (c = s) = false by simpa using h.1]; simp
def onW (dx dy : Int) (a c : Nat) : Bool := decide (lineS a c ≠ 0 ∧ sgn (df a c) = dx ∧ sgn (dr a c) = dy)
theorem upto_val {dx dy : Int} (h1 : -1 ≤ dx) (h2 : dx ≤ 1) (h3 : -1 ≤ dy) (h4 : dy ≤ 1) (hne : ¬ (dx = 0 ∧ dy = 0)) {a c : Nat} (ha : a < 81) (hc : c < 81) (t : Nat → Bool) :
  upto t (wayL dx dy a) c = (onW dx dy a c && freeS a c t) := by
 unfold onW
 by_cases h : lineS a c ≠ 0 ∧ sgn (df a c) = dx ∧ sgn (dr a c) = dy
 ·obtain ⟨hl, rfl, rfl⟩ := h
  have := chkA_all ⟨a, ha⟩ ⟨c, hc⟩
  simp only [chkA, Bool.or_eq_true, decide_eq_true_eq, Bool.and_eq_true, beq_iff_eq, Bool.not_eq_true'] at this
  obtain ⟨e1, e2, e3⟩ := this.resolve_left hl
  have hlt : (btw a c).length < (wayL (sgn (df a c)) (sgn (dr a c)) a).length := getElem?_lt e2
  have hsp : wayL (sgn (df a c)) (sgn (dr a c)) a = btw a c ++ c :: (wayL (sgn (df a c)) (sgn (dr a c)) a).drop ((btw a c).length + 1) := by
   have := split_at e2
   rw [e1] at this
   exact this
  rw [hsp, upto_split t _ _ (by simpa using e3)]
  simp [hl, freeS]
 ·have hn : c ∉ wayL dx dy a := by
   intro hm
   have := chkB_all ⟨((dx + 1) * 3 + (dy + 1)).toNat, by omega⟩ ⟨a, ha⟩
   simp only at this
   rw [show (((((dx + 1) * 3 + (dy + 1)).toNat / 3 : Nat) : Int) - 1) = dx by omega, show (((((dx + 1) * 3 + (dy + 1)).toNat % 3 : Nat) : Int) - 1) = dy by omega] at this
   have := this.resolve_left (by omega)
   unfold chkB at this
   rw [List.all_eq_true] at this
   have := this c hm
   simp only [Bool.and_eq_true, decide_eq_true_eq] at this
   exact h ⟨this.2.1, this.2.2.1, this.2.2.2⟩
  rw [upto_none t _ hn]
  rw [decide_eq_false h, Bool.false_and]
def rdirL (k : Int) : List (List Int) := if k = 2 then [[0, -1]] else if k = 6 ∨ k = 14 then [[-1, -1], [1, -1], [-1, 1], [1, 1]] else if k = 7 ∨ k = 15 then [[0, -1], [-1, 0], [1, 0], [0, 1]] else []
theorem rdirs_val (k : Int) : ray_Dirs k = some ((rdirL k).length, (rdirL k).length, rdirL k) := by
 unfold ray_Dirs rdirL
 by_cases h2 : k = 2
 ·rw [b_eq h2, if_pos h2]; rfl
 rw [b_neq h2, if_neg h2]
 by_cases h6 : k = 6
 ·rw [b_eq h6, if_pos (.inl h6)]; rfl
 rw [b_neq h6]
 by_cases h14 : k = 14
 ·rw [b_eq h14, if_pos (.inr h14)]; rfl
 rw [b_neq h14, if_neg (by omega)]
 by_cases h7 : k = 7
 ·rw [b_eq h7, if_pos (.inl h7)]; rfl
 rw [b_neq h7]
 by_cases h15 : k = 15
 ·rw [b_eq h15, if_pos (.inr h15)]; rfl
 rw [b_neq h15, if_neg (by omega)]; rfl
theorem rdirL_ok (k : Int) : (rdirL k).length ≤ 8 ∧ ∀ r ∈ rdirL k, r.length ≤ 2 ∧ -1 ≤ dx_ r ∧ dx_ r ≤ 1 ∧ -1 ≤ dy_ r ∧ dy_ r ≤ 1 ∧ ¬ (dx_ r = 0 ∧ dy_ r = 0) := by
 have h1 : ∀ r ∈ [[0, -1]], (r : List Int).length ≤ 2 ∧ -1 ≤ dx_ r ∧ dx_ r ≤ 1 ∧ -1 ≤ dy_ r ∧ dy_ r ≤ 1 ∧ ¬ (dx_ r = 0 ∧ dy_ r = 0) := by decide
 have h2 : ∀ r ∈ [[-1, -1], [1, -1], [-1, 1], [1, 1]], (r : List Int).length ≤ 2 ∧ -1 ≤ dx_ r ∧ dx_ r ≤ 1 ∧ -1 ≤ dy_ r ∧ dy_ r ≤ 1 ∧ ¬ (dx_ r = 0 ∧ dy_ r = 0) := by decide
 have h3 : ∀ r ∈ [[0, -1], [-1, 0], [1, 0], [0, 1]], (r : List Int).length ≤ 2 ∧ -1 ≤ dx_ r ∧ dx_ r ≤ 1 ∧ -1 ≤ dy_ r ∧ dy_ r ≤ 1 ∧ ¬ (dx_ r = 0 ∧ dy_ r = 0) := by decide
 unfold rdirL
 split
 ·exact ⟨by decide, h1⟩
 ·split
  ·exact ⟨by decide, h2⟩
  ·split
   ·exact ⟨by decide, h3⟩
   ·exact ⟨by decide, fun r hr => by cases hr⟩
def anyW (x : Int) (L : List (List Int)) (a c : Nat) : Bool := L.any fun r => onW (sg x * dx_ r) (sg x * dy_ r) a c
theorem rayOf_goes {x : Int} {a : Nat} (ha : a < 81) (t : Nat → Bool) (L : List (List Int)) (hlen : L.length ≤ 8) (hr : ∀ r ∈ L, r.length ≤ 2 ∧ -1 ≤ dx_ r ∧ dx_ r ≤ 1 ∧ -1 ≤ dy_ r ∧ dy_ r ≤ 1 ∧ ¬ (dx_ r = 0 ∧ dy_ r = 0)) (N : Nat) (u v : Int) :
  ∀ (n i : Nat), i + n = L.length → ∀ (f : Nat → Bool) (F : Nat), ray_Ofl3 (F + n + 1) x a L.length (Int.ofNat L.length) i (sLo t) (sHi t) u v (sLo f) (sHi f) N L =
    some (u, v, sLo fun c => f c || (anyW x (L.drop i) a c && freeS a c t), sHi fun c => f c || (anyW x (L.drop i) a c && freeS a c t)) := by
 intro n
 induction n with
 | zero =>
   intro i hi f F
   show ray_Ofl3s (ray_Ofl3 (F + 0)) _ _ _ _ _ _ _ _ _ _ _ _ _ = _
   unfold ray_Ofl3s
   rw [b_nlt (by simp; omega), List.drop_eq_nil_of_le (by omega)]
   have : (fun c => f c || (anyW x [] a c && freeS a c t)) = f := by funext c; simp [anyW]
   rw [this]
 | succ n ih =>
   intro i hi f F
   show ray_Ofl3s (ray_Ofl3 (F + n + 1)) _ _ _ _ _ _ _ _ _ _ _ _ _ = _
   unfold ray_Ofl3s
   have hil : i < L.length := by omega
   have hget : L.getD i [] = L[i] := by rw [List.getD_eq_getElem?_getD, List.getElem?_eq_getElem hil]; rfl
   obtain ⟨r0, r1, r2, r3, r4, r5⟩ := hr L[i] (List.getElem_mem hil)
   have ht : List.take 2 L[i] = L[i] := List.take_of_length_le r0
   have hs := sg_cases x
   have c1 : -1 ≤ sg x * dx_ L[i] ∧ sg x * dx_ L[i] ≤ 1 ∧ -1 ≤ sg x * dy_ L[i] ∧ sg x * dy_ L[i] ≤ 1 ∧ ¬ (sg x * dx_ L[i] = 0 ∧ sg x * dy_ L[i] = 0) := by
    rcases hs with h | h <;> rw [h] <;> omega
   rw [b_lt (by simp; omega), b_in (by omega) (by omega), tn, hget, ht, side_val, ob_some]
   show ob (step_Dir_Turn (dx_ L[i]) (dy_ L[i]) (sd x)) _ = _
   rw [turn_val (by omega), ob_some]
   simp only
   rw [way_val c1.1 c1.2.1 c1.2.2.1 c1.2.2.2.1 c1.2.2.2.2 ha, ob_some]
   simp only
   rw [or_val, ob_some]
   simp only
   rw [w_s (by omega) (by omega)]
   refine (ih (i + 1) (by omega) _ F).trans ?_
   have hd : L.drop i = L[i] :: L.drop (i + 1) := List.drop_eq_getElem_cons hil
   obtain ⟨e1, e2⟩ := set_congr (f := fun c => (f c || upto t (wayL (sg x * dx_ L[i]) (sg x * dy_ L[i]) a) c) || (anyW x (L.drop (i + 1)) a c && freeS a c t)) (g := fun c => f c || (anyW x (L.drop i) a c && freeS a c t)) fun c hc => by
    rw [upto_val c1.1 c1.2.1 c1.2.2.1 c1.2.2.2.1 c1.2.2.2.2 ha hc, hd]
    unfold anyW
    rw [List.any_cons, Bool.and_or_distrib_right, Bool.or_assoc]
   rw [e1, e2]
def lieS (d e : Int) : Prop := ¬ (d = 0 ∧ e = 0) ∧ (d = 0 ∨ e = 0 ∨ d = e ∨ d = -e)
instance (d e : Int) : Decidable (lieS d e) := by unfold lieS; infer_instance
theorem line_lie (a c : Nat) : lineS a c ≠ 0 ↔ lieS (df a c) (dr a c) := by
 unfold lieS lineS
 by_cases hac : a = c
 ·subst hac
  have := geo_self a
  simp [this.1, this.2]
 ·have : ¬ (df a c = 0 ∧ dr a c = 0) := fun h => hac (geo_eq h.1 h.2)
  rw [if_neg hac]
  split
  ·rename_i h; constructor
   ·intro _; exact ⟨this, by omega⟩
   ·intro _; omega
  ·split
   ·constructor
    ·intro _; exact ⟨this, by omega⟩
    ·intro _; omega
   ·constructor
    ·intro h; omega
    ·rintro ⟨_, h⟩; omega
theorem anyW_all : ∀ (k : Fin 16) (d e : Fin 17), (rdirL ((k.val : Nat) : Int)).any (fun r => decide (lieS ((d.val : Int) - 8) ((e.val : Int) - 8) ∧ sgn ((d.val : Int) - 8) = dx_ r ∧ sgn ((e.val : Int) - 8) = dy_ r)) = decide (slK ((k.val : Nat) : Int) ((d.val : Int) - 8) (-((e.val : Int) - 8))) := by decide +kernel
theorem anyW_sym : ∀ (k : Fin 16) (d e : Fin 17), (rdirL ((k.val : Nat) : Int)).any (fun r => decide (lieS ((d.val : Int) - 8) ((e.val : Int) - 8) ∧ sgn ((d.val : Int) - 8) = -(dx_ r) ∧ sgn ((e.val : Int) - 8) = -(dy_ r))) = decide (slK ((k.val : Nat) : Int) ((d.val : Int) - 8) ((e.val : Int) - 8)) := by decide +kernel
theorem anyW_val (x : Int) {a c : Nat} (ha : a < 81) (hc : c < 81) : anyW x (rdirL (kd x)) a c = slideB x a c := by
 obtain ⟨k0, k1, _⟩ := kd_bounds x
 have hr := upS_range (x := x) ha hc
 have hl := line_lie a c
 unfold slideB anyW onW sg upS
 by_cases hs : sd x = 1
 ·simp only [hs, if_true]
  have := anyW_sym ⟨(kd x).toNat, by omega⟩ ⟨(df a c + 8).toNat, by omega⟩ ⟨(dr a c + 8).toNat, by omega⟩
  simp only [show (((kd x).toNat : Nat) : Int) = kd x by omega, show (((df a c + 8).toNat : Nat) : Int) - 8 = df a c by omega, show (((dr a c + 8).toNat : Nat) : Int) - 8 = dr a c by omega] at this
  rw [← this]
  congr 1
  funext r
  rw [decide_eq_decide, hl]
  constructor <;> (rintro ⟨h1, h2, h3⟩; refine ⟨h1, ?_, ?_⟩ <;> omega)
 ·simp only [hs, if_false]
  have := anyW_all ⟨(kd x).toNat, by omega⟩ ⟨(df a c + 8).toNat, by omega⟩ ⟨(dr a c + 8).toNat, by omega⟩
  simp only [show (((kd x).toNat : Nat) : Int) = kd x by omega, show (((df a c + 8).toNat : Nat) : Int) - 8 = df a c by omega, show (((dr a c + 8).toNat : Nat) : Int) - 8 = dr a c by omega] at this
  rw [← this]
  congr 1
  funext r
  rw [decide_eq_decide, hl]
  constructor <;> (rintro ⟨h1, h2, h3⟩; refine ⟨h1, ?_, ?_⟩ <;> omega)
theorem rayOf_val (x : Int) {a : Nat} (ha : a < 81) (t : Nat → Bool) : ray_Of x a (sLo t) (sHi t) = some (sLo (fun c => rch x a c t), sHi fun c => rch x a c t) := by
 obtain ⟨hlen, hrs⟩ := rdirL_ok (kd x)
 obtain ⟨g, hg⟩ := many_eq (rdirL (kd x)).length (by omega)
 have := rayOf_goes (x := x) ha t (rdirL (kd x)) hlen hrs (rdirL (kd x)).length 0 0 (rdirL (kd x)).length 0 (by omega) (stepB x a) g
 rw [← hg] at this
 unfold ray_Of
 rw [stepOf_val x ha, ob_some]
 simp only
 rw [kind_val, ob_some, rdirs_val, ob_some]
 simp only
 rw [show ray_Ofl3 many x a (rdirL (kd x)).length (Int.ofNat (rdirL (kd x)).length) 0 (sLo t) (sHi t) 0 0 (sLo (stepB x a)) (sHi (stepB x a)) (rdirL (kd x)).length (rdirL (kd x)) = _ from this, ob_some]
 simp only
 obtain ⟨e1, e2⟩ := set_congr (f := fun c => stepB x a c || (anyW x (List.drop 0 (rdirL (kd x))) a c && freeS a c t)) (g := fun c => rch x a c t) fun c hc => by
  rw [List.drop_zero, anyW_val x ha hc]
  rfl
 rw [e1, e2]
end Go.Kk.Pl
namespace Go.Kk.Pl
theorem back_all : ∀ (a c : Fin 81), (btw a.val c.val).all (fun s => (btw c.val a.val).contains s) = true := by decide +kernel
theorem btw_back {a c : Nat} (ha : a < 81) (hc : c < 81) {s : Nat} (hs : s ∈ btw a c) : s ∈ btw c a := by
 have := back_all ⟨a, ha⟩ ⟨c, hc⟩
 rw [List.all_eq_true] at this
 simpa using this s hs
theorem free_iff {a c : Nat} {t : Nat → Bool} : freeS a c t = true ↔ ∀ s ∈ btw a c, t s = false := by simp [freeS]
theorem free_back {a c : Nat} (ha : a < 81) (hc : c < 81) (t : Nat → Bool) : freeS a c t = freeS c a t := by
 rw [Bool.eq_iff_iff, free_iff, free_iff]
 exact ⟨fun h s hs => h s (btw_back hc ha hs), fun h s hs => h s (btw_back ha hc hs)⟩
theorem free_congr {a c : Nat} (ha : a < 81) (hc : c < 81) {t t' : Nat → Bool} (h : ∀ s, s < 81 → t s = t' s) : freeS a c t = freeS a c t' := by
 rw [Bool.eq_iff_iff, free_iff, free_iff]
 exact ⟨fun hh s hs => by rw [← h s (btw_mem ha hc hs)]; exact hh s hs, fun hh s hs => by rw [h s (btw_mem ha hc hs)]; exact hh s hs⟩
theorem rch_congr {x : Int} {a c : Nat} (ha : a < 81) (hc : c < 81) {t t' : Nat → Bool} (h : ∀ s, s < 81 → t s = t' s) : rch x a c t = rch x a c t' := by
 unfold rch; rw [free_congr ha hc h]
theorem sd_pc {s k : Int} (hs : s = 0 ∨ s = 1) (h1 : 1 ≤ k) (h2 : k ≤ 15) (h3 : k ≠ 13) : sd (pc s k) = s ∧ kd (pc s k) = k := by
 rw [pc_ok hs h1 h2 h3]
 have hk := kd_of hs h1 h2 h3
 refine ⟨?_, hk⟩
 unfold sd
 rw [hk, if_neg (by omega)]
 rcases hs with rfl | rfl
 ·rw [if_pos (by omega)]
 ·rw [if_neg (by omega)]
theorem stpK_neg (k d u : Int) : stpK k (-d) u ↔ stpK k d u := by
 unfold stpK
 exact or_congr (by omega) (or_congr (by omega) (or_congr (by omega) (or_congr (by omega) (or_congr (by omega) (or_congr (by omega) (by omega))))))
theorem slK_neg (k d u : Int) : slK k (-d) u ↔ slK k d u := by
 unfold slK
 exact or_congr (by omega) (or_congr (by omega) (by omega))
theorem rch_turn {s k : Int} (hs : s = 0 ∨ s = 1) (h1 : 1 ≤ k) (h2 : k ≤ 15) (h3 : k ≠ 13) {a c : Nat} (ha : a < 81) (hc : c < 81) (t : Nat → Bool) :
  rch (pc (1 - s) k) a c t = rch (pc s k) c a t := by
 obtain ⟨e1, e2⟩ := sd_pc hs h1 h2 h3
 obtain ⟨e3, e4⟩ := sd_pc (s := 1 - s) (by omega) h1 h2 h3
 have hd : df a c = -df c a := by unfold df; omega
 have hr : dr a c = -dr c a := by unfold dr; omega
 have hu : upS (pc (1 - s) k) a c = upS (pc s k) c a := by
  unfold upS
  rw [e1, e3]
  rcases hs with rfl | rfl
  ·rw [if_pos (by omega), if_neg (by omega)]; exact hr
  ·rw [if_neg (by omega), if_pos (by omega), hr]; omega
 unfold rch stepB slideB
 rw [e2, e4, hu, free_back ha hc]
 have s1 : decide (stpK k (df a c) (upS (pc s k) c a)) = decide (stpK k (df c a) (upS (pc s k) c a)) := by
  rw [decide_eq_decide, hd]; exact stpK_neg _ _ _
 have s2 : decide (slK k (df a c) (upS (pc s k) c a)) = decide (slK k (df c a) (upS (pc s k) c a)) := by
  rw [decide_eq_decide, hd]; exact slK_neg _ _ _
 rw [s1, s2]
theorem pc_of {x : Int} (h : kd x ≠ 0) : x = pc (sd x) (kd x) := by
 obtain ⟨k0, k1, k2⟩ := kd_bounds x
 have hs := sd_range h
 rw [pc_ok hs (by omega) k1 k2]
 have hr := kd_range h
 unfold sd kd at *
 rw [if_neg h]
 split at h
 ·omega
 ·rename_i hh
  rw [if_neg hh]
  split <;> omega
def onF (b : List Int) (q : Nat) (s : Int) (t : Nat → Bool) (i : Int) (c : Nat) : Bool := decide (sd (b.getD c 0) = s ∧ i ≤ kd (b.getD c 0)) && rch (b.getD c 0) c q t
theorem att_goes {b : List Int} (h : List Int) (S : Int) (sd' : List (List Int)) {s : Int} (hs : s = 0 ∨ s = 1) {q : Nat} (hq : q < 81) (t : Nat → Bool) (u v : Int) : ∀ (n : Nat) (k : Int), k = 16 - n → n ≤ 15 → ∀ (f : Nat → Bool) (F : Nat),
  attack_Onl5 (F + n + 1) q s k b h S (byOf b) sd' (sLo t) (sHi t) u v (sLo f) (sHi f) = some (b, h, S, byOf b, sd', u, v, sLo fun c => f c || onF b q s t k c, sHi fun c => f c || onF b q s t k c) := by
 intro n
 induction n with
 | zero =>
   intro k hk _ f F
   show attack_Onl5s (attack_Onl5 (F + 0)) _ _ _ _ _ _ _ _ _ _ _ _ _ _ = _
   unfold attack_Onl5s
   rw [b_nle (by omega)]
   have : (fun c => f c || onF b q s t k c) = f := by
    funext c
    have := (kd_bounds (b.getD c 0)).2.1
    unfold onF
    rw [decide_eq_false (by omega)]
    simp
   rw [this]
 | succ n ih =>
   intro k hk hn f F
   show attack_Onl5s (attack_Onl5 (F + n + 1)) _ _ _ _ _ _ _ _ _ _ _ _ _ _ = _
   unfold attack_Onl5s
   rw [b_le (by omega), w_s (n := 1 - s) (by omega) (by omega), of_gen, ob_some, w_s (n := k + 1) (by omega) (by omega)]
   by_cases h13 : k = 13
   ·have hz : pc (1 - s) k = 0 := pc_none (by omega)
    rw [b_eq hz]
    refine (ih (k + 1) (by omega) (by omega) f F).trans ?_
    have : (fun c => f c || onF b q s t (k + 1) c) = fun c => f c || onF b q s t k c := by
     funext c
     have := (kd_bounds (b.getD c 0)).2.2
     unfold onF
     congr 2
     rw [decide_eq_decide]
     omega
    rw [this]
   ·have hp := pc_ok (s := 1 - s) (k := k) (by omega) (by omega) (by omega) h13
    rw [b_neq (by rw [hp]; omega), rayOf_val _ hq, ob_some]
    simp only
    rw [ofB_val, ob_some]
    simp only
    rw [and_val, ob_some]
    simp only
    rw [or_val, ob_some]
    simp only
    refine (ih (k + 1) (by omega) (by omega) _ F).trans ?_
    obtain ⟨e1, e2⟩ := set_congr (f := fun c => (f c || (rch (pc (1 - s) k) q c t && pcs b (pc s k) c)) || onF b q s t (k + 1) c) (g := fun c => f c || onF b q s t k c) fun c hc => by
     rw [rch_turn hs (by omega) (by omega) h13 hq hc, Bool.or_assoc]
     congr 1
     obtain ⟨g1, g2⟩ := sd_pc hs (by omega) (by omega) h13
     have hne : pc s k ≠ 0 := by rw [pc_ok hs (by omega) (by omega) h13]; omega
     unfold onF pcs
     by_cases hx : b.getD c 0 = pc s k
     ·rw [hx, g1, g2, decide_eq_true (show pc s k ≠ 0 ∧ pc s k = pc s k from ⟨hne, rfl⟩), decide_eq_false (by omega), decide_eq_true (by omega)]
      simp
     ·rw [decide_eq_false (p := pc s k ≠ 0 ∧ b.getD c 0 = pc s k) (by omega), Bool.and_false, Bool.false_or]
      congr 1
      rw [decide_eq_decide]
      constructor
      ·rintro ⟨h1, h2⟩; exact ⟨h1, by omega⟩
      ·rintro ⟨h1, h2⟩
       refine ⟨h1, ?_⟩
       rcases Int.lt_or_eq_of_le h2 with h3 | h3
       ·omega
       ·exfalso
        apply hx
        have hk0 : kd (b.getD c 0) ≠ 0 := by omega
        have := pc_of hk0
        rw [h1, ← h3] at this
        exact this
    rw [e1, e2]
def onS (b : List Int) (q s : Int) (t : Nat → Bool) (c : Nat) : Bool := decide (0 ≤ q ∧ q < 81) && (decide (s = 0 ∨ s = 1) && (decide (sd (b.getD c 0) = s) && rch (b.getD c 0) c q.toNat t))
theorem onF_one (b : List Int) {s : Int} (hs : s = 0 ∨ s = 1) (q : Nat) (hq : q < 81) (t : Nat → Bool) : onF b q s t 1 = onS b q s t := by
 funext c
 unfold onF onS
 rw [decide_eq_true (show (0 : Int) ≤ q ∧ (q : Int) < 81 by omega), decide_eq_true hs, Bool.true_and, Bool.true_and]
 congr 1
 rw [decide_eq_decide]
 constructor
 ·exact fun h => h.1
 ·intro h
  refine ⟨h, ?_⟩
  have := (kd_bounds (b.getD c 0)).1
  rcases Int.lt_or_eq_of_le this with h1 | h1
  ·omega
  ·rw [sd_none h1.symm] at h; omega
theorem onP_val (b h : List Int) (S : Int) (sd' : List (List Int)) (q s : Int) (t : Nat → Bool) : attack_On q s (sLo t) (sHi t) b h S (byOf b) sd' = some (sLo (onS b q s t), sHi (onS b q s t)) := by
 have none : ¬ ((0 ≤ q ∧ q < 81) ∧ (s = 0 ∨ s = 1)) → onS b q s t = fun _ => false := by
  intro hn
  funext c
  unfold onS
  by_cases h1 : 0 ≤ q ∧ q < 81
  ·rw [decide_eq_false (p := s = 0 ∨ s = 1) (fun h2 => hn ⟨h1, h2⟩)]; simp
  ·rw [decide_eq_false h1]; simp
 unfold attack_On
 by_cases h0 : q < 0
 ·rw [b_lt h0, none (by omega), sLo_false, sHi_false]
 rw [b_nlt h0]
 by_cases h1 : q ≥ 81
 ·rw [b_ge h1, none (by omega), sLo_false, sHi_false]
 rw [b_nge h1]
 obtain ⟨a, rfl⟩ : ∃ a : Nat, q = a := ⟨q.toNat, by omega⟩
 obtain ⟨g, hg⟩ := many_eq 15 (by omega)
 have main : (s = 0 ∨ s = 1) → attack_Onl5 many a s 1 b h S (byOf b) sd' (sLo t) (sHi t) 0 0 0 0 = some (b, h, S, byOf b, sd', 0, 0, sLo (onS b a s t), sHi (onS b a s t)) := by
  intro hs
  have := att_goes (b := b) h S sd' hs (q := a) (by omega) t 0 0 15 1 (by omega) (by omega) (fun _ => false) g
  rw [← hg, sLo_false, sHi_false] at this
  rw [this, onF_one b hs a (by omega)]
  simp only [Bool.false_or]
 by_cases h2 : s = 0
 ·rw [b_nne h2, main (.inl h2), ob_some]
 ·rw [b_ne h2]
  by_cases h3 : s = 1
  ·rw [b_nne h3, main (.inr h3), ob_some]
  ·rw [b_ne h3, none (by omega), sLo_false, sHi_false]
def kg (b : List Int) (s : Int) : Int := fst (pcs b (pc s 8))
def chs (b : List Int) (s : Int) : Nat → Bool := onS b (kg b s) (1 - s) (tk b)
def inC (b : List Int) (s : Int) : Bool := !isE (chs b s)
theorem fst_range (f : Nat → Bool) : -1 ≤ fst f ∧ fst f < 81 := by
 unfold fst
 split
 ·rename_i i hi
  have := List.mem_of_find?_eq_some hi
  rw [List.mem_range] at this
  omega
 ·omega
theorem checkers_val {b : List Int} (hc : Clean b) (h : List Int) (S : Int) {s : Int} (hs : -10 ≤ s ∧ s ≤ 10) : attack_Checkers s b h S (byOf b) (sidesOf b) = some (sLo (chs b s), sHi (chs b s)) := by
 unfold attack_Checkers
 rw [kingB_val, ob_some, takenB_val hc, ob_some]
 simp only
 rw [w_s (by omega) (by omega), onP_val, ob_some]
 rfl
theorem inCheck_val {b : List Int} (hc : Clean b) (h : List Int) (S : Int) {s : Int} (hs : -10 ≤ s ∧ s ≤ 10) : attack_InCheck s b h S (byOf b) (sidesOf b) = some (inC b s) := by
 unfold attack_InCheck
 rw [checkers_val hc h S hs, ob_some]
 simp only
 rw [empty_val, ob_some]
 rfl
theorem chk_zero_clean {b h : List Int} {s : Int} (hl : b.length = 81) (hz : chkS b h s = 0) : Clean b ∧ (s = 0 ∨ s = 1) := by
 unfold chkS at hz
 split at hz
 ·omega
 ·rename_i hs
  split at hz
  ·omega
  ·rename_i hb
   exact ⟨bad_clean hl (by simpa using hb), by omega⟩
def atkS (b h : List Int) (s : Int) : Int := if chkS b h s ≠ 0 then chkS b h s else if inC b (1 - s) then 54 else 0
def tkL (b : List Int) (i : Nat) : List Bool := (List.range 81).map fun j => decide (j < i) && tk b j
theorem taken_goes (b h : List Int) (s : Int) (w : List Bool) : ∀ (n i : Nat), i + n = 81 → ∀ F, ref05_Takenl3 (F + n + 1) i b h s w (tkL b i) = some (w, tkL b 81) := by
 intro n
 induction n with
 | zero =>
   intro i hi F
   show ref05_Takenl3s (ref05_Takenl3 (F + 0)) _ _ _ _ _ _ = _
   unfold ref05_Takenl3s
   rw [b_nlt (by omega), show i = 81 by omega]
 | succ n ih =>
   intro i hi F
   show ref05_Takenl3s (ref05_Takenl3 (F + n + 1)) _ _ _ _ _ _ = _
   unfold ref05_Takenl3s
   have e : List.set (tkL b i) i (b.getD i 0 != 0) = tkL b (i + 1) := by
    unfold tkL
    rw [map_set]
    apply List.map_congr_left
    intro j _
    split
    ·rename_i hj; subst hj
     rw [decide_eq_true (show j < j + 1 by omega), Bool.true_and]
     unfold tk
     rw [Bool.eq_iff_iff]; simp
    ·rename_i hj
     congr 1
     rw [decide_eq_decide]; omega
   rw [b_lt (by omega), b_in (by omega) (by omega), b_in (by omega) (by omega), tn, e, w_s (by omega) (by omega)]
   exact ih (i + 1) (by omega) F
theorem tkL_zero (b : List Int) : tkL b 0 = List.replicate 81 false := by
 unfold tkL
 apply List.ext_getElem
 ·simp
 ·intro i h1 h2
  rw [List.getElem_map, List.getElem_replicate, decide_eq_false (by omega), Bool.false_and]
def takenL (b : List Int) : List Bool := tkL b 81
theorem taken_val (b h : List Int) (s : Int) : ref05_Taken b h s = some (takenL b) := by
 obtain ⟨g, hg⟩ := many_eq 81 (by omega)
 have := taken_goes b h s (List.replicate 81 false) 81 0 (by omega) g
 rw [← hg, tkL_zero] at this
 unfold ref05_Taken
 show ob (ref05_Takenl3 many 0 b h s (List.replicate 81 false) (List.replicate 81 false)) _ = _
 rw [show ref05_Takenl3 many 0 b h s (List.replicate 81 false) (List.replicate 81 false) = _ from this, ob_some]
 rfl
theorem takenL_get (b : List Int) {i : Nat} (h : i < 81) : (takenL b).getD i false = tk b i := by
 unfold takenL tkL
 rw [map_getD _ h, decide_eq_true h, Bool.true_and]
theorem reachT_val (b : List Int) (x : Int) {a c : Nat} (ha : a < 81) (hc : c < 81) : ref04_Reaches x a c (takenL b) = some (rch x a c (tk b)) := by
 rw [reach_val x ha hc, rch_congr ha hc fun s hs => takenL_get b hs]
theorem rking_goes (b h : List Int) (S : Int) {s : Int} (hs : s = 0 ∨ s = 1) : ∀ (n i : Nat), i + n = 81 → (∀ j, j < i → pcs b (pc s 8) j = false) → ∀ F, ref08_Kingl2 (F + n + 1) s i b h S = some (if kg b s = -1 then .inr () else .inl (kg b s)) := by
 have hp : pc s 8 = 16 * s + 8 := pc_ok hs (by omega) (by omega) (by omega)
 intro n
 induction n with
 | zero =>
   intro i hi hj F
   show ref08_Kingl2s (ref08_Kingl2 (F + 0)) _ _ _ _ _ = _
   unfold ref08_Kingl2s
   have : kg b s = -1 := fst_none fun j hj' => hj j (by omega)
   rw [b_nlt (by omega), if_pos this]
 | succ n ih =>
   intro i hi hj F
   show ref08_Kingl2s (ref08_Kingl2 (F + n + 1)) _ _ _ _ _ = _
   unfold ref08_Kingl2s
   rw [b_lt (by omega), b_in (by omega) (by omega), tn, c_8, w_s (n := 16 * s) (by omega) (by omega), w_s (n := 16 * s + 8) (by omega) (by omega), w_s (by omega) (by omega), ← hp]
   by_cases hx : b.getD i 0 = pc s 8
   ·have hk : pcs b (pc s 8) i = true := by unfold pcs; rw [decide_eq_true]; exact ⟨by rw [hp]; omega, hx⟩
    have : kg b s = i := fst_some (by omega) hk hj
    rw [b_eq hx, this, if_neg (by omega)]
   ·rw [b_neq hx]
    refine ih (i + 1) (by omega) (fun j hj' => ?_) F
    by_cases hji : j = i
    ·subst hji; unfold pcs; rw [decide_eq_false]; exact fun hh => hx hh.2
    ·exact hj j (by omega)
theorem rking_val (b h : List Int) (S : Int) {s : Int} (hs : s = 0 ∨ s = 1) : ref08_King b h S s = some (kg b s) := by
 obtain ⟨g, hg⟩ := many_eq 81 (by omega)
 have := rking_goes b h S hs 81 0 (by omega) (fun j hj => absurd hj (by omega)) g
 rw [← hg] at this
 unfold ref08_King
 rw [show ref08_Kingl2 many s 0 b h S = _ from this, ob_some]
 split
 ·rename_i hk; rw [hk]; rfl
 ·rfl
theorem rin_goes (b h : List Int) (S s : Int) (hs : s = 0 ∨ s = 1) (k : Nat) (hk : k < 81) : ∀ (n i : Nat), i + n = 81 → ∀ F,
  ref08_InCheckl6 (F + n + 1) s k i b h S (takenL b) = some (if (List.range' i n).any (onS b k (1 - s) (tk b)) then .inl true else .inr ()) := by
 intro n
 induction n with
 | zero =>
   intro i hi F
   show ref08_InCheckl6s (ref08_InCheckl6 (F + 0)) _ _ _ _ _ _ _ = _
   unfold ref08_InCheckl6s
   rw [b_nlt (by omega)]
   rfl
 | succ n ih =>
   intro i hi F
   show ref08_InCheckl6s (ref08_InCheckl6 (F + n + 1)) _ _ _ _ _ _ _ = _
   unfold ref08_InCheckl6s
   have hr := ih (i + 1) (by omega) F
   rw [b_lt (by omega), b_in (by omega) (by omega), tn, c_8, refSide_val, ob_some, w_s (n := 1 - s) (by omega) (by omega), w_s (by omega) (by omega), any_cons]
   have hon : onS b k (1 - s) (tk b) i = (decide (sd (b.getD i 0) = 1 - s) && rch (b.getD i 0) i k (tk b)) := by
    unfold onS
    rw [decide_eq_true (show (0 : Int) ≤ k ∧ (k : Int) < 81 by omega), decide_eq_true (show 1 - s = 0 ∨ 1 - s = 1 by omega), Bool.true_and, Bool.true_and, tn]
   rw [hon]
   by_cases hsd : sd (b.getD i 0) = 1 - s
   ·rw [b_eq hsd, b_in (by omega) (by omega), reachT_val b _ (by omega) hk, ob_some, decide_eq_true hsd, Bool.true_and]
    cases rch (b.getD i 0) i k (tk b) with
    | true => rfl
    | false => rw [b_f, Bool.false_or]; exact hr
   ·rw [b_neq hsd, decide_eq_false hsd, Bool.false_and, Bool.false_or]
    exact hr
theorem any_isE (f : Nat → Bool) : (List.range' 0 81).any f = !isE f := by
 unfold isE
 rw [range81', Bool.eq_iff_iff]
 simp only [List.any_eq_true, Bool.not_eq_true']
 rw [List.all_eq_false]
 simp
theorem rinCheck_val (b h : List Int) (S : Int) {s : Int} (hs : s = 0 ∨ s = 1) : ref08_InCheck b h S s = some (inC b s) := by
 unfold ref08_InCheck
 rw [taken_val, ob_some, rking_val b h S hs, ob_some]
 have hr := fst_range (pcs b (pc s 8))
 have hkg : kg b s = fst (pcs b (pc s 8)) := rfl
 by_cases hk : kg b s < 0
 ·rw [b_lt hk]
  have : chs b s = fun _ => false := by
   funext c
   unfold chs onS
   rw [decide_eq_false (by omega), Bool.false_and]
  unfold inC
  rw [this, isE_false]
  rfl
 ·obtain ⟨k, hkk⟩ : ∃ k : Nat, kg b s = k := ⟨(kg b s).toNat, by omega⟩
  obtain ⟨g, hg⟩ := many_eq 81 (by omega)
  have := rin_goes b h S s hs k (by omega) 81 0 (by omega) g
  rw [← hg, any_isE, ← hkk] at this
  rw [b_nlt hk, show ref08_InCheckl6 many s (kg b s) 0 b h S (takenL b) = _ from this, ob_some]
  unfold inC chs
  cases isE (onS b (kg b s) (1 - s) (tk b)) <;> rfl
theorem rattackCheck_val {b h : List Int} (hl : b.length = 81) (hf : Fits8 h) (s : Int) : ref08_Check b h s = some (atkS b h s) := by
 unfold ref08_Check atkS
 rw [refCheck_val hl hf, ob_some]
 by_cases hz : chkS b h s = 0
 ·obtain ⟨hc, hs⟩ := chk_zero_clean hl hz
  rw [b_nne hz, if_neg (by simpa using hz), w_s (by omega) (by omega), rinCheck_val b h s (by omega), ob_some]
  cases inC b (1 - s) <;> rfl
 ·rw [b_ne hz, if_pos hz]
def ofL (L : List Int) (c : Nat) : Bool := L.any fun q => only q c
theorem of_goes (L : List Int) (hl : L.length ≤ 1000) (N : Nat) (u v : Int) : ∀ (n i : Nat), i + n = L.length → ∀ (f : Nat → Bool) (F : Nat),
  set_Ofl3 (F + n + 1) L.length L.length i N L u v (sLo f) (sHi f) = some (N, L, u, v, sLo fun c => f c || ofL (L.drop i) c, sHi fun c => f c || ofL (L.drop i) c) := by
 intro n
 induction n with
 | zero =>
   intro i hi f F
   show set_Ofl3s (set_Ofl3 (F + 0)) _ _ _ _ _ _ _ _ _ = _
   unfold set_Ofl3s
   rw [b_nlt (by omega), List.drop_eq_nil_of_le (by omega)]
   have : (fun c => f c || ofL [] c) = f := by funext c; simp [ofL]
   rw [this]
 | succ n ih =>
   intro i hi f F
   show set_Ofl3s (set_Ofl3 (F + n + 1)) _ _ _ _ _ _ _ _ _ = _
   unfold set_Ofl3s
   have hil : i < L.length := by omega
   have hget : L.getD i 0 = L[i] := at_i hil
   rw [b_lt (by omega), b_in (by omega) (by omega), tn, hget, with_val, ob_some]
   simp only
   rw [w_s (by omega) (by omega)]
   refine (ih (i + 1) (by omega) _ F).trans ?_
   have hd : L.drop i = L[i] :: L.drop (i + 1) := List.drop_eq_getElem_cons hil
   have : (fun c => (f c || only L[i] c) || ofL (L.drop (i + 1)) c) = fun c => f c || ofL (L.drop i) c := by
    funext c
    rw [hd]
    unfold ofL
    rw [List.any_cons, Bool.or_assoc]
   rw [this]
theorem of_set (L : List Int) (hl : L.length ≤ 1000) (N : Nat) : set_Of L.length N L = some (sLo (ofL L), sHi (ofL L)) := by
 obtain ⟨g, hg⟩ := many_eq L.length (by omega)
 have := of_goes L hl N 0 0 L.length 0 (by omega) (fun _ => false) g
 rw [← hg, sLo_false, sHi_false] at this
 unfold set_Of
 rw [show set_Ofl3 many L.length (Int.ofNat L.length) 0 N L 0 0 0 0 = _ from this, ob_some]
 simp only [Bool.false_or, List.drop_zero]
theorem sq_len (f : Nat → Bool) : (sq f).length ≤ 81 := by
 unfold sq; rw [List.length_map]; exact Nat.le_trans (List.length_filter_le _ _) (by simp)
end Go.Kk.Pl
namespace Go.Kk.Pl
theorem sq_mem {f : Nat → Bool} {q : Int} (h : q ∈ sq f) : 0 ≤ q ∧ q < 81 ∧ f q.toNat = true := by
 unfold sq at h
 obtain ⟨j, hj, rfl⟩ := List.mem_map.1 h
 obtain ⟨h1, h2⟩ := List.mem_filter.1 hj
 rw [List.mem_range] at h1
 refine ⟨by simp, by simp only [Int.ofNat_eq_natCast]; omega, by simpa using h2⟩
theorem mem_sq {f : Nat → Bool} {q : Nat} (hq : q < 81) (h : f q = true) : (q : Int) ∈ sq f := by
 unfold sq
 exact List.mem_map.2 ⟨q, List.mem_filter.2 ⟨by simpa using hq, h⟩, rfl⟩
end Go.Kk.Pl
namespace Go.Kk.Pl
theorem upto_pre (t : Nat → Bool) {c : Nat} (ht : t c = true) {i : Nat} : ∀ (P Q : List Nat), (∀ s ∈ P, t s = false) → upto t (P ++ c :: Q) i = (P.contains i || decide (i = c))
 | [], Q, _ => by
   show (decide (i = c) || (!t c && upto t Q i)) = _
   rw [ht]; simp
 | s :: P, Q, h => by
   show (decide (i = s) || (!t s && upto t (P ++ c :: Q) i)) = _
   rw [h s List.mem_cons_self, Bool.not_false, Bool.true_and, upto_pre t ht P Q (fun s hs => h s (List.mem_cons_of_mem _ hs)), List.contains_cons, Bool.or_assoc]
   congr 1
theorem onW_btw {dx dy : Int} {a c : Nat} (ha : a < 81) (hc : c < 81) (h : onW dx dy a c = true) (i : Nat) : (upto (only c) (wayL dx dy a) i && !only c i) = (btw a c).contains i := by
 obtain ⟨hl, rfl, rfl⟩ := of_decide_eq_true h
 have := chkA_all ⟨a, ha⟩ ⟨c, hc⟩
 simp only [chkA, Bool.or_eq_true, decide_eq_true_eq, Bool.and_eq_true, beq_iff_eq, Bool.not_eq_true'] at this
 obtain ⟨e1, e2, e3⟩ := this.resolve_left hl
 have hsp : wayL (sgn (df a c)) (sgn (dr a c)) a = btw a c ++ c :: (wayL (sgn (df a c)) (sgn (dr a c)) a).drop ((btw a c).length + 1) := by
  have := split_at e2
  rw [e1] at this
  exact this
 have hn : c ∉ btw a c := by simpa using e3
 rw [hsp, upto_pre (only c) (by unfold only; simp) _ _ (fun s hs => by
  unfold only
  rw [decide_eq_false_iff_not]
  intro e
  have : s = c := by omega
  exact hn (this ▸ hs))]
 unfold only
 by_cases hi : i = c
 ·subst hi
  rw [e3]; simp
 ·rw [decide_eq_false hi, decide_eq_false (p := (i : Int) = c) (by omega)]; simp
theorem onW_has {dx dy : Int} (h1 : -1 ≤ dx) (h2 : dx ≤ 1) (h3 : -1 ≤ dy) (h4 : dy ≤ 1) (hne : ¬ (dx = 0 ∧ dy = 0)) {a c : Nat} (ha : a < 81) (hc : c < 81) : upto (only c) (wayL dx dy a) c = onW dx dy a c := by
 rw [upto_val h1 h2 h3 h4 hne ha hc]
 cases h : onW dx dy a c with
 | false => rfl
 | true =>
   rw [Bool.true_and, free_iff]
   intro s hs
   unfold only
   rw [decide_eq_false_iff_not]
   intro e
   have hsc : s = c := by omega
   obtain ⟨hl, _, _⟩ := of_decide_eq_true h
   have := chkA_all ⟨a, ha⟩ ⟨c, hc⟩
   simp only [chkA, Bool.or_eq_true, decide_eq_true_eq, Bool.and_eq_true, beq_iff_eq, Bool.not_eq_true'] at this
   have := (this.resolve_left hl).2.2
   rw [← hsc] at this
   have h2 : (btw a s).contains s = true := List.contains_iff_mem.mpr (hsc ▸ hs)
   rw [this] at h2
   cases h2
def allW : List (List Int) := [[-1, -1], [1, -1], [-1, 1], [1, 1], [0, -1], [-1, 0], [1, 0], [0, 1]]
theorem allW_any {a c : Nat} : (allW.any fun r => onW (dx_ r) (dy_ r) a c) = decide (lineS a c ≠ 0) := by
 unfold allW onW dx_ dy_
 by_cases h : lineS a c = 0
 ·simp [h]
 ·have hl := (line_lie a c).mp h
  have hx : sgn (df a c) = -1 ∨ sgn (df a c) = 0 ∨ sgn (df a c) = 1 := by unfold sgn; split <;> (try split) <;> omega
  have hy : sgn (dr a c) = -1 ∨ sgn (dr a c) = 0 ∨ sgn (dr a c) = 1 := by unfold sgn; split <;> (try split) <;> omega
  have hn : ¬ (sgn (df a c) = 0 ∧ sgn (dr a c) = 0) := by
   unfold lieS at hl
   unfold sgn
   split <;> split <;> (try split) <;> (try split) <;> omega
  rcases hx with hx | hx | hx <;> rcases hy with hy | hy | hy <;> simp [hx, hy, h] at hn ⊢
theorem between_goes2 {a c : Nat} (ha : a < 81) (hc : c < 81) (N : Nat) : ∀ (n i : Nat), i + n = 8 → ∀ F,
  ray_Between_v2l2 (F + n + 1) a c 8 8 i 0 0 N allW = some (if (allW.drop i).any (fun r => onW (dx_ r) (dy_ r) a c) then .inl (sLo (fun i => (btw a c).contains i), sHi (fun i => (btw a c).contains i)) else .inr (0, 0)) := by
 intro n
 induction n with
 | zero =>
   intro i hi F
   show ray_Between_v2l2s (ray_Between_v2l2 (F + 0)) _ _ _ _ _ _ _ _ _ = _
   unfold ray_Between_v2l2s
   rw [b_nlt (by omega), List.drop_eq_nil_of_le (by show 8 ≤ i; omega)]
   rfl
 | succ n ih =>
   intro i hi F
   show ray_Between_v2l2s (ray_Between_v2l2 (F + n + 1)) _ _ _ _ _ _ _ _ _ = _
   unfold ray_Between_v2l2s
   obtain ⟨r, hget, hdr, e1, e2, g1, g2, g3, g4, g5⟩ : ∃ r, allW.getD i [] = r ∧ allW.drop i = r :: allW.drop (i + 1) ∧ List.headD (List.take 2 r) 0 = dx_ r ∧ List.headD (List.tail (List.take 2 r)) 0 = dy_ r ∧ -1 ≤ dx_ r ∧ dx_ r ≤ 1 ∧ -1 ≤ dy_ r ∧ dy_ r ≤ 1 ∧ ¬ (dx_ r = 0 ∧ dy_ r = 0) := by
    have : ∀ j : Fin 8, allW.drop j.val = allW.getD j.val [] :: allW.drop (j.val + 1) ∧ List.headD (List.take 2 (allW.getD j.val [])) 0 = dx_ (allW.getD j.val []) ∧ List.headD (List.tail (List.take 2 (allW.getD j.val []))) 0 = dy_ (allW.getD j.val []) ∧ -1 ≤ dx_ (allW.getD j.val []) ∧ dx_ (allW.getD j.val []) ≤ 1 ∧ -1 ≤ dy_ (allW.getD j.val []) ∧ dy_ (allW.getD j.val []) ≤ 1 ∧ ¬ (dx_ (allW.getD j.val []) = 0 ∧ dy_ (allW.getD j.val []) = 0) := by decide
    exact ⟨_, rfl, this ⟨i, by omega⟩⟩
   have ho : ofL [(c : Int)] = only c := by
    funext j; unfold ofL; simp
   have hof : set_Of 1 1 [(c : Int)] = some (sLo (only c), sHi (only c)) := by
    have := of_set [(c : Int)] (by simp) 1
    rw [ho] at this
    exact this
   have hh : ∀ g : Nat → Bool, has g (c : Int) = g c := by
    intro g; unfold has; rw [decide_eq_true (by omega), decide_eq_true (by omega), tn]; rfl
   rw [b_lt (by omega), b_in (by omega) (by omega), tn, hget, e1, e2, hof, ob_some]
   simp only
   rw [way_val g1 g2 g3 g4 g5 ha, ob_some]
   simp only
   rw [has_val, ob_some, hh, onW_has g1 g2 g3 g4 g5 ha hc, hdr, List.any_cons]
   cases hon : onW (dx_ r) (dy_ r) a c with
   | true =>
     rw [b_t, without_val, ob_some, Bool.true_or, if_pos rfl]
     have : (fun i => upto (only c) (wayL (dx_ r) (dy_ r) a) i && !only c i) = fun i => (btw a c).contains i := by
      funext j; exact onW_btw ha hc hon j
     rw [this]
   | false =>
     rw [b_f, Bool.false_or, w_s (n := (i : Int) + 1) (by omega) (by omega)]
     exact ih (i + 1) (by omega) F
theorem rayBetween_val {a c : Nat} (ha : a < 81) (hc : c < 81) : ray_Between_v2 a c = some (sLo (fun i => (btw a c).contains i), sHi (fun i => (btw a c).contains i)) := by
 unfold ray_Between_v2
 rw [rdirs_val, ob_some]
 simp only
 rw [rdirs_val, ob_some]
 simp only
 obtain ⟨g, hg⟩ := many_eq 8 (by omega)
 have := between_goes2 ha hc ((rdirL 6).length + (rdirL 7).length) 8 0 (by omega) g
 rw [← hg, List.drop_zero, allW_any] at this
 have e8 : (rdirL 6).length + (rdirL 7).length = 8 := by decide
 have eL : List.append (List.take (rdirL 6).length (rdirL 6)) (List.take (rdirL 7).length (rdirL 7)) = allW := by decide
 rw [eL, e8] at *
 rw [br_true (by decide), show ray_Between_v2l2 many a c 8 (Int.ofNat 8) 0 0 0 8 allW = _ from this, ob_some]
 by_cases h : lineS a c = 0
 ·rw [decide_eq_false (p := lineS a c ≠ 0) (by simpa using h), if_neg (by simp), sw_inr]
  have : btw a c = [] := by unfold btw; rw [if_pos h]
  rw [this]
  simp only [List.contains_nil]
  rw [sLo_false, sHi_false]
 ·rw [decide_eq_true (p := lineS a c ≠ 0) h, if_pos rfl, sw_inl]
end Go.Kk.Pl
namespace Go.Kk.Pl
theorem refUp_val (k : Int) : ref02_Up k = some (up_ k) := by
 unfold ref02_Up up_
 by_cases h1 : k ≥ 1
 ·rw [b_ge h1]
  by_cases h7 : k ≤ 7
  ·rw [b_le h7]
   by_cases h5 : k = 5
   ·rw [b_nne h5]; simp [h5]
   ·rw [b_ne h5, w_s (by omega) (by omega), if_pos (by omega)]
  ·rw [b_nle h7, if_neg (by omega)]
 ·rw [b_nge h1, if_neg (by omega)]
def farI (s q : Int) : Int := if 0 ≤ q ∧ q < 81 then farS s q.toNat else -1
theorem refFarI {s : Int} (hs : s = -1 ∨ s = 0 ∨ s = 1) (q : Int) : ref03_Far s q = some (farI s q) := by
 unfold farI
 by_cases h : 0 ≤ q ∧ q < 81
 ·rw [if_pos h]
  have := refFar_val hs (q := q.toNat) (by omega)
  rwa [show ((q.toNat : Nat) : Int) = q by omega] at this
 ·rw [if_neg h]
  unfold ref03_Far
  by_cases h0 : q < 0
  ·rw [b_lt h0]
  ·rw [b_nlt h0, b_gt (by omega)]
theorem stepFarI {s : Int} (hs : s = -1 ∨ s = 0 ∨ s = 1) (q : Int) : step_Far s q = some (farI s q) := by
 unfold farI
 by_cases h : 0 ≤ q ∧ q < 81
 ·rw [if_pos h]
  have := stepFar_val hs (q := q.toNat) (by omega)
  rwa [show ((q.toNat : Nat) : Int) = q by omega] at this
 ·rw [if_neg h]
  unfold step_Far
  by_cases h0 : q < 0
  ·rw [b_lt h0]
  ·rw [b_nlt h0, b_ge (by omega)]
def deadI (x q : Int) : Bool := decide (((kd x = 1 ∨ kd x = 2) ∧ farI (sd x) q = 0) ∨ (kd x = 3 ∧ (farI (sd x) q = 0 ∨ farI (sd x) q = 1)))
theorem deadI_nat (x : Int) {q : Nat} (hq : q < 81) : deadI x q = deadS x q := by
 unfold deadI deadS farI
 rw [if_pos (by omega), tn]
theorem stepDeadI (x q : Int) : step_Dead x q = some (deadI x q) := by
 unfold step_Dead
 rw [side_val, ob_some, stepFarI (sd_cases x), ob_some, kind_val, ob_some]
 unfold deadI
 generalize kd x = k
 generalize farI (sd x) q = n
 simp only [br_if, beq_iff_eq]
 repeat' split
 all_goals first
  | (rw [Option.some.injEq, Bool.eq_iff_iff]; simp; omega)
  | (simp; omega)
theorem refDeadI (x q : Int) : ref03_Dead x q = some (deadI x q) := by
 unfold ref03_Dead
 rw [refSide_val, ob_some, refFarI (sd_cases x), ob_some, refKind_val, ob_some]
 unfold deadI
 generalize kd x = k
 generalize farI (sd x) q = n
 simp only [br_if, beq_iff_eq]
 repeat' split
 all_goals first
  | (rw [Option.some.injEq, Bool.eq_iff_iff]; simp; omega)
  | (simp; omega)
def zoneS (s : Int) (i : Nat) : Bool := decide (0 ≤ farS s i ∧ farS s i ≤ 2)
theorem zone_all : ∀ s : Fin 3, step_Zone ((s.val : Int) - 1) = some (sLo (zoneS ((s.val : Int) - 1)), sHi (zoneS ((s.val : Int) - 1))) := by decide +kernel
theorem zone_val (x : Int) : step_Zone (sd x) = some (sLo (zoneS (sd x)), sHi (zoneS (sd x))) := by
 rcases sd_cases x with h | h | h <;> rw [h]
 ·exact zone_all 0
 ·exact zone_all 1
 ·exact zone_all 2
def inZ (s q : Int) : Bool := decide (0 ≤ farI s q ∧ farI s q ≤ 2)
theorem has_zone (s q : Int) : has (zoneS s) q = inZ s q := by
 unfold has inZ farI zoneS
 by_cases h : 0 ≤ q ∧ q < 81
 ·rw [if_pos h, decide_eq_true h.1, decide_eq_true h.2, Bool.true_and, Bool.true_and]
 ·rw [if_neg h]
  by_cases h0 : 0 ≤ q
  ·rw [decide_eq_false (p := q < 81) (by omega)]; simp
  ·rw [decide_eq_false h0]; simp
def mayS (x f t : Int) : Bool := decide (up_ (kd x) ≠ 0) && (inZ (sd x) f || inZ (sd x) t)
def mustS (x t : Int) : Bool := decide (up_ (kd x) ≠ 0) && deadI x t
theorem promotes_val (x f t : Int) : gen_Promotes x f t = some (mayS x f t, mustS x t) := by
 unfold gen_Promotes mayS mustS
 rw [kind_val, ob_some, up_val, ob_some]
 by_cases hu : up_ (kd x) = 0
 ·rw [b_eq hu, decide_eq_false (by simpa using hu)]; rfl
 ·rw [b_neq hu, side_val, ob_some, zone_val, ob_some]
  simp only
  rw [has_val, ob_some, has_zone, decide_eq_true hu]
  cases inZ (sd x) f with
  | true => rw [b_t, stepDeadI, ob_some]; rfl
  | false => rw [b_f, has_val, ob_some, has_zone, stepDeadI, ob_some]; rfl
theorem refMay_val (x f t : Int) : ref10_May x f t = some (mayS x f t) := by
 unfold ref10_May mayS
 rw [refKind_val, ob_some, refUp_val, ob_some]
 by_cases hu : up_ (kd x) = 0
 ·rw [b_eq hu, decide_eq_false (by simpa using hu)]; rfl
 ·rw [b_neq hu, refSide_val, ob_some, refFarI (sd_cases x), ob_some, ob_some, refFarI (sd_cases x), ob_some, decide_eq_true hu, Bool.true_and]
  unfold inZ
  by_cases h1 : farI (sd x) f ≥ 0
  ·rw [b_ge h1]
   by_cases h2 : farI (sd x) f ≤ 2
   ·rw [b_le h2, decide_eq_true (p := 0 ≤ farI (sd x) f ∧ farI (sd x) f ≤ 2) (by omega)]; rfl
   ·rw [b_nle h2, decide_eq_false (p := 0 ≤ farI (sd x) f ∧ farI (sd x) f ≤ 2) (by omega), Bool.false_or]
    by_cases h3 : farI (sd x) t ≥ 0
    ·rw [b_ge h3]; congr 1; rw [decide_eq_decide]; omega
    ·rw [b_nge h3, decide_eq_false (by omega)]
  ·rw [b_nge h1, decide_eq_false (p := 0 ≤ farI (sd x) f ∧ farI (sd x) f ≤ 2) (by omega), Bool.false_or]
   by_cases h3 : farI (sd x) t ≥ 0
   ·rw [b_ge h3]; congr 1; rw [decide_eq_decide]; omega
   ·rw [b_nge h3, decide_eq_false (by omega)]
theorem refMust_val (x t : Int) : ref10_Must x t = some (mustS x t) := by
 unfold ref10_Must mustS
 rw [refKind_val, ob_some, refUp_val, ob_some]
 by_cases hu : up_ (kd x) = 0
 ·rw [b_nne hu, decide_eq_false (by simpa using hu)]; rfl
 ·rw [b_ne hu, refDeadI, ob_some, decide_eq_true hu]; rfl
def chkM (f t d : Int) (p : Bool) : Int := if ¬ (0 ≤ t ∧ t < 81) then 1 else if d ≠ 0 then (if 1 ≤ d ∧ d ≤ 7 ∧ f = 0 ∧ p = false then 0 else 70) else if ¬ (0 ≤ f ∧ f < 81) then 1 else if f = t then 70 else 0
theorem refMCheck_val (f t d : Int) (p : Bool) : ref07_Check f t d p = some (chkM f t d p) := by
 unfold ref07_Check chkM
 by_cases h1 : t < 0
 ·rw [b_lt h1, if_pos (by omega)]
 rw [b_nlt h1]
 by_cases h2 : t > 80
 ·rw [b_gt h2, if_pos (by omega)]
 rw [b_ngt h2, if_neg (by omega)]
 by_cases hd : d = 0
 ·rw [b_nne hd, if_neg (by simpa using hd)]
  by_cases h3 : f < 0
  ·rw [b_lt h3, if_pos (by omega)]
  rw [b_nlt h3]
  by_cases h4 : f > 80
  ·rw [b_gt h4, if_pos (by omega)]
  rw [b_ngt h4, if_neg (by omega)]
  by_cases h5 : f = t
  ·rw [b_eq h5, if_pos h5]
  ·rw [b_neq h5, if_neg h5]
 ·rw [b_ne hd, if_pos hd]
  by_cases h3 : d < 1
  ·rw [b_lt h3, if_neg (by omega)]
  rw [b_nlt h3]
  by_cases h4 : d > 7
  ·rw [b_gt h4, if_neg (by omega)]
  rw [b_ngt h4]
  by_cases h5 : f = 0
  ·rw [b_nne h5]
   cases p with
   | true => rw [b_t, if_neg (by simp)]
   | false => rw [b_f, if_pos ⟨by omega, by omega, h5, rfl⟩]
  ·rw [b_ne h5, if_neg (by omega)]
def canS (b h : List Int) (s f t d : Int) (p : Bool) : Bool := decide (chkM f t d p = 0) && (decide (s = 0 ∨ s = 1) &&
 if d ≠ 0 then decide (0 < hd_ h s d) && decide (at_ b t = 0)
 else decide (sd (at_ b f) = s ∧ sd (at_ b t) ≠ s ∧ kd (at_ b t) ≠ 8) && (!p || decide (up_ (kd (at_ b f)) ≠ 0)))
theorem chkM_zero {f t d : Int} {p : Bool} (h : chkM f t d p = 0) : (0 ≤ t ∧ t < 81) ∧ (d ≠ 0 → 1 ≤ d ∧ d ≤ 7 ∧ f = 0 ∧ p = false) ∧ (d = 0 → (0 ≤ f ∧ f < 81) ∧ f ≠ t) := by
 unfold chkM at h
 split at h
 ·omega
 ·rename_i ht
  split at h
  ·rename_i hd
   split at h
   ·rename_i h2; exact ⟨by omega, fun _ => h2, fun h3 => absurd h3 hd⟩
   ·omega
  ·rename_i hd
   split at h
   ·omega
   ·split at h
    ·omega
    ·exact ⟨by omega, fun h3 => absurd h3 hd, fun _ => ⟨by omega, by omega⟩⟩
theorem at_in {b : List Int} {q : Int} (h : 0 ≤ q ∧ q < 81) : at_ b q = b.getD q.toNat 0 := by unfold at_; rw [if_pos h]
theorem refCan_val (b h : List Int) (s f t d : Int) (p : Bool) : ref09_Can b h s f t d p = some (canS b h s f t d p) := by
 unfold ref09_Can canS
 rw [refMCheck_val, ob_some]
 by_cases hm : chkM f t d p = 0
 ·obtain ⟨ht, hdr, hmv⟩ := chkM_zero hm
  rw [b_nne hm, decide_eq_true hm, Bool.true_and]
  have main : (s = 0 ∨ s = 1) → (br (inB t 81)
   (br (d != 0)
    (br (inB s 2)
     (br (inB d 8)
      (br (decide (List.getD h (Int.toNat s * 8 + Int.toNat d) 0 > 0))
       (some (conv IntKind.i8 IntKind.i64 (List.getD b (Int.toNat t) 0) == 0))
       (some (false)))
      (none))
     (none))
    (br (inB f 81)
     (ob (ref02_Side (conv IntKind.i8 IntKind.i64 (List.getD b (Int.toNat f) 0))) fun a8 =>
     br (a8 != s)
      (some (false))
      (ob (ref02_Side (conv IntKind.i8 IntKind.i64 (List.getD b (Int.toNat t) 0))) fun a9 =>
      br (a9 == s)
       (some (false))
       (ob (ref02_Kind (conv IntKind.i8 IntKind.i64 (List.getD b (Int.toNat t) 0))) fun a10 =>
       br (a10 == 8)
        (some (false))
        (br (!p)
         (some (true))
         (ob (ref02_Kind (conv IntKind.i8 IntKind.i64 (List.getD b (Int.toNat f) 0))) fun a11 =>
         ob (ref02_Up a11) fun a12 =>
         some (a12 != 0))))))
     (none)))
   (none) : Option Bool) = some (if d ≠ 0 then decide (0 < hd_ h s d) && decide (at_ b t = 0)
    else decide (sd (at_ b f) = s ∧ sd (at_ b t) ≠ s ∧ kd (at_ b t) ≠ 8) && (!p || decide (up_ (kd (at_ b f)) ≠ 0))) := by
   intro hs
   rw [b_in ht.1 (by omega)]
   by_cases hd : d = 0
   ·obtain ⟨hf, _⟩ := hmv hd
    rw [b_nne hd, if_neg (by simpa using hd), b_in hf.1 (by omega), c_8, c_8, refSide_val, ob_some, ← at_in hf, ← at_in ht]
    by_cases h1 : sd (at_ b f) = s
    ·rw [b_nne h1, refSide_val, ob_some]
     by_cases h2 : sd (at_ b t) = s
     ·rw [b_eq h2, decide_eq_false (by omega)]; rfl
     ·rw [b_neq h2, refKind_val, ob_some]
      by_cases h3 : kd (at_ b t) = 8
      ·rw [b_eq h3, decide_eq_false (by omega)]; rfl
      ·rw [b_neq h3, decide_eq_true (by omega), Bool.true_and]
       cases p with
       | false => rfl
       | true =>
         rw [Bool.not_true, b_f, refKind_val, ob_some, refUp_val, ob_some, Bool.false_or]
         congr 1
         rw [Bool.eq_iff_iff]; simp
    ·rw [b_ne h1, decide_eq_false (by omega)]; rfl
   ·obtain ⟨d1, d7, _, _⟩ := hdr hd
    rw [b_ne hd, if_pos hd, b_in (by omega) (by omega), b_in (by omega) (by omega), c_8, ← at_in ht]
    show br (decide (hd_ h s d > 0)) _ _ = _
    by_cases h1 : hd_ h s d > 0
    ·rw [b_gt h1, decide_eq_true (p := 0 < hd_ h s d) h1, Bool.true_and]
     congr 1
    ·rw [b_ngt h1, decide_eq_false (p := 0 < hd_ h s d) h1, Bool.false_and]
  by_cases h0 : s = 0
  ·rw [b_nne h0, decide_eq_true (p := s = 0 ∨ s = 1) (.inl h0), Bool.true_and]; exact main (.inl h0)
  ·rw [b_ne h0]
   by_cases h1 : s = 1
   ·rw [b_nne h1, decide_eq_true (p := s = 0 ∨ s = 1) (.inr h1), Bool.true_and]; exact main (.inr h1)
   ·rw [b_ne h1, decide_eq_false (p := s = 0 ∨ s = 1) (by omega), Bool.false_and]
 ·rw [b_ne hm, decide_eq_false hm, Bool.false_and]
def movS (b h : List Int) (s f t d : Int) (p : Bool) : Bool := canS b h s f t d p &&
 if d ≠ 0 then !deadI (16 * s + d) t && (decide (d ≠ 1) || decide (nF b (16 * s + d) (t.toNat / 9) = 0))
 else rch (at_ b f) f.toNat t.toNat (tk b) && if p = true then mayS (at_ b f) f t else !mustS (at_ b f) t
theorem refMoves_val (b h : List Int) (s f t d : Int) (p : Bool) : ref10_Moves b h s f t d p = some (movS b h s f t d p) := by
 unfold ref10_Moves movS
 rw [refCan_val, ob_some]
 cases hcan : canS b h s f t d p with
 | false => rfl
 | true =>
   rw [Bool.not_true, b_f, Bool.true_and]
   unfold canS at hcan
   simp only [Bool.and_eq_true, decide_eq_true_eq] at hcan
   obtain ⟨hm, hs, _⟩ := hcan
   obtain ⟨ht, hdr, hmv⟩ := chkM_zero hm
   by_cases hd : d = 0
   ·obtain ⟨hf, _⟩ := hmv hd
    rw [b_nne hd, if_neg (by simpa using hd), b_in hf.1 (by omega), c_8, taken_val, ob_some, ← at_in hf]
    have := reachT_val b (at_ b f) (a := f.toNat) (c := t.toNat) (by omega) (by omega)
    rw [show ((f.toNat : Nat) : Int) = f by omega, show ((t.toNat : Nat) : Int) = t by omega] at this
    rw [this, ob_some]
    cases rch (at_ b f) f.toNat t.toNat (tk b) with
    | false => rfl
    | true =>
      rw [Bool.not_true, b_f, Bool.true_and]
      cases p with
      | true => rw [b_t, refMay_val, ob_some, if_pos rfl]
      | false => rw [b_f, refMust_val, ob_some, if_neg (by simp)]
   ·obtain ⟨d1, d7, _, _⟩ := hdr hd
    rw [b_ne hd, if_pos hd, w_s (n := 16 * s) (by omega) (by omega), w_s (n := 16 * s + d) (by omega) (by omega), refDeadI, ob_some]
    cases deadI (16 * s + d) t with
    | true => rfl
    | false =>
      rw [Bool.not_false, b_t, Bool.true_and]
      by_cases h1 : d = 1
      ·have htd : Int.tdiv t 9 = ((t.toNat / 9 : Nat) : Int) := by rw [Int.tdiv_eq_ediv_of_nonneg ht.1]; omega
       rw [b_nne h1, htd, w_s (n := ((t.toNat / 9 : Nat) : Int)) (by omega) (by omega), on_val b h s (16 * s + d) (t.toNat / 9) (by omega), ob_some, decide_eq_false (p := d ≠ 1) (by simpa using h1), Bool.false_or]
       congr 1
       rw [Bool.eq_iff_iff]; simp
      ·rw [b_ne h1, decide_eq_true (p := d ≠ 1) h1, Bool.true_or]
theorem all_set : set_All = some (sLo fun _ => true, sHi fun _ => true) := by decide +kernel
theorem not_val (f : Nat → Bool) : set_Not (sLo f) (sHi f) = some (sLo fun i => !f i, sHi fun i => !f i) := by
 unfold set_Not
 rw [all_set, ob_some]
 simp only
 rw [minus_val, ob_some]
 simp only [Bool.true_and]
def fre1 (b : List Int) (s k : Int) (i : Nat) : Bool := !deadS (pc s k) i && (decide (k ≠ 1) || decide (nF b (pc s 1) (i / 9) = 0))
theorem cnt_isE (f : Nat → Bool) : isE f = decide (cntS f = 0) := by
 unfold isE cntS
 rw [Bool.eq_iff_iff, decide_eq_true_eq, List.countP_eq_zero, List.all_eq_true]
 simp
theorem free_goes2 {b : List Int} (h : List Int) (S : Int) (sd' : List (List Int)) {s k : Int} (hs : s = 0 ∨ s = 1) (L : List Int) (hL : ∀ q ∈ L, 0 ≤ q ∧ q < 81) (hl : L.length ≤ 1000) (N : Nat) (u v : Int) : ∀ (n i : Nat), i + n = L.length → ∀ (f : Nat → Bool) (F : Nat),
  gen_Freel6 (F + n + 1) s k (pc s k) L.length L.length i b h S (byOf b) sd' u v (sLo f) (sHi f) N L = some (b, h, S, byOf b, sd', u, v, sLo fun c => f c || ((L.drop i).any fun q => decide ((c : Int) = q) && fre1 b s k c), sHi fun c => f c || ((L.drop i).any fun q => decide ((c : Int) = q) && fre1 b s k c)) := by
 intro n
 induction n with
 | zero =>
   intro i hi f F
   show gen_Freel6s (gen_Freel6 (F + 0)) _ _ _ _ _ _ _ _ _ _ _ _ _ _ _ _ _ = _
   unfold gen_Freel6s
   rw [b_nlt (by omega), List.drop_eq_nil_of_le (by omega)]
   simp
 | succ n ih =>
   intro i hi f F
   show gen_Freel6s (gen_Freel6 (F + n + 1)) _ _ _ _ _ _ _ _ _ _ _ _ _ _ _ _ _ = _
   unfold gen_Freel6s
   have hil : i < L.length := by omega
   obtain ⟨q0, q1⟩ := hL L[i] (List.getElem_mem hil)
   have hget : L.getD i 0 = L[i] := at_i hil
   obtain ⟨q, hq⟩ : ∃ q : Nat, L[i] = q := ⟨L[i].toNat, by omega⟩
   have hd : L.drop i = L[i] :: L.drop (i + 1) := List.drop_eq_getElem_cons hil
   rw [b_lt (by omega), b_in (by omega) (by omega), tn, hget, hq, stepDead_val _ (by omega), ob_some, w_s (n := (i : Int) + 1) (by omega) (by omega)]
   have skip : fre1 b s k q = false → gen_Freel6 (F + n + 1) s k (pc s k) L.length L.length ((i : Int) + 1) b h S (byOf b) sd' u v (sLo f) (sHi f) N L =
     some (b, h, S, byOf b, sd', u, v, sLo fun c => f c || ((L.drop i).any fun q => decide ((c : Int) = q) && fre1 b s k c), sHi fun c => f c || ((L.drop i).any fun q => decide ((c : Int) = q) && fre1 b s k c)) := by
    intro hf
    refine (ih (i + 1) (by omega) f F).trans ?_
    have : (fun c => f c || ((L.drop (i + 1)).any fun q => decide ((c : Int) = q) && fre1 b s k c)) = fun c => f c || ((L.drop i).any fun q => decide ((c : Int) = q) && fre1 b s k c) := by
     funext c
     rw [hd, List.any_cons, hq]
     by_cases hcq : (c : Int) = q
     ·have : c = q := by omega
      subst this
      rw [hf]; simp
     ·rw [decide_eq_false hcq]; simp
    rw [this]
   have take : fre1 b s k q = true → (ob (set_With (sLo f) (sHi f) q) fun z => gen_Freel6 (F + n + 1) s k (pc s k) L.length L.length ((i : Int) + 1) b h S (byOf b) sd' u v z.1 z.2 N L) =
     some (b, h, S, byOf b, sd', u, v, sLo fun c => f c || ((L.drop i).any fun q => decide ((c : Int) = q) && fre1 b s k c), sHi fun c => f c || ((L.drop i).any fun q => decide ((c : Int) = q) && fre1 b s k c)) := by
    intro hf
    rw [with_val, ob_some]
    simp only
    refine (ih (i + 1) (by omega) _ F).trans ?_
    have : (fun c => (f c || only q c) || ((L.drop (i + 1)).any fun q => decide ((c : Int) = q) && fre1 b s k c)) = fun c => f c || ((L.drop i).any fun q => decide ((c : Int) = q) && fre1 b s k c) := by
     funext c
     rw [hd, List.any_cons, hq, Bool.or_assoc]
     congr 2
     unfold only
     by_cases hcq : (c : Int) = q
     ·have : c = q := by omega
      subst this
      rw [hf]; simp
     ·rw [decide_eq_false hcq]; simp
    rw [this]
   cases hdead : deadS (pc s k) q with
   | true => rw [b_t]; exact skip (by unfold fre1; rw [hdead]; rfl)
   | false =>
     rw [b_f]
     by_cases hk : k = 1
     ·rw [b_eq hk, ofB_val, ob_some]
      simp only
      unfold set_File
      rw [tdiv9, w_s (by unfold fl; omega) (by unfold fl; omega), ob_some, show fl q = ((q / 9 : Nat) : Int) from rfl, inFile_val (by omega), ob_some]
      simp only
      rw [and_val, ob_some]
      simp only
      rw [empty_val, ob_some, cnt_isE, cnt_file b (by rw [pc_ok hs (by omega) (by omega) (by omega)]; omega) (by omega)]
      by_cases hn : nF b (pc s 1) (q / 9) = 0
      ·rw [decide_eq_true hn, Bool.not_true, b_f]
       exact take (by unfold fre1; rw [hdead, decide_eq_true hn]; simp)
      ·rw [decide_eq_false hn, Bool.not_false, b_t]
       exact skip (by unfold fre1; rw [hdead, decide_eq_false hn, decide_eq_false (p := k ≠ 1) (by simpa using hk)]; rfl)
     ·rw [b_neq hk]
      exact take (by unfold fre1; rw [hdead, decide_eq_true (p := k ≠ 1) hk]; rfl)
def freS (b : List Int) (s k : Int) (i : Nat) : Bool := decide ((s = 0 ∨ s = 1) ∧ 1 ≤ k ∧ k ≤ 7) && (!tk b i && fre1 b s k i)
theorem freeB_val {b : List Int} (hc : Clean b) (h : List Int) (S s k : Int) : gen_Free s k b h S (byOf b) (sidesOf b) = some (sLo (freS b s k), sHi (freS b s k)) := by
 have none : ¬ ((s = 0 ∨ s = 1) ∧ 1 ≤ k ∧ k ≤ 7) → freS b s k = fun _ => false := by
  intro hn; funext c; unfold freS; rw [decide_eq_false hn, Bool.false_and]
 unfold gen_Free
 rw [of_gen, ob_some]
 by_cases hz : pc s k = 0
 ·have : ¬ ((s = 0 ∨ s = 1) ∧ 1 ≤ k ∧ k ≤ 7) := by
   rintro ⟨hs, h1, h7⟩
   rw [pc_ok hs h1 (by omega) (by omega)] at hz
   omega
  rw [b_eq hz, none this, sLo_false, sHi_false]
 ·rw [b_neq hz]
  have hv : (s = 0 ∨ s = 1) ∧ 1 ≤ k ∧ k ≤ 15 ∧ k ≠ 13 := by
   unfold pc at hz
   split at hz
   ·rename_i h; exact h
   ·exact absurd rfl hz
  by_cases h8 : k ≥ 8
  ·rw [b_ge h8, none (by omega), sLo_false, sHi_false]
  ·rw [b_nge h8, takenB_val hc, ob_some]
   simp only
   rw [not_val, ob_some]
   simp only
   rw [squares_val, ob_some]
   simp only
   have hlen := sq_len fun i => !tk b i
   obtain ⟨g, hg⟩ := many_eq (sq fun i => !tk b i).length (by omega)
   have := free_goes2 (b := b) h S (sidesOf b) (k := k) hv.1 (sq fun i => !tk b i) (fun q hq => ⟨(sq_mem hq).1, (sq_mem hq).2.1⟩) (by omega) (sq fun i => !tk b i).length 0 0 (sq fun i => !tk b i).length 0 (by omega) (fun _ => false) g
   rw [← hg, sLo_false, sHi_false] at this
   rw [show gen_Freel6 many s k (pc s k) (sq fun i => !tk b i).length (Int.ofNat (sq fun i => !tk b i).length) 0 b h S (byOf b) (sidesOf b) 0 0 0 0 (sq fun i => !tk b i).length (sq fun i => !tk b i) = _ from this, ob_some]
   simp only [Bool.false_or, List.drop_zero]
   obtain ⟨e1, e2⟩ := set_congr (f := fun c => (sq fun i => !tk b i).any fun q => decide ((c : Int) = q) && fre1 b s k c) (g := freS b s k) fun c hcc => by
    unfold freS
    rw [decide_eq_true (p := (s = 0 ∨ s = 1) ∧ 1 ≤ k ∧ k ≤ 7) ⟨hv.1, hv.2.1, by omega⟩, Bool.true_and, Bool.eq_iff_iff, List.any_eq_true, Bool.and_eq_true]
    constructor
    ·rintro ⟨q, hq, hh⟩
     rw [Bool.and_eq_true, decide_eq_true_eq] at hh
     have := (sq_mem hq).2.2
     rw [← hh.1, tn] at this
     exact ⟨this, hh.2⟩
    ·rintro ⟨h1, h2⟩
     exact ⟨c, mem_sq hcc h1, by rw [h2]; simp⟩
   rw [e1, e2]
end Go.Kk.Pl
namespace Go.Kk.Pl
end Go.Kk.Pl
namespace Go.Kk.Pl
theorem b_leN {α : Type} {x y : α} {a b : Nat} (h : a ≤ b) : br (decide (a ≤ b)) x y = x := br_true (by simpa using h)
theorem tkA {α : Type} {n : Nat} {L : List α} (h : n = L.length) (M : List α) : List.append (List.take n L) M = L ++ M := by
 subst h; rw [List.take_length]; rfl
theorem tkA2 {α : Type} {n : Nat} {L : List α} {m : α} (h : n = L.length) (M : List α) : List.append (List.take (n + 1) (L ++ [m])) M = L ++ m :: M := by
 rw [tkA (by simp [h])]; simp
def one2 (x f t : Int) : List (List Int) := (if mustS x t then [] else [[f, t, 0, 0]]) ++ (if mayS x f t then [[f, t, 0, 1]] else [])
theorem one2_len (x f t : Int) : (one2 x f t).length ≤ 2 := by
 unfold one2; split <;> split <;> simp
theorem flatLen {α β : Type} (g : α → List β) (k : Nat) (L : List α) (h : ∀ a ∈ L, (g a).length ≤ k) : (L.flatMap g).length ≤ k * L.length := by
 induction L with
 | nil => simp
 | cons a L ih =>
   rw [List.flatMap_cons, List.length_append, List.length_cons, Nat.mul_succ]
   have := h a (by simp)
   have := ih fun x hx => h x (by simp [hx])
   omega
theorem toBoard_goes (x f : Int) (T : List Int) (S : Int) (N1 : Nat) (a5 a6 : Int) (b h : List Int) (S' : Int) (by' sd' : List (List Int)) (u v k1 k2 : Int) (N2 : Nat) (L2 : List Int) (N3 : Nat) (hT : T.length ≤ 1000) : ∀ (n i : Nat), i + n = T.length → ∀ (L : List (List Int)) (x0 x17 : Nat), x0 = L.length → x17 = L.length → L.length ≤ 1000000 - 2 * n → ∀ F,
  gen_Boardl9 (F + n + 1) x0 S f x N1 a5 a6 T.length T.length i b h S' by' sd' u v x17 L k1 k2 N2 L2 N3 T =
   some ((L ++ (T.drop i).flatMap (one2 x f)).length, S, N1, a5, a6, b, h, S', by', sd', u, v, (L ++ (T.drop i).flatMap (one2 x f)).length, L ++ (T.drop i).flatMap (one2 x f), k1, k2, N2, L2) := by
 intro n
 induction n with
 | zero =>
   intro i hi L x0 x17 h0 h17 hb F
   show gen_Boardl9s (gen_Boardl9 (F + 0)) _ _ _ _ _ _ _ _ _ _ _ _ _ _ _ _ _ _ _ _ _ _ _ _ _ = _
   unfold gen_Boardl9s
   rw [b_nlt (by omega), List.drop_eq_nil_of_le (by omega)]
   simp only [List.flatMap_nil, List.append_nil, h0, h17]
 | succ n ih =>
   intro i hi L x0 x17 h0 h17 hb F
   show gen_Boardl9s (gen_Boardl9 (F + n + 1)) _ _ _ _ _ _ _ _ _ _ _ _ _ _ _ _ _ _ _ _ _ _ _ _ _ = _
   unfold gen_Boardl9s
   have hil : i < T.length := by omega
   have hget : T.getD i 0 = T[i] := at_i hil
   have hd : T.drop i = T[i] :: T.drop (i + 1) := List.drop_eq_getElem_cons hil
   rw [b_lt (by omega), b_in (by omega) (by omega), tn, hget, promotes_val, ob_some]
   simp only
   rw [w_s (by omega) (by omega), hd, List.flatMap_cons, ← List.append_assoc]
   rw [tkA h0, tkA h0, tkA2 h0]
   have hi1 : i + 1 + n = T.length := by omega
   have ih' := ih (i + 1) hi1
   cases hm : mustS x T[i] with
   | false =>
     rw [Bool.not_false, b_t, b_leN (by omega)]
     cases hy : mayS x f T[i] with
     | true =>
       rw [b_t, b_leN (by omega)]
       have := ih' (L ++ one2 x f T[i]) (x0 + 1 + 1) (x0 + 1 + 1) (by simp [one2, hm, hy, h0]) (by simp [one2, hm, hy, h0]) (by simp [one2, hm, hy]; omega) F
       rw [← this]
       simp [one2, hm, hy]
     | false =>
       rw [b_f]
       have := ih' (L ++ one2 x f T[i]) (x0 + 1) (x0 + 1) (by simp [one2, hm, hy, h0]) (by simp [one2, hm, hy, h0]) (by simp [one2, hm, hy]; omega) F
       rw [← this]
       simp [one2, hm, hy]
   | true =>
     rw [Bool.not_true, b_f]
     cases hy : mayS x f T[i] with
     | true =>
       rw [b_t, b_leN (by omega)]
       have := ih' (L ++ one2 x f T[i]) (x0 + 1) (x0 + 1) (by simp [one2, hm, hy, h0]) (by simp [one2, hm, hy, h0]) (by simp [one2, hm, hy]; omega) F
       rw [← this]
       simp [one2, hm, hy]
     | false =>
       rw [b_f]
       have := ih' (L ++ one2 x f T[i]) x0 x17 (by simp [one2, hm, hy, h0]) (by simp [one2, hm, hy, h17]) (by simp [one2, hm, hy]; omega) F
       rw [← this]
       simp [one2, hm, hy]
def kgs (b : List Int) (c : Nat) : Bool := pcs b (pc 0 8) c || pcs b (pc 1 8) c
def goesS (b : List Int) (S : Int) (G : Nat → Bool) (f : Nat) (c : Nat) : Bool := ((rch (b.getD f 0) f c (tk b) && !sdP b S c) && !kgs b c) && G c
def mvsF (b : List Int) (S : Int) (G : Nat → Bool) (f : Int) : List (List Int) := (sq (goesS b S G f.toNat)).flatMap (one2 (b.getD f.toNat 0) f)
def mvsB (b : List Int) (S : Int) (G : Nat → Bool) : List (List Int) := (sq (sdP b S)).flatMap (mvsF b S G)
theorem mvsF_len (b : List Int) (S : Int) (G : Nat → Bool) (f : Int) : (mvsF b S G f).length ≤ 162 := by
 unfold mvsF
 have := flatLen (one2 (b.getD f.toNat 0) f) 2 (sq (goesS b S G f.toNat)) fun a _ => one2_len _ _ _
 have := sq_len (goesS b S G f.toNat)
 omega
theorem board_goes {b : List Int} (hc : Clean b) (h : List Int) (S : Int) (G : Nat → Bool) (T : List Int) (hT : T.length ≤ 1000) (hTr : ∀ q ∈ T, 0 ≤ q ∧ q < 81) (N : Nat) : ∀ (n i : Nat), i + n = T.length → ∀ (L : List (List Int)) (x0 x17 : Nat), x0 = L.length → x17 = L.length → L.length ≤ 900000 - 200 * n → ∀ F,
  gen_Boardl5 (F + n + 1) x0 S T.length T.length i b h S (byOf b) (sidesOf b) (sLo G) (sHi G) x17 L (sLo (kgs b)) (sHi (kgs b)) N T =
   some ((L ++ (T.drop i).flatMap (mvsF b S G)).length, b, h, S, byOf b, sidesOf b, (L ++ (T.drop i).flatMap (mvsF b S G)).length, L ++ (T.drop i).flatMap (mvsF b S G)) := by
 intro n
 induction n with
 | zero =>
   intro i hi L x0 x17 h0 h17 hb F
   show gen_Boardl5s (gen_Boardl5 (F + 0)) _ _ _ _ _ _ _ _ _ _ _ _ _ _ _ _ _ _ = _
   unfold gen_Boardl5s
   rw [b_nlt (by omega), List.drop_eq_nil_of_le (by omega)]
   simp only [List.flatMap_nil, List.append_nil, h0, h17]
 | succ n ih =>
   intro i hi L x0 x17 h0 h17 hb F
   show gen_Boardl5s (gen_Boardl5 (F + n + 1)) _ _ _ _ _ _ _ _ _ _ _ _ _ _ _ _ _ _ = _
   unfold gen_Boardl5s
   have hil : i < T.length := by omega
   have hget : T.getD i 0 = T[i] := at_i hil
   have hd : T.drop i = T[i] :: T.drop (i + 1) := List.drop_eq_getElem_cons hil
   obtain ⟨q0, q1⟩ := hTr T[i] (List.getElem_mem hil)
   obtain ⟨q, hq⟩ : ∃ q : Nat, T[i] = q := ⟨T[i].toNat, by omega⟩
   have hat : at_ b T[i] = b.getD q 0 := by rw [at_in ⟨q0, q1⟩, hq, tn]
   rw [b_lt (by omega), b_in (by omega) (by omega), tn, hget, at_val, ob_some, takenB_val hc, ob_some]
   simp only
   rw [hat, hq, rayOf_val _ (by omega), ob_some]
   simp only
   rw [piecesB_val, ob_some]
   simp only
   rw [minus_val, ob_some]
   simp only
   rw [minus_val, ob_some]
   simp only
   rw [and_val, ob_some]
   simp only
   rw [squares_val, ob_some]
   simp only
   rw [show (fun i => ((rch (b.getD q 0) q i (tk b) && !sdP b S i) && !kgs b i) && G i) = goesS b S G q from rfl]
   have hlen := sq_len (goesS b S G q)
   obtain ⟨g, hg⟩ := many_eq (sq (goesS b S G q)).length (by omega)
   have := toBoard_goes (b.getD q 0) q (sq (goesS b S G q)) S T.length T.length i b h S (byOf b) (sidesOf b) (sLo G) (sHi G) (sLo (kgs b)) (sHi (kgs b)) N T (sq (goesS b S G q)).length (by omega) (sq (goesS b S G q)).length 0 (by omega) L x0 x17 h0 h17 (by omega) g
   rw [← hg] at this
   rw [show gen_Boardl9 many x0 S q (b.getD q 0) T.length T.length i (sq (goesS b S G q)).length (Int.ofNat (sq (goesS b S G q)).length) 0 b h S (byOf b) (sidesOf b) (sLo G) (sHi G) x17 L (sLo (kgs b)) (sHi (kgs b)) N T (sq (goesS b S G q)).length (sq (goesS b S G q)) = _ from this, ob_some]
   simp only
   have e : (List.drop 0 (sq (goesS b S G q))).flatMap (one2 (b.getD q 0) q) = mvsF b S G T[i] := by
    unfold mvsF; rw [hq, tn, List.drop_zero]
   have hl2 := mvsF_len b S G T[i]
   rw [e, w_s (by omega) (by omega), hd, List.flatMap_cons, ← List.append_assoc]
   exact ih (i + 1) (by omega) (L ++ mvsF b S G T[i]) _ _ rfl rfl (by rw [List.length_append]; omega) F
theorem genBoard_val {b : List Int} (hc : Clean b) (h : List Int) (S : Int) (G : Nat → Bool) : gen_Board (sLo G) (sHi G) b h S (byOf b) (sidesOf b) = some ((mvsB b S G).length, (mvsB b S G).length, mvsB b S G) := by
 unfold gen_Board
 rw [ofB_val, ob_some]
 simp only
 rw [ofB_val, ob_some]
 simp only
 rw [or_val, ob_some]
 simp only
 rw [piecesB_val, ob_some]
 simp only
 rw [squares_val, ob_some]
 simp only
 have hlen := sq_len (sdP b S)
 obtain ⟨g, hg⟩ := many_eq (sq (sdP b S)).length (by omega)
 have := board_goes hc h S G (sq (sdP b S)) (by omega) (fun q hq => ⟨(sq_mem hq).1, (sq_mem hq).2.1⟩) (sq (sdP b S)).length (sq (sdP b S)).length 0 (by omega) [] 0 0 rfl rfl (by simp only [List.length_nil]; omega) g
 rw [← hg] at this
 rw [show gen_Boardl5 many 0 S (sq (sdP b S)).length (Int.ofNat (sq (sdP b S)).length) 0 b h S (byOf b) (sidesOf b) (sLo G) (sHi G) 0 [] (sLo fun i => pcs b (pc 0 8) i || pcs b (pc 1 8) i) (sHi fun i => pcs b (pc 0 8) i || pcs b (pc 1 8) i) (sq (sdP b S)).length (sq (sdP b S)) = _ from this, ob_some]
 rfl
def mvsK (b h : List Int) (S : Int) (G : Nat → Bool) (k : Nat) : List (List Int) := if hdP h S k < 1 then [] else (sq fun i => freS b S k i && G i).map fun t => [0, t, (k : Int), 0]
def mvsD (b h : List Int) (S : Int) (G : Nat → Bool) : List (List Int) := (List.range' 1 7).flatMap (mvsK b h S G)
theorem mvsK_len (b h : List Int) (S : Int) (G : Nat → Bool) (k : Nat) : (mvsK b h S G k).length ≤ 81 := by
 unfold mvsK
 split
 ·simp
 ·rw [List.length_map]; exact sq_len _
theorem toDrop_goes (k : Int) (T : List Int) (S : Int) (b h : List Int) (S' : Int) (by' sd' : List (List Int)) (u v : Int) (N3 : Nat) (hT : T.length ≤ 1000) : ∀ (n i : Nat), i + n = T.length → ∀ (L : List (List Int)) (x0 x17 : Nat), x0 = L.length → x17 = L.length → L.length ≤ 1000000 - 2 * n → ∀ F,
  gen_Dropsl8 (F + n + 1) x0 S k T.length T.length i b h S' by' sd' u v x17 L N3 T =
   some ((L ++ (T.drop i).map fun t => [0, t, k, 0]).length, S, k, b, h, S', by', sd', u, v, (L ++ (T.drop i).map fun t => [0, t, k, 0]).length, L ++ (T.drop i).map fun t => [0, t, k, 0]) := by
 intro n
 induction n with
 | zero =>
   intro i hi L x0 x17 h0 h17 hb F
   show gen_Dropsl8s (gen_Dropsl8 (F + 0)) _ _ _ _ _ _ _ _ _ _ _ _ _ _ _ _ _ = _
   unfold gen_Dropsl8s
   rw [b_nlt (by omega), List.drop_eq_nil_of_le (by omega)]
   simp only [List.map_nil, List.append_nil, h0, h17]
 | succ n ih =>
   intro i hi L x0 x17 h0 h17 hb F
   show gen_Dropsl8s (gen_Dropsl8 (F + n + 1)) _ _ _ _ _ _ _ _ _ _ _ _ _ _ _ _ _ = _
   unfold gen_Dropsl8s
   have hil : i < T.length := by omega
   have hget : T.getD i 0 = T[i] := at_i hil
   have hd : T.drop i = T[i] :: T.drop (i + 1) := List.drop_eq_getElem_cons hil
   rw [b_lt (by omega), b_in (by omega) (by omega), tn, hget, b_leN (by omega), tkA h0, w_s (by omega) (by omega), hd, List.map_cons]
   have := ih (i + 1) (by omega) (L ++ [[0, T[i], k, 0]]) (x0 + 1) (x0 + 1) (by simp [h0]) (by simp [h0]) (by simp; omega) F
   rw [List.append_assoc] at this
   exact this
theorem drops_goes {b : List Int} (hc : Clean b) (h : List Int) (S : Int) (G : Nat → Bool) : ∀ (n k : Nat), k + n = 8 → ∀ (L : List (List Int)) (x0 x17 : Nat), x0 = L.length → x17 = L.length → L.length ≤ 900000 - 200 * n → ∀ F,
  gen_Dropsl4 (F + n + 1) x0 S k b h S (byOf b) (sidesOf b) (sLo G) (sHi G) x17 L =
   some ((L ++ (List.range' k n).flatMap (mvsK b h S G)).length, b, h, S, byOf b, sidesOf b, (L ++ (List.range' k n).flatMap (mvsK b h S G)).length, L ++ (List.range' k n).flatMap (mvsK b h S G)) := by
 intro n
 induction n with
 | zero =>
   intro k hk L x0 x17 h0 h17 hb F
   show gen_Dropsl4s (gen_Dropsl4 (F + 0)) _ _ _ _ _ _ _ _ _ _ _ _ = _
   unfold gen_Dropsl4s
   rw [b_nlt (by omega)]
   simp only [List.range'_zero, List.flatMap_nil, List.append_nil, h0, h17]
 | succ n ih =>
   intro k hk L x0 x17 h0 h17 hb F
   show gen_Dropsl4s (gen_Dropsl4 (F + n + 1)) _ _ _ _ _ _ _ _ _ _ _ _ = _
   unfold gen_Dropsl4s
   have hl2 := mvsK_len b h S G k
   rw [b_lt (by omega), handB_val, ob_some, List.range'_succ, List.flatMap_cons, ← List.append_assoc]
   have ih' := ih (k + 1) (by omega) (L ++ mvsK b h S G k)
   by_cases h1 : hdP h S k < 1
   ·have e : mvsK b h S G k = [] := by unfold mvsK; rw [if_pos h1]
    rw [b_lt h1, w_s (by omega) (by omega)]
    rw [e, List.append_nil] at ih' ⊢
    exact ih' x0 x17 h0 h17 (by omega) F
   ·have e : mvsK b h S G k = (sq fun i => freS b S k i && G i).map fun t => [0, t, (k : Int), 0] := by unfold mvsK; rw [if_neg h1]
    rw [b_nlt h1, freeB_val hc, ob_some]
    simp only
    rw [and_val, ob_some]
    simp only
    rw [squares_val, ob_some]
    simp only
    have hlen := sq_len fun i => freS b S k i && G i
    obtain ⟨g, hg⟩ := many_eq (sq fun i => freS b S k i && G i).length (by omega)
    have := toDrop_goes k (sq fun i => freS b S k i && G i) S b h S (byOf b) (sidesOf b) (sLo G) (sHi G) (sq fun i => freS b S k i && G i).length (by omega) (sq fun i => freS b S k i && G i).length 0 (by omega) L x0 x17 h0 h17 (by omega) g
    rw [← hg] at this
    rw [show gen_Dropsl8 many x0 S k (sq fun i => freS b S k i && G i).length (Int.ofNat (sq fun i => freS b S k i && G i).length) 0 b h S (byOf b) (sidesOf b) (sLo G) (sHi G) x17 L (sq fun i => freS b S k i && G i).length (sq fun i => freS b S k i && G i) = _ from this, ob_some]
    simp only
    rw [List.drop_zero, ← e, w_s (by omega) (by omega)]
    exact ih' _ _ rfl rfl (by rw [List.length_append]; omega) F
theorem genDrops_val {b : List Int} (hc : Clean b) (h : List Int) (S : Int) (G : Nat → Bool) : gen_Drops (sLo G) (sHi G) b h S (byOf b) (sidesOf b) = some ((mvsD b h S G).length, (mvsD b h S G).length, mvsD b h S G) := by
 unfold gen_Drops
 obtain ⟨g, hg⟩ := many_eq 7 (by omega)
 have := drops_goes hc h S G 7 1 (by omega) [] 0 0 rfl rfl (by simp only [List.length_nil]; omega) g
 rw [← hg] at this
 rw [show gen_Dropsl4 many 0 S 1 b h S (byOf b) (sidesOf b) (sLo G) (sHi G) 0 [] = _ from this, ob_some]
 rfl
def mvs (b h : List Int) (S : Int) : List (List Int) := mvsB b S (fun _ => true) ++ mvsD b h S (fun _ => true)
theorem mvsB_len (b : List Int) (S : Int) (G : Nat → Bool) : (mvsB b S G).length ≤ 162 * 81 := by
 unfold mvsB
 have := flatLen (mvsF b S G) 162 (sq (sdP b S)) fun a _ => mvsF_len _ _ _ _
 have := sq_len (sdP b S)
 omega
theorem mvsD_len (b h : List Int) (S : Int) (G : Nat → Bool) : (mvsD b h S G).length ≤ 81 * 7 := by
 unfold mvsD
 have := flatLen (mvsK b h S G) 81 (List.range' 1 7) fun a _ => mvsK_len _ _ _ _ _
 rw [List.length_range'] at this
 omega
end Go.Kk.Pl
namespace Go.Kk.Pl
def rOne (b h : List Int) (S : Int) (f t : Nat) : List (List Int) := (if movS b h S f t 0 false then [[(f : Int), (t : Int), 0, 0]] else []) ++ (if movS b h S f t 0 true then [[(f : Int), (t : Int), 0, 1]] else [])
def rTo (b h : List Int) (S : Int) (f t : Nat) : List (List Int) := if rch (b.getD f 0) f t (tk b) then rOne b h S f t else []
def rFrom (b h : List Int) (S : Int) (f : Nat) : List (List Int) := if sd (b.getD f 0) = S then (List.range' 0 81).flatMap (rTo b h S f) else []
def rDrop (b h : List Int) (S : Int) (k t : Nat) : List (List Int) := if movS b h S 0 t k false then [[0, (t : Int), (k : Int), 0]] else []
def rKind (b h : List Int) (S : Int) (k : Nat) : List (List Int) := if hd_ h S k > 0 then (List.range' 0 81).flatMap (rDrop b h S k) else []
def rAll (b h : List Int) (S : Int) : List (List Int) := (List.range' 0 81).flatMap (rFrom b h S) ++ (List.range' 1 7).flatMap (rKind b h S)
theorem rTo_len (b h : List Int) (S : Int) (f t : Nat) : (rTo b h S f t).length ≤ 2 := by
 unfold rTo rOne
 split
 ·split <;> split <;> simp
 ·simp
theorem rFrom_len (b h : List Int) (S : Int) (f : Nat) : (rFrom b h S f).length ≤ 162 := by
 unfold rFrom
 split
 ·have := flatLen (rTo b h S f) 2 (List.range' 0 81) fun a _ => rTo_len b h S f a
  rw [List.length_range'] at this
  omega
 ·simp
theorem rDrop_len (b h : List Int) (S : Int) (k t : Nat) : (rDrop b h S k t).length ≤ 1 := by
 unfold rDrop; split <;> simp
theorem rKind_len (b h : List Int) (S : Int) (k : Nat) : (rKind b h S k).length ≤ 81 := by
 unfold rKind
 split
 ·have := flatLen (rDrop b h S k) 1 (List.range' 0 81) fun a _ => rDrop_len b h S k a
  rw [List.length_range'] at this
  omega
 ·simp
theorem rTo_goes (b h : List Int) (S : Int) (f : Nat) (hf : f < 81) : ∀ (n t : Nat), t + n = 81 → ∀ (L : List (List Int)) (x0 x6 : Nat), x0 = L.length → x6 = L.length → L.length ≤ 1000000 - 2 * n → ∀ F,
  ref10_Alll10 (F + n + 1) x0 f t b h S x6 L (takenL b) =
   some ((L ++ (List.range' t n).flatMap (rTo b h S f)).length, (f : Int), b, h, S, (L ++ (List.range' t n).flatMap (rTo b h S f)).length, L ++ (List.range' t n).flatMap (rTo b h S f), takenL b) := by
 intro n
 induction n with
 | zero =>
   intro t ht L x0 x6 h0 h6 hb F
   show ref10_Alll10s (ref10_Alll10 (F + 0)) _ _ _ _ _ _ _ _ _ = _
   unfold ref10_Alll10s
   rw [b_nlt (by omega)]
   simp only [List.range'_zero, List.flatMap_nil, List.append_nil, h0, h6]
 | succ n ih =>
   intro t ht L x0 x6 h0 h6 hb F
   show ref10_Alll10s (ref10_Alll10 (F + n + 1)) _ _ _ _ _ _ _ _ _ = _
   unfold ref10_Alll10s
   rw [b_lt (by omega), b_in (by omega) (by omega), tn, c_8, reachT_val b _ hf (by omega), ob_some, w_s (by omega) (by omega), List.range'_succ, List.flatMap_cons, ← List.append_assoc]
   have ih' := ih (t + 1) (by omega) (L ++ rTo b h S f t)
   cases hr : rch (b.getD f 0) f t (tk b) with
   | false =>
     have e : rTo b h S f t = [] := by unfold rTo; rw [hr]; rfl
     rw [Bool.not_false, b_t]
     rw [e, List.append_nil] at ih' ⊢
     exact ih' x0 x6 h0 h6 (by omega) F
   | true =>
     have e : rTo b h S f t = rOne b h S f t := by unfold rTo; rw [hr]; rfl
     rw [e] at ih' ⊢
     rw [Bool.not_true, b_f, refMoves_val, ob_some, tkA h0, tkA h0, tkA2 h0]
     cases hm : movS b h S f t 0 false with
     | true =>
       rw [b_t, b_leN (by omega), refMoves_val, ob_some]
       cases hy : movS b h S f t 0 true with
       | true =>
         rw [b_t, b_leN (by omega)]
         have := ih' (x0 + 1 + 1) (x0 + 1 + 1) (by simp [rOne, hm, hy, h0]) (by simp [rOne, hm, hy, h0]) (by simp [rOne, hm, hy]; omega) F
         rw [← this]
         simp [rOne, hm, hy]
       | false =>
         rw [b_f]
         have := ih' (x0 + 1) (x0 + 1) (by simp [rOne, hm, hy, h0]) (by simp [rOne, hm, hy, h0]) (by simp [rOne, hm, hy]; omega) F
         rw [← this]
         simp [rOne, hm, hy]
     | false =>
       rw [b_f, refMoves_val, ob_some]
       cases hy : movS b h S f t 0 true with
       | true =>
         rw [b_t, b_leN (by omega)]
         have := ih' (x0 + 1) (x0 + 1) (by simp [rOne, hm, hy, h0]) (by simp [rOne, hm, hy, h0]) (by simp [rOne, hm, hy]; omega) F
         rw [← this]
         simp [rOne, hm, hy]
       | false =>
         rw [b_f]
         have := ih' x0 x6 (by simp [rOne, hm, hy, h0]) (by simp [rOne, hm, hy, h6]) (by simp [rOne, hm, hy]; omega) F
         rw [← this]
         simp [rOne, hm, hy]
theorem rFrom_goes (b h : List Int) (S : Int) : ∀ (n f : Nat), f + n = 81 → ∀ (L : List (List Int)) (x0 x6 : Nat), x0 = L.length → x6 = L.length → L.length ≤ 900000 - 200 * n → ∀ F,
  ref10_Alll6 (F + n + 1) x0 f b h S x6 L (takenL b) =
   some ((L ++ (List.range' f n).flatMap (rFrom b h S)).length, b, h, S, (L ++ (List.range' f n).flatMap (rFrom b h S)).length, L ++ (List.range' f n).flatMap (rFrom b h S)) := by
 intro n
 induction n with
 | zero =>
   intro f hf L x0 x6 h0 h6 hb F
   show ref10_Alll6s (ref10_Alll6 (F + 0)) _ _ _ _ _ _ _ _ = _
   unfold ref10_Alll6s
   rw [b_nlt (by omega)]
   simp only [List.range'_zero, List.flatMap_nil, List.append_nil, h0, h6]
 | succ n ih =>
   intro f hf L x0 x6 h0 h6 hb F
   show ref10_Alll6s (ref10_Alll6 (F + n + 1)) _ _ _ _ _ _ _ _ = _
   unfold ref10_Alll6s
   have hl := rFrom_len b h S f
   rw [b_lt (by omega), b_in (by omega) (by omega), tn, c_8, refSide_val, ob_some, List.range'_succ, List.flatMap_cons, ← List.append_assoc]
   have ih' := ih (f + 1) (by omega) (L ++ rFrom b h S f)
   by_cases h1 : sd (b.getD f 0) = S
   ·have e : rFrom b h S f = (List.range' 0 81).flatMap (rTo b h S f) := by unfold rFrom; rw [if_pos h1]
    rw [b_nne h1]
    obtain ⟨g, hg⟩ := many_eq 81 (by omega)
    have := rTo_goes b h S f (by omega) 81 0 (by omega) L x0 x6 h0 h6 (by omega) g
    rw [← hg] at this
    rw [show ref10_Alll10 many x0 f 0 b h S x6 L (takenL b) = _ from this, ob_some]
    simp only
    rw [w_s (by omega) (by omega), ← e]
    exact ih' _ _ rfl rfl (by rw [List.length_append]; omega) F
   ·have e : rFrom b h S f = [] := by unfold rFrom; rw [if_neg h1]
    rw [b_ne h1, w_s (by omega) (by omega)]
    rw [e, List.append_nil] at ih' ⊢
    exact ih' x0 x6 h0 h6 (by omega) F
theorem rDrop_goes (b h : List Int) {S : Int} (hS : S = 0 ∨ S = 1) (k : Nat) (hk : k < 8) : ∀ (n t : Nat), t + n = 81 → ∀ (L : List (List Int)) (x0 x6 : Nat), x0 = L.length → x6 = L.length → L.length ≤ 1000000 - 2 * n → ∀ F,
  ref10_Alll23 (F + n + 1) x0 k t b h S x6 L =
   some ((L ++ if hd_ h S k > 0 then (List.range' t n).flatMap (rDrop b h S k) else []).length, (k : Int), b, h, S, (L ++ if hd_ h S k > 0 then (List.range' t n).flatMap (rDrop b h S k) else []).length, L ++ if hd_ h S k > 0 then (List.range' t n).flatMap (rDrop b h S k) else []) := by
 intro n
 induction n with
 | zero =>
   intro t ht L x0 x6 h0 h6 hb F
   show ref10_Alll23s (ref10_Alll23 (F + 0)) _ _ _ _ _ _ _ _ = _
   unfold ref10_Alll23s
   rw [b_nlt (by omega)]
   simp only [List.range'_zero, List.flatMap_nil, ite_self, List.append_nil, h0, h6]
 | succ n ih =>
   intro t ht L x0 x6 h0 h6 hb F
   show ref10_Alll23s (ref10_Alll23 (F + n + 1)) _ _ _ _ _ _ _ _ = _
   unfold ref10_Alll23s
   rw [b_lt (by omega), b_in (by omega) (by omega), b_in (by omega) (by omega)]
   have ih' := ih (t + 1) (by omega) (L ++ rDrop b h S k t)
   by_cases h1 : hd_ h S k > 0
   ·rw [show List.getD h (S.toNat * 8 + Int.toNat (k : Int)) 0 = hd_ h S k from rfl, b_gt h1, refMoves_val, ob_some, tkA h0, w_s (by omega) (by omega)]
    simp only [if_pos h1] at ih' ⊢
    rw [List.range'_succ, List.flatMap_cons, ← List.append_assoc]
    cases hm : movS b h S 0 t k false with
    | true =>
      have e : rDrop b h S k t = [[0, (t : Int), (k : Int), 0]] := by unfold rDrop; rw [hm]; rfl
      rw [b_t, b_leN (by omega)]
      rw [e] at ih' ⊢
      exact ih' (x0 + 1) (x0 + 1) (by simp [h0]) (by simp [h0]) (by simp; omega) F
    | false =>
      have e : rDrop b h S k t = [] := by unfold rDrop; rw [hm]; rfl
      rw [b_f]
      rw [e, List.append_nil] at ih' ⊢
      exact ih' x0 x6 h0 h6 (by omega) F
   ·rw [show List.getD h (S.toNat * 8 + Int.toNat (k : Int)) 0 = hd_ h S k from rfl, b_ngt h1, if_neg h1, List.append_nil, h0, h6]
theorem rKind_goes (b h : List Int) {S : Int} (hS : S = 0 ∨ S = 1) : ∀ (n k : Nat), k + n = 8 → ∀ (L : List (List Int)) (x0 x6 : Nat), x0 = L.length → x6 = L.length → L.length ≤ 900000 - 200 * n → ∀ F,
  ref10_Alll20 (F + n + 1) x0 k b h S x6 L =
   some ((L ++ (List.range' k n).flatMap (rKind b h S)).length, (L ++ (List.range' k n).flatMap (rKind b h S)).length, L ++ (List.range' k n).flatMap (rKind b h S)) := by
 intro n
 induction n with
 | zero =>
   intro k hk L x0 x6 h0 h6 hb F
   show ref10_Alll20s (ref10_Alll20 (F + 0)) _ _ _ _ _ _ _ = _
   unfold ref10_Alll20s
   rw [b_nle (by omega)]
   simp only [List.range'_zero, List.flatMap_nil, List.append_nil, h0, h6]
 | succ n ih =>
   intro k hk L x0 x6 h0 h6 hb F
   show ref10_Alll20s (ref10_Alll20 (F + n + 1)) _ _ _ _ _ _ _ = _
   unfold ref10_Alll20s
   have hl := rKind_len b h S k
   obtain ⟨g, hg⟩ := many_eq 81 (by omega)
   have := rDrop_goes b h hS k (by omega) 81 0 (by omega) L x0 x6 h0 h6 (by omega) g
   rw [← hg] at this
   rw [b_le (by omega), show ref10_Alll23 many x0 k 0 b h S x6 L = _ from this, ob_some]
   simp only
   have e : List.range' k (n + 1) = k :: List.range' (k + 1) n := List.range'_succ
   rw [w_s (by omega) (by omega), e, List.flatMap_cons, ← List.append_assoc]
   exact ih (k + 1) (by omega) (L ++ rKind b h S k) _ _ rfl rfl (by rw [List.length_append]; omega) F
theorem rFroms_len (b h : List Int) (S : Int) : ((List.range' 0 81).flatMap (rFrom b h S)).length ≤ 162 * 81 := by
 have := flatLen (rFrom b h S) 162 (List.range' 0 81) fun a _ => rFrom_len b h S a
 rw [List.length_range'] at this
 exact this
theorem refAll_val (b h : List Int) {S : Int} (hS : S = 0 ∨ S = 1) : ref10_All b h S = some ((rAll b h S).length, (rAll b h S).length, rAll b h S) := by
 have main : (ob (ref05_Taken b h S) fun a3 =>
  ob (ref10_Alll6 many 0 0 b h S 0 [] a3) fun (a4_0, a4_1, a4_2, a4_3, a4_4, a4_5) =>
  ob (ref10_Alll20 many a4_0 1 a4_1 a4_2 a4_3 a4_4 a4_5) fun (a10_0, a10_1, a10_2) =>
  (some (a10_0, a10_1, a10_2) : Option (Nat × Nat × List (List Int)))) = some ((rAll b h S).length, (rAll b h S).length, rAll b h S) := by
  rw [taken_val, ob_some]
  have hl := rFroms_len b h S
  obtain ⟨g, hg⟩ := many_eq 81 (by omega)
  have := rFrom_goes b h S 81 0 (by omega) [] 0 0 rfl rfl (by simp only [List.length_nil]; omega) g
  rw [← hg, List.nil_append] at this
  rw [show ref10_Alll6 many 0 0 b h S 0 [] (takenL b) = _ from this, ob_some]
  simp only
  obtain ⟨g, hg⟩ := many_eq 7 (by omega)
  have := rKind_goes b h hS 7 1 (by omega) ((List.range' 0 81).flatMap (rFrom b h S)) _ _ rfl rfl (by omega) g
  rw [← hg] at this
  rw [show ref10_Alll20 many ((List.range' 0 81).flatMap (rFrom b h S)).length 1 b h S ((List.range' 0 81).flatMap (rFrom b h S)).length ((List.range' 0 81).flatMap (rFrom b h S)) = _ from this, ob_some]
  rfl
 unfold ref10_All
 rcases hS with rfl | rfl
 ·rw [b_nne rfl]; exact main
 ·rw [b_ne (by omega), b_nne rfl]; exact main
theorem flat_filter {α β γ : Type} (p : α → Bool) (f : α → β) (g : β → List γ) (L : List α) : ((L.filter p).map f).flatMap g = L.flatMap fun a => if p a then g (f a) else [] := by
 induction L with
 | nil => rfl
 | cons a L ih =>
   rw [List.filter_cons, List.flatMap_cons]
   cases h : p a with
   | true => rw [if_pos rfl, if_pos rfl, List.map_cons, List.flatMap_cons, ih]
   | false => rw [if_neg (by simp), if_neg (by simp), ih]; rfl
theorem sq_flat {γ : Type} (p : Nat → Bool) (g : Int → List γ) : (sq p).flatMap g = (List.range' 0 81).flatMap fun (i : Nat) => if p i then g (i : Int) else [] := by
 unfold sq; rw [flat_filter, range81']; rfl
theorem flat_congr {α β : Type} {f g : α → List β} {L : List α} (h : ∀ a ∈ L, f a = g a) : L.flatMap f = L.flatMap g := by
 induction L with
 | nil => rfl
 | cons a L ih => rw [List.flatMap_cons, List.flatMap_cons, h a (by simp), ih fun x hx => h x (by simp [hx])]
theorem sq_map {γ : Type} (p : Nat → Bool) (g : Int → γ) : (sq p).map g = (List.range' 0 81).flatMap fun (i : Nat) => if p i then [g (i : Int)] else [] := by
 rw [← sq_flat p fun t => [g t]]
 induction sq p with
 | nil => rfl
 | cons a L ih => rw [List.map_cons, List.flatMap_cons, ih]; rfl
theorem kgs_iff {b : List Int} (_hc : Clean b) {c : Nat} (_hcc : c < 81) : kgs b c = decide (kd (b.getD c 0) = 8) := by
 unfold kgs pcs
 rw [pc_ok (.inl rfl) (by omega) (by omega) (by omega), pc_ok (.inr rfl) (by omega) (by omega) (by omega), Bool.eq_iff_iff]
 simp only [Bool.or_eq_true, decide_eq_true_eq]
 constructor
 ·rintro (⟨_, h⟩ | ⟨_, h⟩) <;> rw [h] <;> decide
 ·intro h
  have := pc_of (x := b.getD c 0) (by omega)
  rw [h] at this
  have hs := sd_range (x := b.getD c 0) (by omega)
  rcases hs with h1 | h1 <;> rw [h1, pc_ok (by omega) (by omega) (by omega) (by omega)] at this
  ·left; omega
  ·right; omega
theorem mov_eq {b : List Int} (_hc : Clean b) (h : List Int) {S : Int} (hS : S = 0 ∨ S = 1) {f t : Nat} (hf : f < 81) (ht : t < 81) (hs : sd (b.getD f 0) = S) (hr : rch (b.getD f 0) f t (tk b) = true) (p : Bool) :
  movS b h S f t 0 p = (decide (sd (b.getD t 0) ≠ S ∧ kd (b.getD t 0) ≠ 8) && if p = true then mayS (b.getD f 0) f t else !mustS (b.getD f 0) t) := by
 unfold movS canS
 rw [if_neg (by simp), if_neg (by simp), at_in (by omega), at_in (by omega), tn, tn, hr, decide_eq_true (p := S = 0 ∨ S = 1) hS, Bool.true_and, Bool.true_and]
 by_cases hft : f = t
 ·subst hft
  have : decide (sd (b.getD f 0) = S ∧ sd (b.getD f 0) ≠ S ∧ kd (b.getD f 0) ≠ 8) = false := decide_eq_false fun hh => hh.2.1 hs
  rw [this, Bool.false_and, Bool.and_false, Bool.false_and, decide_eq_false (p := sd (b.getD f 0) ≠ S ∧ kd (b.getD f 0) ≠ 8) (fun hh => hh.1 hs), Bool.false_and]
 ·have e : chkM f t 0 p = 0 := by
   unfold chkM
   rw [if_neg (by omega), if_neg (by simp), if_neg (by omega), if_neg (by omega)]
  rw [decide_eq_true e, Bool.true_and]
  have : decide (sd (b.getD f 0) = S ∧ sd (b.getD t 0) ≠ S ∧ kd (b.getD t 0) ≠ 8) = decide (sd (b.getD t 0) ≠ S ∧ kd (b.getD t 0) ≠ 8) := by simp [hs, -List.getD_eq_getElem?_getD]
  rw [this, Bool.and_assoc]
  congr 1
  cases p with
  | false => simp
  | true =>
    simp only [Bool.not_true, Bool.false_or, if_true]
    unfold mayS
    rw [← Bool.and_assoc, Bool.and_self]
theorem to_eq {b : List Int} (hc : Clean b) (h : List Int) {S : Int} (hS : S = 0 ∨ S = 1) {f t : Nat} (hf : f < 81) (ht : t < 81) (hs : sd (b.getD f 0) = S) :
  (if goesS b S (fun _ => true) f t then one2 (b.getD f 0) f t else []) = rTo b h S f t := by
 unfold rTo rOne one2 goesS
 rw [kgs_iff hc ht]
 cases hr : rch (b.getD f 0) f t (tk b) with
 | false => simp
 | true =>
   rw [mov_eq hc h hS hf ht hs hr, mov_eq hc h hS hf ht hs hr]
   unfold sdP sds
   rw [decide_eq_true (p := S = 0 ∨ S = 1) hS]
   by_cases h1 : sd (b.getD t 0) = S
   ·simp [h1, -List.getD_eq_getElem?_getD]
   ·by_cases h2 : kd (b.getD t 0) = 8
    ·simp [h2, -List.getD_eq_getElem?_getD]
    ·simp only [h1, h2, decide_false, Bool.and_self, Bool.not_false, Bool.true_and, ne_eq, not_false_eq_true, if_true, Bool.false_eq_true, if_false]
     cases mustS (b.getD f 0) t <;> cases mayS (b.getD f 0) f t <;> rfl
theorem mvs_eq {b : List Int} (hc : Clean b) (h : List Int) {S : Int} (hS : S = 0 ∨ S = 1) : mvs b h S = rAll b h S := by
 unfold mvs rAll
 congr 1
 ·unfold mvsB
  rw [sq_flat]
  apply flat_congr
  intro f hf
  rw [List.mem_range'_1] at hf
  unfold rFrom
  by_cases hs : sd (b.getD f 0) = S
  ·have : sdP b S f = true := by unfold sdP sds; rw [decide_eq_true hs, decide_eq_true (p := S = 0 ∨ S = 1) hS]; rfl
   rw [if_pos this, if_pos hs]
   unfold mvsF
   rw [tn, sq_flat]
   apply flat_congr
   intro t ht
   rw [List.mem_range'_1] at ht
   exact to_eq hc h hS (by omega) (by omega) hs
  ·have : sdP b S f = false := by unfold sdP sds; rw [decide_eq_false hs, Bool.and_false]
   rw [if_neg (by simp [this]), if_neg hs]
 ·unfold mvsD
  apply flat_congr
  intro k hk
  rw [List.mem_range'_1] at hk
  unfold mvsK rKind
  have e : hdP h S k = hd_ h S k := by unfold hdP; rw [if_pos ⟨hS, by omega, by omega⟩]
  rw [e]
  by_cases h1 : hd_ h S k > 0
  ·rw [if_neg (by omega), if_pos h1, sq_map]
   apply flat_congr
   intro t ht
   rw [List.mem_range'_1] at ht
   unfold rDrop
   rw [Bool.and_true]
   have : movS b h S 0 t k false = freS b S k t := by
    unfold movS canS freS fre1
    have e2 : chkM 0 (t : Int) k false = 0 := by
     unfold chkM
     rw [if_neg (by omega), if_pos (by omega), if_pos ⟨by omega, by omega, rfl, rfl⟩]
    rw [e2, pc_ok hS (by omega) (by omega) (by omega), pc_ok hS (by omega) (by omega) (by omega), if_pos (by omega), if_pos (by omega), decide_eq_true (p := S = 0 ∨ S = 1) hS, decide_eq_true (p := (S = 0 ∨ S = 1) ∧ (1 : Int) ≤ k ∧ (k : Int) ≤ 7) ⟨hS, by omega, by omega⟩, deadI_nat _ (by omega), at_in (by omega), tn, decide_eq_true (p := 0 < hd_ h S k) h1]
    unfold tk
    by_cases h2 : (k : Int) = 1
    ·rw [h2]
     by_cases h0 : b.getD t 0 = 0 <;> simp
    ·by_cases h0 : b.getD t 0 = 0 <;> simp [h2]
   rw [this]
  ·rw [if_pos (by omega), if_neg h1]
end Go.Kk.Pl
namespace Go.Kk.Pl
theorem hd0 (m : List Int) : List.headD (List.take 4 m) 0 = m.getD 0 0 := by cases m <;> rfl
theorem hd1 (m : List Int) : List.headD (List.tail (List.take 4 m)) 0 = m.getD 1 0 := by
 rcases m with _ | ⟨a, _ | ⟨b, m⟩⟩ <;> rfl
theorem hd2 (m : List Int) : List.headD (List.tail (List.tail (List.take 4 m))) 0 = m.getD 2 0 := by
 rcases m with _ | ⟨a, _ | ⟨b, _ | ⟨c, m⟩⟩⟩ <;> rfl
theorem hd3 (m : List Int) : List.headD (List.tail (List.tail (List.tail (List.take 4 m)))) 0 = m.getD 3 0 := by
 rcases m with _ | ⟨a, _ | ⟨b, _ | ⟨c, _ | ⟨d, m⟩⟩⟩⟩ <;> rfl
theorem one2_mem {x f t : Int} {m : List Int} (h : m ∈ one2 x f t) : ∃ p : Int, m = [f, t, 0, p] := by
 unfold one2 at h
 rw [List.mem_append] at h
 rcases h with h | h
 ·split at h
  ·cases h
  ·exact ⟨0, by simpa using h⟩
 ·split at h
  ·exact ⟨1, by simpa using h⟩
  ·cases h
theorem mvsF_mem {b : List Int} {S : Int} {G : Nat → Bool} {f : Int} {m : List Int} (h : m ∈ mvsF b S G f) : ∃ t p : Int, m = [f, t, 0, p] := by
 unfold mvsF at h
 obtain ⟨t, _, ht⟩ := List.mem_flatMap.1 h
 obtain ⟨p, hp⟩ := one2_mem ht
 exact ⟨t, p, hp⟩
theorem mvsB_mem {b : List Int} {S : Int} {G : Nat → Bool} {m : List Int} (h : m ∈ mvsB b S G) : ∃ f t p : Int, m = [f, t, 0, p] := by
 unfold mvsB at h
 obtain ⟨f, _, hf⟩ := List.mem_flatMap.1 h
 obtain ⟨t, p, hp⟩ := mvsF_mem hf
 exact ⟨f, t, p, hp⟩
theorem mvsK_mem {b h : List Int} {S : Int} {G : Nat → Bool} {k : Nat} {m : List Int} (hm : m ∈ mvsK b h S G k) : ∃ t : Int, m = [0, t, (k : Int), 0] := by
 unfold mvsK at hm
 split at hm
 ·cases hm
 ·obtain ⟨t, _, ht⟩ := List.mem_map.1 hm
  exact ⟨t, ht.symm⟩
theorem mvsD_mem {b h : List Int} {S : Int} {G : Nat → Bool} {m : List Int} (hm : m ∈ mvsD b h S G) : ∃ (k : Nat) (t : Int), 1 ≤ k ∧ k ≤ 7 ∧ m = [0, t, (k : Int), 0] := by
 unfold mvsD at hm
 obtain ⟨k, hk, h2⟩ := List.mem_flatMap.1 hm
 rw [List.mem_range'_1] at hk
 obtain ⟨t, ht⟩ := mvsK_mem h2
 exact ⟨k, t, by omega, by omega, ht⟩
theorem mvs_len (b h : List Int) (S : Int) : (mvs b h S).length ≤ 20000 := by
 unfold mvs
 have h1 := mvsB_len b S fun _ => true
 have h2 := mvsD_len b h S fun _ => true
 rw [List.length_append]
 omega
end Go.Kk.Pl
namespace Go.Kk.Pl
theorem getM_put (es : List (List Int × List Int)) (r v r' d : List Int) : getM (putM es r v) r' d = if r' = r then v else getM es r' d := by
 induction es with
 | nil =>
   by_cases h : r' = r
   ·subst h; simp [putM, getM]
   ·have : (r == r') = false := by simpa using fun hh => h hh.symm
    simp [putM, getM, this, h]
 | cons x es ih =>
   obtain ⟨k, u⟩ := x
   by_cases hk : k = r
   ·subst hk
    by_cases h : r' = k
    ·subst h; simp [putM, getM]
    ·have : (k == r') = false := by simpa using fun hh => h hh.symm
     simp [putM, getM, this, h]
   ·have e1 : (k == r) = false := by simpa using hk
    by_cases hk' : k = r'
    ·subst hk'
     simp [putM, getM, e1, hk]
    ·have e2 : (k == r') = false := by simpa using hk'
     simp only [putM, e1, cond_false, getM, e2, ih]
theorem hasM_put (es : List (List Int × List Int)) (r v r' : List Int) : hasM (putM es r v) r' = (decide (r' = r) || hasM es r') := by
 induction es with
 | nil =>
   by_cases h : r' = r
   ·subst h; simp [putM, hasM]
   ·have : (r == r') = false := by simpa using fun hh => h hh.symm
    simp [putM, hasM, this, h]
 | cons x es ih =>
   obtain ⟨k, u⟩ := x
   by_cases hk : k = r
   ·subst hk
    by_cases h : r' = k
    ·subst h; simp [putM, hasM]
    ·have : (k == r') = false := by simpa using fun hh => h hh.symm
     simp [putM, hasM, this, h]
   ·have e1 : (k == r) = false := by simpa using hk
    by_cases hk' : k = r'
    ·subst hk'
     simp [putM, hasM, e1]
    ·have e2 : (k == r') = false := by simpa using hk'
     simp only [putM, e1, cond_false, hasM, e2, ih, Bool.false_or]
structure MvOK (b h : List Int) (S f t d p : Int) : Prop where
 pp : p = 0 ∨ p = 1
 mov : movS b h S f t d (p != 0) = true
 tr : 0 ≤ t ∧ t < 81
 fr : 0 ≤ f ∧ f < 81
 dr : 0 ≤ d ∧ d ≤ 7
 drop : d ≠ 0 → f = 0 ∧ p = 0 ∧ 0 < hd_ h S d ∧ at_ b t = 0
theorem mvs_mem {b h : List Int} (hc : Clean b) {S : Int} (hS : S = 0 ∨ S = 1) {m : List Int} (hm : m ∈ mvs b h S) : ∃ f t d p : Int, m = [f, t, d, p] ∧ MvOK b h S f t d p := by
 rw [mvs_eq hc h hS] at hm
 unfold rAll at hm
 rw [List.mem_append] at hm
 rcases hm with hm | hm
 ·obtain ⟨f, hf, hm⟩ := List.mem_flatMap.1 hm
  rw [List.mem_range'_1] at hf
  unfold rFrom at hm
  split at hm <;> try cases hm
  obtain ⟨t, ht, hm⟩ := List.mem_flatMap.1 hm
  rw [List.mem_range'_1] at ht
  unfold rTo at hm
  split at hm <;> try cases hm
  unfold rOne at hm
  rw [List.mem_append] at hm
  rcases hm with hm | hm
  ·split at hm
   ·rename_i hmv
    rw [List.mem_singleton] at hm
    exact ⟨f, t, 0, 0, hm, .inl rfl, hmv, by omega, by omega, by omega, fun h => absurd rfl h⟩
   ·cases hm
  ·split at hm
   ·rename_i hmv
    rw [List.mem_singleton] at hm
    exact ⟨f, t, 0, 1, hm, .inr rfl, hmv, by omega, by omega, by omega, fun h => absurd rfl h⟩
   ·cases hm
 ·obtain ⟨k, hk, hm⟩ := List.mem_flatMap.1 hm
  rw [List.mem_range'_1] at hk
  unfold rKind at hm
  split at hm <;> try cases hm
  rename_i hh
  obtain ⟨t, ht, hm⟩ := List.mem_flatMap.1 hm
  rw [List.mem_range'_1] at ht
  unfold rDrop at hm
  split at hm
  case isFalse => cases hm
  rename_i hmv
  rw [List.mem_singleton] at hm
  refine ⟨0, t, k, 0, hm, .inl rfl, hmv, by omega, by omega, by omega, fun h => ⟨rfl, rfl, hh, ?_⟩⟩
  have := hmv
  unfold movS canS at this
  rw [if_pos h] at this
  simp only [Bool.and_eq_true, decide_eq_true_eq] at this
  exact this.1.2.2.2
end Go.Kk.Pl
