/-
  The laws BoardClones and BoardAsks, told plainly.
-/
import Derived.Test.YtlcccogiaaalhaaDoorKkAcc
namespace Go.Kk.Pl

theorem boardClones_true {b : List Int} (h : List Int) (s q x : Int) (hl : b.length = 81) : law05_BoardClones b h s q x = some true := by
  have hc := cl_clean hl
  have hc2 := hc.put q x
  unfold law05_BoardClones
  rw [begins_true, ob_some]
  simp only [Bool.not_true, b_f]
  rw [new_full hl, ob_some]
  simp only
  unfold board_Clone
  rw [ob_some]
  simp only
  rw [put_full hc, ob_some]
  simp only
  rw [new_full hc2.len, cl_id hc2, ob_some]
  simp only [beq_self_eq_true, Bool.and_self, b_t]
  rw [takenB_val hc, ob_some]
  simp only
  rw [new_full hc.len, cl_id hc, ob_some]
  simp only
  rw [takenB_val hc, ob_some]
  simp only [beq_self_eq_true, Bool.and_self, b_t]
  rw [takenB_val hc2, ob_some, ob_some]
  simp only [beq_self_eq_true, Bool.and_self, b_t]
  rw [piecesB_val, ob_some, ob_some]
  simp only [beq_self_eq_true, Bool.and_self, b_t]
  rw [piecesB_val, ob_some, ob_some]
  simp only [beq_self_eq_true, Bool.and_self]

theorem asks_goes {b : List Int} (h : List Int) (s S : Int) (b0 : List Int) (S0 : Int) : ∀ (n : Nat) (k : Int), k = 18 - n → n ≤ 19 → ∀ f,
    law05_BoardAsksl7 (f + n + 1) s k b0 h S0 b h S (byOf b) (sidesOf b) = some (.inr (s, b, h, S, byOf b, sidesOf b)) := by
  intro n
  induction n with
  | zero =>
    intro k hk _ f
    show law05_BoardAsksl7s (law05_BoardAsksl7 (f + 0)) _ _ _ _ _ _ _ _ _ _ = _
    unfold law05_BoardAsksl7s
    rw [b_nle (by omega)]
  | succ n ih =>
    intro k hk hn f
    have hr := ih (k + 1) (by omega) (by omega) f
    show law05_BoardAsksl7s (law05_BoardAsksl7 (f + n + 1)) _ _ _ _ _ _ _ _ _ _ = _
    unfold law05_BoardAsksl7s
    rw [b_le (by omega)]
    -- what is asked of a side and a kind that there aren't
    have tail1 : (¬ (s = 0 ∨ s = 1) ∨ rw_ k = 0) → pcs b (pc s k) = fun _ => false := by
      intro hh
      have : pc s k = 0 := by
        unfold pc
        rw [if_neg]
        rintro ⟨hs, h1, h2, h3⟩
        rcases hh with hh | hh
        · exact hh hs
        · unfold rw_ at hh
          rw [if_neg (by omega)] at hh
          split at hh <;> omega
      rw [this, pcs_zero]
    have hw : IntKind.wrap IntKind.i64 (k + 1) = k + 1 := w_s (by omega) (by omega)
    have e0 : set_Empty 0 0 = some true := by have := empty_val fun _ => false; rwa [sLo_false, sHi_false, isE_false] at this
    have raw : ∀ {α : Type} (x y : Option α), br (rw_ k == 0) (ob (board_Of s k b h S (byOf b) (sidesOf b)) fun z => ob (set_Empty z.1 z.2) fun a25 => br (!a25) x y) y = y := by
      intro α x y
      by_cases hz : rw_ k = 0
      · rw [b_eq hz, ofB_val, tail1 (.inr hz), sLo_false, sHi_false, ob_some]
        simp only
        rw [e0, ob_some]
        rfl
      · rw [b_neq hz]
    have side : ¬ (s = 0 ∨ s = 1) → ∀ {α : Type} (x y : Option α), (ob (board_Of s k b h S (byOf b) (sidesOf b)) fun z => ob (set_Empty z.1 z.2) fun a25 => br (!a25) x y) = y := by
      intro hs α x y
      rw [ofB_val, tail1 (.inl hs), sLo_false, sHi_false, ob_some]
      simp only
      rw [e0, ob_some]
      rfl
    by_cases h0 : s = 0
    · subst h0
      rw [b_eq rfl]
      simp only [b_nne rfl, refRaw_val, ob_some, hw, handB_val]
      by_cases h1 : k ≥ 1
      · rw [b_ge h1]
        by_cases h7 : k ≤ 7
        · rw [b_le h7, b_in (by omega) (by omega), b_in (by omega) (by omega)]
          have : hdP h 0 k = h.getD (Int.toNat 0 * 8 + k.toNat) 0 := by unfold hdP hd_; rw [if_pos (by omega)]
          rw [c_8, b_nne this]
          exact (raw _ _).trans hr
        · have : hdP h 0 k = 0 := by unfold hdP; rw [if_neg (by omega)]
          rw [b_nle h7, b_nne this]
          exact (raw _ _).trans hr
      · have : hdP h 0 k = 0 := by unfold hdP; rw [if_neg (by omega)]
        rw [b_nge h1, b_nne this]
        exact (raw _ _).trans hr
    · by_cases h1 : s = 1
      · subst h1
        rw [b_neq (by omega), b_eq rfl]
        simp only [b_ne h0, b_nne rfl, refRaw_val, ob_some, hw, handB_val]
        by_cases h1 : k ≥ 1
        · rw [b_ge h1]
          by_cases h7 : k ≤ 7
          · rw [b_le h7, b_in (by omega) (by omega), b_in (by omega) (by omega)]
            have : hdP h 1 k = h.getD (Int.toNat 1 * 8 + k.toNat) 0 := by unfold hdP hd_; rw [if_pos (by omega)]
            rw [c_8, b_nne this]
            exact (raw _ _).trans hr
          · have : hdP h 1 k = 0 := by unfold hdP; rw [if_neg (by omega)]
            rw [b_nle h7, b_nne this]
            exact (raw _ _).trans hr
        · have : hdP h 1 k = 0 := by unfold hdP; rw [if_neg (by omega)]
          rw [b_nge h1, b_nne this]
          exact (raw _ _).trans hr
      · have : hdP h s k = 0 := by unfold hdP; rw [if_neg (by omega)]
        rw [b_neq h0, b_neq h1]
        simp only [b_ne h0, b_ne h1, hw, handB_val, ob_some, b_nne this]
        exact (side (by omega) _ _).trans hr

theorem at_out {b : List Int} {q : Int} (h : ¬ (0 ≤ q ∧ q < 81)) : at_ b q = 0 := by unfold at_; rw [if_neg h]

theorem boardAsks_true {b : List Int} (h : List Int) (S q s : Int) (hl : b.length = 81) : law05_BoardAsks b h S q s = some true := by
  obtain ⟨g, hg⟩ := many_eq 19 (by omega)
  have hloop := asks_goes (b := cl b) h s S b S 19 (-1) (by omega) (by omega) g
  rw [← hg] at hloop
  have fin : (br (s == 0) (some true) (br (s == 1) (some true)
      (ob (board_Pieces s (cl b) h S (byOf (cl b)) (sidesOf (cl b))) fun z =>
        ob (set_Empty z.1 z.2) fun a20 =>
        br (a20)
         (ob (board_King s (cl b) h S (byOf (cl b)) (sidesOf (cl b))) fun a21 =>
         some (a21 == -1))
         (some (false)))) : Option Bool) = some true := by
    by_cases h0 : s = 0
    · rw [b_eq h0]
    · rw [b_neq h0]
      by_cases h1 : s = 1
      · rw [b_eq h1]
      · have e : sdP (cl b) s = fun _ => false := by funext i; unfold sdP; simp [h0, h1]
        have e2 : pc s 8 = 0 := pc_none (by omega)
        rw [b_neq h1, piecesB_val, ob_some, e]
        simp only
        rw [empty_val, ob_some, isE_false, b_t, kingB_val, ob_some, e2, pcs_zero, fst_false]
        rfl
  unfold law05_BoardAsks
  rw [begins_true, ob_some]
  simp only [Bool.not_true, b_f]
  rw [new_full hl, ob_some]
  simp only
  by_cases h1 : q < 0
  · rw [b_lt h1, at_val, at_out (by omega), ob_some, b_nne rfl, hloop, ob_some, sw_inr]
    exact fin
  · rw [b_nlt h1]
    by_cases h2 : q > 80
    · rw [b_gt h2, at_val, at_out (by omega), ob_some, b_nne rfl, hloop, ob_some, sw_inr]
      exact fin
    · rw [b_ngt h2, hloop, ob_some, sw_inr]
      exact fin

end Go.Kk.Pl
