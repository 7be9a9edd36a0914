/-
  What is asked of boards, plainly.
-/
import Derived.Test.YtlcccogiaaalhaaDoorKkChk4
namespace Go.Kk.Pl

/-- Where any piece stands. -/
def tk (b : List Int) (i : Nat) : Bool := decide (b.getD i 0 ≠ 0)
theorem tk_sides {b : List Int} (hc : Clean b) {i : Nat} (hi : i < 81) : (sds b 0 i || sds b 1 i) = tk b i := by
  have := hc.ok i hi
  unfold sds tk
  rw [Bool.eq_iff_iff]
  simp only [Bool.or_eq_true, decide_eq_true_eq]
  rcases this with h | h
  · rw [h, sd_zero]; simp
  · have h1 := kd_range h
    have h2 := sd_range h
    constructor
    · intro _; omega
    · intro _; exact h2
theorem takenB_val {b : List Int} (hc : Clean b) (h : List Int) (S : Int) (by_ : List (List Int)) : board_Taken b h S by_ (sidesOf b) = some (sLo (tk b), sHi (tk b)) := by
  unfold board_Taken
  have e0 : (sidesOf b).getD 0 [] = prS (sds b 0) := rfl
  have e1 : (sidesOf b).getD 1 [] = prS (sds b 1) := rfl
  rw [e0, e1, prS_hd, prS_tl, prS_hd, prS_tl, or_val, ob_some]
  obtain ⟨h1, h2⟩ := set_congr (f := fun i => sds b 0 i || sds b 1 i) (g := tk b) fun i hi => tk_sides hc hi
  simp only
  rw [h1, h2]

/-- Where a side's pieces stand; none of what is no side. -/
def sdP (b : List Int) (s : Int) (i : Nat) : Bool := decide (s = 0 ∨ s = 1) && sds b s i
theorem piecesB_val (b h : List Int) (S s : Int) (by_ : List (List Int)) : board_Pieces s b h S by_ (sidesOf b) = some (sLo (sdP b s), sHi (sdP b s)) := by
  unfold board_Pieces
  by_cases h0 : s = 0
  · subst h0
    have : sdP b 0 = sds b 0 := by funext i; unfold sdP; simp
    rw [this]
    rfl
  · rw [b_ne h0]
    by_cases h1 : s = 1
    · subst h1
      have : sdP b 1 = sds b 1 := by funext i; unfold sdP; simp
      rw [this]
      rfl
    · have : sdP b s = fun _ => false := by funext i; unfold sdP; simp [h0, h1]
      rw [b_ne h1, this, sLo_false, sHi_false]
theorem kingB_val (b h : List Int) (S s : Int) (sd' : List (List Int)) : board_King s b h S (byOf b) sd' = some (fst (pcs b (pc s 8))) := by
  unfold board_King
  rw [ofB_val, ob_some]
  simp only
  rw [first_val, ob_some]
/-- How many of a kind a side has in hand. -/
def hdP (h : List Int) (s k : Int) : Int := if (s = 0 ∨ s = 1) ∧ 1 ≤ k ∧ k < 8 then hd_ h s k else 0
theorem handB_val (b h : List Int) (S s k : Int) (by_ sd' : List (List Int)) : board_Hand s k b h S by_ sd' = some (hdP h s k) := by
  unfold hdP
  by_cases hv : (s = 0 ∨ s = 1) ∧ 1 ≤ k ∧ k < 8
  · rw [if_pos hv, hand_val hv.1 hv.2.1 hv.2.2]
  · rw [if_neg hv]
    unfold board_Hand
    by_cases h0 : s = 0
    · rw [b_nne h0]
      by_cases h1 : k < 1
      · rw [b_lt h1]
      · rw [b_nlt h1, b_ge (by omega)]
    · rw [b_ne h0]
      by_cases h2 : s = 1
      · rw [b_nne h2]
        by_cases h1 : k < 1
        · rw [b_lt h1]
        · rw [b_nlt h1, b_ge (by omega)]
      · rw [b_ne h2]
theorem isE_false : isE (fun _ => false) = true := by decide
theorem fst_false : fst (fun _ => false) = -1 := by decide

end Go.Kk.Pl
