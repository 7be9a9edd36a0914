/-
  A piece put and what stood there put again: the plain law of BoardBack.
-/
import Derived.Test.YtlcccogiaaalhaaDoorKkBLaw
namespace Go.Kk.Pl

theorem put_back {b : List Int} (hc : Clean b) (q x : Int) : put (put b q x) q (at_ b q) = b := by
  have hc2 := hc.put q x
  by_cases hq : 0 ≤ q ∧ q < 81
  · have e1 : ∀ (c : List Int) (y : Int), put c q y = c.set q.toNat (if kd y = 0 then 0 else y) := fun c y => by unfold put; rw [if_pos hq]
    have e2 : (if kd (at_ b q) = 0 then 0 else at_ b q) = b.getD q.toNat 0 := by
      unfold at_
      rw [if_pos hq]
      rcases hc.ok q.toNat (by omega) with h | h
      · rw [h]; rfl
      · rw [if_neg h]
    rw [e1, e1, e2, List.set_set]
    apply List.ext_getElem (by simp)
    intro j h1 h2
    rw [List.getElem_set]
    split
    · rename_i h; subst h; rw [← at_i h2]
    · rfl
  · have e1 : ∀ (c : List Int) (y : Int), put c q y = c := fun c y => by unfold put; rw [if_neg hq]
    rw [e1, e1]

theorem sides_or {b : List Int} (hc : Clean b) {i : Nat} (hi : i < 81) : (sdP b 0 i || sdP b 1 i) = tk b i := by
  unfold sdP sds tk
  rw [decide_eq_true (p := (0 : Int) = 0 ∨ (0 : Int) = 1) (.inl rfl), decide_eq_true (p := (1 : Int) = 0 ∨ (1 : Int) = 1) (.inr rfl), Bool.true_and, Bool.true_and, Bool.eq_iff_iff]
  simp only [Bool.or_eq_true, decide_eq_true_eq]
  rcases hc.ok i hi with h | h
  · rw [h]
    have : sd 0 = -1 := sd_zero
    omega
  · have := sd_range h
    have h2 : b.getD i 0 ≠ 0 := fun hh => by rw [hh] at h; exact h (by decide)
    exact ⟨fun _ => h2, fun _ => this⟩
theorem sides_and (b : List Int) : (fun i => sdP b 0 i && sdP b 1 i) = fun _ => false := by
  funext i
  unfold sdP sds
  rw [decide_eq_true (p := (0 : Int) = 0 ∨ (0 : Int) = 1) (.inl rfl), decide_eq_true (p := (1 : Int) = 0 ∨ (1 : Int) = 1) (.inr rfl), Bool.true_and, Bool.true_and, ← Bool.decide_and]
  exact decide_eq_false (by omega)

theorem boardBack_true {b : List Int} (h : List Int) (s q x : Int) (hl : b.length = 81) : law05_BoardBack b h s q x = some true := by
  have hc := cl_clean hl
  have hc2 := hc.put q x
  have hor := set_congr (f := fun i => sdP (put (cl b) q x) 0 i || sdP (put (cl b) q x) 1 i) (g := tk (put (cl b) q x)) fun i hi => sides_or hc2 hi
  unfold law05_BoardBack
  rw [begins_true, ob_some]
  simp only [Bool.not_true, b_f]
  rw [new_full hl, ob_some]
  simp only
  rw [takenB_val hc, ob_some]
  simp only
  rw [at_val, ob_some, put_full hc, ob_some]
  simp only
  rw [piecesB_val, ob_some]
  simp only
  rw [piecesB_val, ob_some]
  simp only
  rw [or_val, ob_some]
  simp only
  rw [takenB_val hc2, ob_some]
  simp only
  rw [hor.1, hor.2]
  simp only [beq_self_eq_true, Bool.and_self, Bool.not_true, b_f]
  rw [ob_some]
  simp only
  rw [ob_some]
  simp only
  rw [and_val, ob_some]
  simp only
  rw [sides_and, empty_val, ob_some, isE_false, Bool.not_true, b_f, put_full hc2, ob_some]
  simp only
  rw [put_back hc]
  simp only [beq_self_eq_true, Bool.and_self, b_t]
  rw [takenB_val hc, ob_some]
  simp only [beq_self_eq_true, Bool.and_self]

end Go.Kk.Pl
