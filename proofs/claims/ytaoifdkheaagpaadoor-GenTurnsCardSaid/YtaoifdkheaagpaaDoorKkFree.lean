/-
  Where a side may drop a kind: the plain law of GenFree.
-/
import Derived.Test.YtaoifdkheaagpaaDoorKkMov
import Derived.Test.YtaoifdkheaagpaaDoorKkAttLaw
namespace Go.Kk.Pl

theorem rcleanl_eq : ∀ (n : Nat), ref09_Cleanl2 n = law08_cleanl2 n := by
  intro n
  induction n with
  | zero => rfl
  | succ n ih =>
    show (fun x0 x1 x2 x3 x4 x5 x6 => ref09_Cleanl2s (ref09_Cleanl2 n) x0 x1 x2 x3 x4 x5 x6) = _
    rw [ih]; rfl
theorem rclean_val {b : List Int} (hl : b.length = 81) (h : List Int) (s : Int) : ref09_Clean b h s = some (cl b, h, s) := by
  rw [← aclean_val hl]
  unfold ref09_Clean law08_clean
  rw [rcleanl_eq]

theorem drop_mov {b h : List Int} (s k : Int) (hs : s = 0 ∨ s = 1) (hk : 1 ≤ k ∧ k ≤ 7) (hh : h.length = 16) {i : Nat} (hi : i < 81) :
    movS b (h.set (s.toNat * 8 + k.toNat) 1) s 0 i k false = freS b s k i := by
  have e : hd_ (h.set (s.toNat * 8 + k.toNat) 1) s k = 1 := by
    unfold hd_
    rw [List.getD_eq_getElem?_getD, List.getElem?_set_self (by omega)]; rfl
  have e2 : chkM 0 (i : Int) k false = 0 := by
    unfold chkM
    rw [if_neg (by omega), if_pos (by omega), if_pos ⟨hk.1, hk.2, rfl, rfl⟩]
  unfold movS canS freS fre1
  rw [e, e2, pc_ok hs hk.1 (by omega) (by omega), pc_ok hs (by omega) (by omega) (by omega), if_pos (by omega), if_pos (by omega), decide_eq_true (p := s = 0 ∨ s = 1) hs, decide_eq_true (p := (s = 0 ∨ s = 1) ∧ 1 ≤ k ∧ k ≤ 7) ⟨hs, hk⟩, deadI_nat _ hi, at_in (by omega), tn]
  unfold tk
  by_cases h1 : k = 1
  · subst h1
    by_cases h0 : b.getD i 0 = 0 <;> simp [h0]
  · by_cases h0 : b.getD i 0 = 0 <;> simp [h0, h1]

theorem free_lawl {b h : List Int} (s k : Int) (hs : s = 0 ∨ s = 1) (hk : 1 ≤ k ∧ k ≤ 7) (hh : h.length = 16) : ∀ (n i : Nat), i + n = 81 → ∀ F,
    law10_GenFreel10 (F + n + 1) k i b (h.set (s.toNat * 8 + k.toNat) 1) s (sLo (freS b s k)) (sHi (freS b s k)) = some (.inr ()) := by
  intro n
  induction n with
  | zero =>
    intro i hi F
    show law10_GenFreel10s (law10_GenFreel10 (F + 0)) _ _ _ _ _ _ _ = _
    unfold law10_GenFreel10s
    rw [b_nlt (by omega)]
  | succ n ih =>
    intro i hi F
    show law10_GenFreel10s (law10_GenFreel10 (F + n + 1)) _ _ _ _ _ _ _ = _
    unfold law10_GenFreel10s
    have := ih (i + 1) (by omega) F
    rw [b_lt (by omega), has_val, ob_some, refMoves_val, ob_some, drop_mov s k hs hk hh (by omega)]
    unfold has
    rw [decide_eq_true (p := (0 : Int) ≤ i) (by omega), decide_eq_true (p := (i : Int) < 81) (by omega), tn, Bool.true_and, Bool.true_and]
    rw [beq_self_eq_true, Bool.not_true, b_f, w_s (by omega) (by omega)]
    exact this

theorem genFree_true {b h : List Int} (S s k : Int) (hl : b.length = 81) (hh : h.length = 16) : law10_GenFree b h S s k = some true := by
  have hc := cl_clean hl
  have none : ¬ ((s = 0 ∨ s = 1) ∧ 1 ≤ k ∧ k ≤ 7) → freS (cl b) s k = fun _ => false := by
    intro hn; funext c; unfold freS; rw [decide_eq_false hn, Bool.false_and]
  have emp : ¬ ((s = 0 ∨ s = 1) ∧ 1 ≤ k ∧ k ≤ 7) → isE (freS (cl b) s k) = true := by
    intro hn; rw [none hn, isE_false]
  unfold law10_GenFree
  rw [lists_true, ob_some]
  simp only [Bool.not_true, b_f]
  rw [rclean_val hl, ob_some]
  simp only
  rw [new_full hc.len, cl_id hc, ob_some]
  simp only
  rw [freeB_val hc, ob_some]
  simp only
  rw [empty_val, ob_some]
  by_cases h1 : s < 0
  · rw [b_lt h1, emp (by omega)]
  rw [b_nlt h1]
  by_cases h2 : s > 1
  · rw [b_gt h2, emp (by omega)]
  rw [b_ngt h2]
  by_cases h3 : k < 1
  · rw [b_lt h3, emp (by omega)]
  rw [b_nlt h3]
  by_cases h4 : k > 7
  · rw [b_gt h4, emp (by omega)]
  rw [b_ngt h4, b_in (by omega) (by omega), b_in (by omega) (by omega)]
  have hs : s = 0 ∨ s = 1 := by omega
  have e : conv IntKind.i64 IntKind.i8 s = s := by rcases hs with rfl | rfl <;> rfl
  obtain ⟨g, hg⟩ := many_eq 81 (by omega)
  have := free_lawl (b := cl b) s k hs (by omega) hh 81 0 (by omega) g
  rw [← hg] at this
  rw [e, show law10_GenFreel10 many k 0 (cl b) (h.set (s.toNat * 8 + k.toNat) 1) s (sLo (freS (cl b) s k)) (sHi (freS (cl b) s k)) = _ from this, ob_some]
  rfl

end Go.Kk.Pl
