/-
  Games, plainly: a new one.
-/
import Derived.Test.YtjlgnglacdhflaaKkMake
namespace Go.Kk.Pl

theorem new_goes {b : List Int} (hc : Clean b) (h : List Int) (s : Int) : ∀ (n i : Nat), i + n = 81 → ∀ (B : List Int) (by_ sides : List (List Int)), Clean B → (∀ j, j < i → B.getD j 0 = b.getD j 0) →
    ∃ by' sides', ∀ f, board_Newl4 (f + n + 1) b i B h s by_ sides = some (b, h, s, by', sides') := by
  intro n
  induction n with
  | zero =>
    intro i hi B by_ sides hB hj
    have e : B = b := by
      refine List.ext_getElem (by rw [hB.len, hc.len]) fun j h1 h2 => ?_
      have := hj j (by have := hB.len; omega)
      rwa [List.getD_eq_getElem?_getD, List.getD_eq_getElem?_getD, List.getElem?_eq_getElem h1, List.getElem?_eq_getElem h2] at this
    subst e
    refine ⟨by_, sides, fun f => ?_⟩
    show board_Newl4s (board_Newl4 (f + 0)) _ _ _ _ _ _ _ = _
    unfold board_Newl4s
    rw [br_false (by simp; omega)]
  | succ n ih =>
    intro i hi B by_ sides hB hj
    have hz : Int.toNat (i : Int) = i := by simp
    obtain ⟨by1, sides1, p1⟩ := put_val hB i (b.getD i 0) h s by_ sides
    obtain ⟨by', sides', h2⟩ := ih (i + 1) (by omega) (put B i (b.getD i 0)) by1 sides1 (hB.put _ _) (by
      intro j hji
      unfold put
      rw [if_pos (by omega), hz]
      by_cases e : i = j
      · subst e
        rw [List.getD_eq_getElem?_getD, List.getElem?_set_self (by rw [hB.len]; omega), Option.getD_some]
        split
        · rename_i hk
          rcases hc.ok i (by omega) with h0 | h0
          · exact h0.symm
          · exact absurd hk h0
        · rfl
      · rw [List.getD_eq_getElem?_getD, List.getElem?_set_ne e, ← List.getD_eq_getElem?_getD]
        exact hj j (by omega))
    refine ⟨by', sides', fun f => ?_⟩
    show board_Newl4s (board_Newl4 (f + n + 1)) _ _ _ _ _ _ _ = _
    unfold board_Newl4s
    simp only [cond_true, hz]
    rw [br_true (by simp; omega), br_true (inB_true (by omega) (by omega)), p1, ob_some]
    simp only
    rw [wrap_small (by omega) (by omega)]
    exact h2 f

theorem clean_zero : Clean (List.replicate 81 0) := ⟨by simp, fun i hi => .inl (by rw [List.getD_eq_getElem?_getD, List.getElem?_replicate, if_pos hi]; rfl)⟩

theorem bnew_val {b : List Int} (hc : Clean b) (h : List Int) (s : Int) : ∃ by_ sides, board_New b h s = some (b, h, s, by_, sides) := by
  obtain ⟨g, hg⟩ := many_eq 81 (by omega)
  obtain ⟨by', sides', h1⟩ := new_goes hc h s 81 0 (by omega) (List.replicate 81 0) (List.replicate 32 [0, 0]) [[0, 0], [0, 0]] clean_zero (fun j hj => by omega)
  have h1 := h1 g
  rw [← hg] at h1
  have h1 : board_Newl4 many b 0 (List.replicate 81 0) h s (List.replicate 32 [0, 0]) [[0, 0], [0, 0]] = some (b, h, s, by', sides') := h1
  refine ⟨by', sides', ?_⟩
  unfold board_New
  show ob (board_Newl4 many b 0 (List.replicate 81 0) h s (List.replicate 32 [0, 0]) [[0, 0], [0, 0]]) _ = _
  rw [h1, ob_some]

def kof (b h : List Int) (s : Int) : Int := (key_Of b h s).getD 0
theorem kof_val (b h : List Int) (s : Int) : key_Of b h s = some (kof b h s) := by
  obtain ⟨k, hk, _⟩ := key_val b h s
  unfold kof; rw [hk]; rfl

theorem gnew_val {b : List Int} (hc : Clean b) (h : List Int) (s : Int) : ∃ by_ sides, deed_New b h s = some (kof b h s, 0, b, h, s, by_, sides, 0, []) := by
  obtain ⟨by_, sides, h1⟩ := bnew_val hc h s
  refine ⟨by_, sides, ?_⟩
  unfold deed_New
  rw [h1, ob_some]
  simp only
  rw [kof_val, ob_some]

theorem makes_true : law09_makes = some true := by kernel_rfl

end Go.Kk.Pl
