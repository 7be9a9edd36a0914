/-
  The law DeedHands, told plainly.
-/
import Derived.Test.YtjlgnglacdhflaaKkPieces
namespace Go.Kk.Pl

theorem sd_of {s k : Int} (hs : s = 0 ∨ s = 1) (h1 : 1 ≤ k) (h2 : k ≤ 15) (h3 : k ≠ 13) : sd (16 * s + k) = s := by
  unfold sd
  rw [kd_of hs h1 h2 h3, if_neg (by omega)]
  rcases hs with rfl | rfl
  · rw [if_pos (by omega)]
  · rw [if_neg (by omega)]
theorem owner {x s : Int} (hk : kd x ≠ 0) (hs : sd x = s) : (IntKind.wrap .i64 (Int.tdiv (conv .i8 .i64 x) 16) == s) = true := by
  obtain ⟨h1, h2⟩ := kd_range hk
  have e : conv .i8 .i64 x = x := rfl
  rw [e, Int.tdiv_eq_ediv_of_nonneg (by omega), wrap_small (by omega) (by omega)]
  unfold sd at hs
  rw [if_neg hk] at hs
  split at hs <;> simp <;> omega

theorem laid_ok {b h : List Int} {s f t d : Int} {p : Bool} (hc : Clean b) (hs : s = 0 ∨ s = 1) (hP : CanP b h s f t d p) : kd (laid b s f d p) ≠ 0 ∧ sd (laid b s f d p) = s := by
  unfold laid
  by_cases hd : d = 0
  · obtain ⟨f0, f1, f2, g1, g2, g3, g4⟩ := hP.move hd
    rw [if_neg (by simpa using hd)]
    cases p with
    | false =>
      rw [if_neg (by simp)]
      refine ⟨fun h0 => ?_, g1⟩
      unfold sd at g1
      rw [if_pos h0] at g1
      omega
    | true =>
      obtain ⟨u1, u2, u3⟩ := up_range (g4 rfl)
      rw [if_pos rfl, kd_of hs u1 u2 u3]
      exact ⟨by omega, sd_of hs u1 u2 u3⟩
  · obtain ⟨d0, d1, d2, d3, g1, g2⟩ := hP.drop hd
    rw [if_pos hd, kd_of hs (by omega) (by omega) (by omega)]
    exact ⟨by omega, sd_of hs (by omega) (by omega) (by omega)⟩

theorem mb_at {b h : List Int} {s f t d : Int} {p : Bool} (hc : Clean b) (hs : s = 0 ∨ s = 1) (hP : CanP b h s f t d p) : (mb b s f t d p).getD t.toNat 0 = laid b s f d p := by
  have hk := (laid_ok hc hs hP).1
  have e : at_ (mb b s f t d p) t = (mb b s f t d p).getD t.toNat 0 := by unfold at_; rw [if_pos hP.to_]
  rw [← e]
  unfold mb
  split
  · rw [at_put hc.len hP.to_, if_pos rfl, if_neg hk]
  · rw [at_put (hc.put f 0).len hP.to_, if_pos rfl, if_neg hk]

theorem deedHands_true {b h : List Int} (hl : b.length = 81) (hf : Fits8 h) (s f t d : Int) (p : Bool) : law09_DeedHands b h s f t d p = some true := by
  unfold law09_DeedHands
  rw [makes_true, ob_some, br_false (by rfl)]
  obtain ⟨b1, hc, h1⟩ := clean_val b h s hl
  rw [h1, ob_some]
  simp only
  obtain ⟨v, hv, hv0⟩ := check_val hc hf s
  rw [hv, ob_some]
  by_cases hz : v = 0
  · have hS := hv0 hz
    rw [br_false (by simpa using hz)]
    rcases after_val hc h hS.side f t d p with h2 | ⟨hP, h2⟩
    · rw [h2, ob_some]
      simp only
      rw [br_true (by rfl)]
    · rw [h2, ob_some]
      simp only
      rw [br_false (by rfl)]
      have hs2 : inB s 2 = true := inB_true (by have := hS.side; omega) (by have := hS.side; omega)
      have ht81 : inB t 81 = true := inB_true hP.to_.1 hP.to_.2
      obtain ⟨lk, ls⟩ := laid_ok hc hS.side hP
      have own := owner lk ls
      simp only [br_true hs2, br_true ht81, mb_at hc hS.side hP, own]
      by_cases hd : d = 0
      · obtain ⟨f0, f1, f2, g1, g2, g3, g4⟩ := hP.move hd
        have e : at_ b1 t = b1.getD t.toNat 0 := by unfold at_; rw [if_pos hP.to_]
        have ec : conv .i8 .i64 (b1.getD t.toNat 0) = at_ b1 t := by rw [e]; rfl
        rw [br_false (by simpa using hd), ec]
        by_cases h0 : at_ b1 t = 0
        · rw [br_false (by simpa using h0)]
          have : mh b1 h s t d = h := by unfold mh; rw [if_neg (by simpa using hd), if_pos h0]
          rw [this, br_true (by simp)]
        · have hk := (hc.at_ t).resolve_left h0
          obtain ⟨x1, x2⟩ := kd_range hk
          have em : Int.tmod (at_ b1 t) 16 = kd (at_ b1 t) := by
            rw [Int.tmod_eq_emod_of_nonneg (by omega)]
            unfold kd at hk ⊢
            split at hk
            · exact absurd rfl hk
            · rename_i hn; rw [if_neg hn]
          obtain ⟨k1, k2, k3⟩ := kd_bounds (at_ b1 t)
          have emh : mh b1 h s t d = hset h s (rw_ (kd (at_ b1 t))) 1 := by unfold mh; rw [if_neg (by simpa using hd), if_neg h0]
          rw [br_true (by simpa using h0), em, emh]
          by_cases h8 : kd (at_ b1 t) > 8
          · have er : rw_ (kd (at_ b1 t)) = kd (at_ b1 t) - 8 := by unfold rw_; rw [if_neg (by omega), if_pos (by omega)]
            rw [br_true (by simpa using h8), wrap_small (by omega) (by omega), er]
            have hin : inB (kd (at_ b1 t) - 8) 8 = true := inB_true (by omega) (by omega)
            rw [br_true hin, br_true hin]
            refine br_true ?_
            unfold hset hd_
            simp
          · have er : rw_ (kd (at_ b1 t)) = kd (at_ b1 t) := by unfold rw_; rw [if_neg (by omega), if_neg (by omega)]
            rw [br_false (by simpa using h8), er]
            have hin : inB (kd (at_ b1 t)) 8 = true := inB_true (by omega) (by omega)
            rw [br_true hin, br_true hin]
            refine br_true ?_
            unfold hset hd_
            simp
      · obtain ⟨d0, d1, d2, d3, g1, g2⟩ := hP.drop hd
        have hd8 : inB d 8 = true := inB_true (by omega) (by omega)
        have emh : mh b1 h s t d = hset h s d (-1) := by unfold mh; rw [if_pos hd]
        rw [br_true (by simpa using hd), br_true hd8, br_true hd8, emh]
        refine br_true ?_
        unfold hset hd_
        rw [Int.sub_eq_add_neg]
        simp
  · rw [br_true (by simpa using hz)]

end Go.Kk.Pl
