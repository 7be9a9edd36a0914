/-
  The laws DeedPieces and DeedHands, told plainly.
-/
import Derived.Test.YtjlgnglacdhflaaKkNew
namespace Go.Kk.Pl

theorem after_val {b : List Int} (hc : Clean b) (h : List Int) {s : Int} (hs : s = 0 ∨ s = 1) (f t d : Int) (p : Bool) :
    deed_After b h s f t d p = some (b, h, s, false) ∨ (CanP b h s f t d p ∧ deed_After b h s f t d p = some (mb b s f t d p, mh b h s t d, 1 - s, true)) := by
  obtain ⟨by_, sides, hn⟩ := gnew_val hc h s
  obtain ⟨c, _, hm⟩ := make_val hc h hs f t d p
  unfold deed_After
  rw [hn, ob_some]
  simp only
  rcases hm with ⟨_, hm⟩ | ⟨_, hP, hm⟩
  · refine .inl ?_
    rw [hm, ob_some, sw_inl]
  · obtain ⟨by', sides', hm⟩ := hm (kof b h s) 0 by_ sides 0 [] (by omega)
    refine .inr ⟨hP, ?_⟩
    rw [hm, ob_some, sw_inr]

/-! ### counts -/

def dl (x k : Int) : Int := if rw_ (kd x) = k then 1 else 0
theorem cnt_cons (x : Int) (l : List Int) (k : Int) : (cnt (x :: l) k : Int) = cnt l k + dl x k := by
  unfold cnt dl
  rw [List.countP_cons]
  by_cases h : rw_ (kd x) = k
  · simp [h]
  · have : (rw_ (kd x) == k) = false := by simpa using h
    simp [h]
theorem cnt_set (x k : Int) : ∀ (l : List Int) (i : Nat), i < l.length → (cnt (l.set i x) k : Int) + dl (l.getD i 0) k = cnt l k + dl x k := by
  intro l
  induction l with
  | nil => intro i hi; simp at hi
  | cons y l ih =>
    intro i hi
    cases i with
    | zero =>
      simp only [List.set_cons_zero, cnt_cons, List.getD_cons_zero]
      omega
    | succ i =>
      have := ih i (by simpa using hi)
      simp only [List.set_cons_succ, cnt_cons, List.getD_cons_succ]
      omega
theorem kd_or (x : Int) : kd (if kd x = 0 then 0 else x) = kd x := by
  split
  · rename_i h; rw [h]; exact kd_zero
  · rfl
theorem cnt_put {b : List Int} (hl : b.length = 81) {q : Int} (hq : 0 ≤ q ∧ q < 81) (x k : Int) : (cnt (put b q x) k : Int) + dl (at_ b q) k = cnt b k + dl x k := by
  unfold put at_
  rw [if_pos hq, if_pos hq]
  have := cnt_set (if kd x = 0 then 0 else x) k b q.toNat (by omega)
  have e : dl (if kd x = 0 then 0 else x) k = dl x k := by unfold dl; rw [kd_or]
  rw [e] at this
  exact this
theorem dl_zero {k : Int} (h : 1 ≤ k) : dl 0 k = 0 := by
  unfold dl
  rw [if_neg]
  rw [kd_zero]
  unfold rw_
  rw [if_pos (by omega)]
  omega

/-! ### hands -/

theorem wrap8 {n : Int} (h1 : -128 ≤ n) (h2 : n ≤ 127) : IntKind.wrap .i8 n = n := wrap_of_range h1 h2
theorem wrap8_range (n : Int) : -128 ≤ IntKind.wrap .i8 n ∧ IntKind.wrap .i8 n ≤ 127 := by
  simp [IntKind.wrap, IntKind.signed, IntKind.bits]
  omega
theorem hset_len (h : List Int) (s k d : Int) : (hset h s k d).length = h.length := by simp [hset]
theorem fits_hset {h : List Int} (hf : Fits8 h) (s k d : Int) : Fits8 (hset h s k d) := by
  intro i
  unfold hset
  by_cases e : s.toNat * 8 + k.toNat = i
  · by_cases hi : i < h.length
    · subst e
      rw [List.getD_eq_getElem?_getD, List.getElem?_set_self hi]
      exact wrap8_range _
    · rw [List.getD_eq_getElem?_getD, List.getElem?_eq_none (by simpa using hi)]
      simp
  · rw [List.getD_eq_getElem?_getD, List.getElem?_set_ne e, ← List.getD_eq_getElem?_getD]
    exact hf i
theorem hd_hset {h : List Int} (hl : h.length = 16) {s k : Int} (hs : s = 0 ∨ s = 1) (k0 : 0 ≤ k) (k1 : k < 8) (d : Int) {s' k' : Int} (hs' : s' = 0 ∨ s' = 1) (k0' : 0 ≤ k') (k1' : k' < 8) :
    hd_ (hset h s k d) s' k' = if s' = s ∧ k' = k then IntKind.wrap .i8 (hd_ h s k + d) else hd_ h s' k' := by
  by_cases e : s' = s ∧ k' = k
  · obtain ⟨rfl, rfl⟩ := e
    rw [if_pos ⟨rfl, rfl⟩]
    unfold hset
    rw [show hd_ (h.set (s'.toNat * 8 + k'.toNat) (IntKind.wrap .i8 (hd_ h s' k' + d))) s' k' = (h.set (s'.toNat * 8 + k'.toNat) (IntKind.wrap .i8 (hd_ h s' k' + d))).getD (s'.toNat * 8 + k'.toNat) 0 from rfl,
      List.getD_eq_getElem?_getD, List.getElem?_set_self (by rcases hs' with rfl | rfl <;> simp <;> omega)]
    rfl
  · rw [if_neg e]
    unfold hset hd_
    rw [List.getD_eq_getElem?_getD, List.getElem?_set_ne (by rcases hs with rfl | rfl <;> rcases hs' with rfl | rfl <;> simp <;> omega), ← List.getD_eq_getElem?_getD]

theorem fits_hd {h : List Int} (hf : Fits8 h) (s k : Int) : -128 ≤ hd_ h s k ∧ hd_ h s k ≤ 127 := hf _
theorem rw_small {k : Int} (h1 : 1 ≤ k) (h2 : k < 8) : rw_ k = k := by
  unfold rw_
  rw [if_neg (by omega), if_neg (by omega)]
theorem rw_up {k : Int} (h : up_ k ≠ 0) : rw_ (up_ k) = rw_ k := by
  unfold up_ at h ⊢
  split
  · unfold rw_
    rw [if_neg (by omega), if_pos (by omega), if_neg (by omega), if_neg (by omega)]
    omega
  · rename_i h2; rw [if_neg h2] at h; exact absurd rfl h

theorem pieces_same {b h : List Int} {s : Int} (hS : Sound b h s) (hf : Fits8 h) (hl : h.length = 16) {f t d : Int} {p : Bool} (hP : CanP b h s f t d p) {k : Int} (k0 : 1 ≤ k) (k1 : k < 8) :
    (cnt (mb b s f t d p) k : Int) + hd_ (mh b h s t d) 0 k + hd_ (mh b h s t d) 1 k = cnt b k + hd_ h 0 k + hd_ h 1 k := by
  have hsd := hS.side
  by_cases hd : d = 0
  · obtain ⟨f0, f1, f2, g1, g2, g3, g4⟩ := hP.move hd
    unfold mb mh
    rw [if_neg (by simpa using hd), if_neg (by simpa using hd)]
    have c1 := cnt_put hS.clean.len ⟨f0, f1⟩ 0 k
    have c2 := cnt_put (hS.clean.put f 0).len hP.to_ (laid b s f d p) k
    have e1 : at_ (put b f 0) t = at_ b t := by rw [at_put hS.clean.len ⟨f0, f1⟩, if_neg (Ne.symm f2)]
    rw [e1] at c2
    rw [dl_zero k0] at c1
    have e2 : dl (laid b s f d p) k = dl (at_ b f) k := by
      unfold laid
      rw [if_neg (by simpa using hd)]
      cases p with
      | false => rfl
      | true =>
        have hu := g4 rfl
        obtain ⟨u1, u2, u3⟩ := up_range hu
        rw [if_pos rfl]
        unfold dl
        rw [kd_of hsd u1 u2 u3, rw_up hu]
    rw [e2] at c2
    by_cases ht : at_ b t = 0
    · rw [if_pos ht]
      rw [ht, dl_zero k0] at c2
      omega
    · rw [if_neg ht]
      have hk := (hS.clean.at_ t).resolve_left ht
      obtain ⟨r1, r2⟩ := rw_range hk g3
      have hc := hS.counts _ r1 r2
      have h0 := hS.hands (rw_ (kd (at_ b t))) (by omega) r2
      rw [hd_hset hl hsd (by omega) r2 1 (.inl rfl) (by omega) k1, hd_hset hl hsd (by omega) r2 1 (.inr rfl) (by omega) k1]
      by_cases hkr : k = rw_ (kd (at_ b t))
      · have e3 : dl (at_ b t) k = 1 := by unfold dl; rw [if_pos hkr.symm]
        rw [e3] at c2
        rcases hsd with rfl | rfl
        · rw [if_pos ⟨rfl, hkr⟩, if_neg (by omega), wrap8 (by omega) (by omega), ← hkr]
          omega
        · rw [if_neg (by omega), if_pos ⟨rfl, hkr⟩, wrap8 (by omega) (by omega), ← hkr]
          omega
      · have e3 : dl (at_ b t) k = 0 := by unfold dl; rw [if_neg (Ne.symm hkr)]
        rw [e3] at c2
        rw [if_neg (fun h => hkr h.2), if_neg (fun h => hkr h.2)]
        omega
  · obtain ⟨d0, d1, d2, d3, g1, g2⟩ := hP.drop hd
    unfold mb mh
    rw [if_pos hd, if_pos hd]
    have c1 := cnt_put hS.clean.len hP.to_ (laid b s f d p) k
    have hl' : laid b s f d p = 16 * s + d := by unfold laid; rw [if_pos hd]
    rw [g2, dl_zero k0, hl'] at c1
    rw [hl']
    have hb := fits_hd hf s d
    rw [hd_hset hl hsd (by omega) d1 (-1) (.inl rfl) (by omega) k1, hd_hset hl hsd (by omega) d1 (-1) (.inr rfl) (by omega) k1]
    have e3 : dl (16 * s + d) k = if d = k then 1 else 0 := by
      unfold dl
      rw [kd_of hsd (by omega) (by omega) (by omega), rw_small (by omega) d1]
    rw [e3] at c1
    by_cases hkd : k = d
    · subst hkd
      rw [if_pos rfl] at c1
      rcases hsd with rfl | rfl
      · rw [if_pos ⟨rfl, rfl⟩, if_neg (by omega), wrap8 (by omega) (by omega)]
        omega
      · rw [if_neg (by omega), if_pos ⟨rfl, rfl⟩, wrap8 (by omega) (by omega)]
        omega
    · rw [if_neg (Ne.symm hkd)] at c1
      rw [if_neg (fun h => hkd h.2), if_neg (fun h => hkd h.2)]
      omega

theorem mb_clean {b : List Int} (hc : Clean b) (s f t d : Int) (p : Bool) : Clean (mb b s f t d p) := by
  unfold mb
  split
  · exact hc.put _ _
  · exact (hc.put _ _).put _ _
theorem mh_fits {h : List Int} (hf : Fits8 h) (b : List Int) (s t d : Int) : Fits8 (mh b h s t d) := by
  unfold mh
  split
  · exact fits_hset hf _ _ _
  · split
    · exact hf
    · exact fits_hset hf _ _ _
theorem mh_len {h : List Int} (hl : h.length = 16) (b : List Int) (s t d : Int) : (mh b h s t d).length = 16 := by
  unfold mh
  split
  · rw [hset_len]; exact hl
  · split
    · exact hl
    · rw [hset_len]; exact hl

theorem pieces_goes {b h b' h' : List Int} {s s' : Int} (hl : b.length = 81) (hl' : b'.length = 81) (hf : Fits8 h) (hf' : Fits8 h') (he : ∀ k : Int, 1 ≤ k → k < 8 → (cnt b' k : Int) + hd_ h' 0 k + hd_ h' 1 k = cnt b k + hd_ h 0 k + hd_ h 1 k) :
    ∀ (n i : Nat), i + n = 8 → 1 ≤ i → ∀ f, law09_DeedPiecesl10 (f + n + 1) i b h s b' h' s' = some (.inr (b, h, s, b', h', s')) := by
  intro n
  induction n with
  | zero =>
    intro i hi _ f
    show law09_DeedPiecesl10s (law09_DeedPiecesl10 (f + 0)) _ _ _ _ _ _ _ = _
    unfold law09_DeedPiecesl10s
    rw [br_false (by simp; omega)]
  | succ n ih =>
    intro i hi h1 f
    show law09_DeedPiecesl10s (law09_DeedPiecesl10 (f + n + 1)) _ _ _ _ _ _ _ = _
    unfold law09_DeedPiecesl10s
    rw [br_true (by simp; omega), count_val hl hf s i (by omega) (by omega), ob_some, count_val hl' hf' s' i (by omega) (by omega), ob_some, he i (by omega) (by omega), br_false (by simp), wrap_small (by omega) (by omega)]
    exact ih (i + 1) (by omega) (by omega) f

theorem deedPieces_true {b h : List Int} (hl : b.length = 81) (hf : Fits8 h) (hh : h.length = 16) (s f t d : Int) (p : Bool) : law09_DeedPieces b h s f t d p = some true := by
  unfold law09_DeedPieces
  rw [makes_true, ob_some, br_false (by rfl)]
  obtain ⟨b1, hc, h1⟩ := clean_val b h s hl
  rw [h1, ob_some]
  simp only
  obtain ⟨v, hv, hv0⟩ := check_val hc hf s
  rw [hv, ob_some]
  by_cases hz : v = 0
  · have hS := hv0 hz
    rw [br_false (by simpa using hz)]
    rcases after_val hc h hS.side f t d p with h2 | ⟨hP, h2⟩
    · rw [h2, ob_some]
      simp only
      rw [br_true (by rfl)]
      simp
    · rw [h2, ob_some]
      simp only
      rw [br_false (by rfl)]
      obtain ⟨g, hg⟩ := many_eq 7 (by omega)
      have h3 := pieces_goes (s := s) (s' := 1 - s) hc.len (mb_clean hc s f t d p).len hf (mh_fits hf b1 s t d) (fun k k0 k1 => pieces_same hS hf hh hP k0 k1) 7 1 (by omega) (by omega) g
      rw [← hg] at h3
      have h3 : law09_DeedPiecesl10 many 1 b1 h s (mb b1 s f t d p) (mh b1 h s t d) (1 - s) = some (.inr (b1, h, s, mb b1 s f t d p, mh b1 h s t d, 1 - s)) := h3
      rw [h3, ob_some, sw_inr]
      simp only
      rw [wrap8 (by have := hS.side; omega) (by have := hS.side; omega)]
      simp
  · rw [br_true (by simpa using hz)]

end Go.Kk.Pl
