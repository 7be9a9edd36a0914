/-
  The plain law of GenAll: the list's order, and that it is the document's.
-/
import Derived.Test.YtaoifdkheaagpaaDoorKkAllR
namespace Go.Kk.Pl

/-- The order of moves. -/
def lessM (m n : List Int) : Prop := m.getD 2 0 < n.getD 2 0 ∨ (m.getD 2 0 = n.getD 2 0 ∧ (m.getD 0 0 < n.getD 0 0 ∨ (m.getD 0 0 = n.getD 0 0 ∧ (m.getD 1 0 < n.getD 1 0 ∨ (m.getD 1 0 = n.getD 1 0 ∧ m.getD 3 0 = 0 ∧ n.getD 3 0 ≠ 0)))))
theorem hd0 (m : List Int) : List.headD (List.take 4 m) 0 = m.getD 0 0 := by cases m <;> rfl
theorem hd1 (m : List Int) : List.headD (List.tail (List.take 4 m)) 0 = m.getD 1 0 := by
  rcases m with _ | ⟨a, _ | ⟨b, m⟩⟩ <;> rfl
theorem hd2 (m : List Int) : List.headD (List.tail (List.tail (List.take 4 m))) 0 = m.getD 2 0 := by
  rcases m with _ | ⟨a, _ | ⟨b, _ | ⟨c, m⟩⟩⟩ <;> rfl
theorem hd3 (m : List Int) : List.headD (List.tail (List.tail (List.tail (List.take 4 m)))) 0 = m.getD 3 0 := by
  rcases m with _ | ⟨a, _ | ⟨b, _ | ⟨c, _ | ⟨d, m⟩⟩⟩⟩ <;> rfl
theorem less_true {m n : List Int} (h : lessM m n) : ref07_Less (m.getD 0 0) (m.getD 1 0) (m.getD 2 0) (m.getD 3 0 != 0) (n.getD 0 0) (n.getD 1 0) (n.getD 2 0) (n.getD 3 0 != 0) = some true := by
  unfold ref07_Less
  unfold lessM at h
  by_cases h2 : m.getD 2 0 = n.getD 2 0
  · rw [b_nne h2]
    by_cases h0 : m.getD 0 0 = n.getD 0 0
    · rw [b_nne h0]
      by_cases h1 : m.getD 1 0 = n.getD 1 0
      · obtain ⟨e1, e2⟩ : m.getD 3 0 = 0 ∧ n.getD 3 0 ≠ 0 := by omega
        rw [b_nne h1, show (m.getD 3 0 != 0) = false by simpa using e1, show (n.getD 3 0 != 0) = true by simpa using e2]
        rfl
      · rw [b_ne h1, decide_eq_true (by omega)]
    · rw [b_ne h0, decide_eq_true (by omega)]
  · rw [b_ne h2, decide_eq_true (by omega)]

theorem sorted_goes {L : List (List Int)} (hs : L.Pairwise lessM) (hl : L.length ≤ 1000000) (b h : List Int) (S : Int) (N : Nat) : ∀ (n i : Nat), (1 ≤ i ∧ i + n = L.length ∨ n = 0 ∧ L.length ≤ i) → ∀ F,
    law10_GenAlll7 (F + n + 1) L.length i b h S N L = some (.inr (L.length, b, h, S, N, L)) := by
  intro n
  induction n with
  | zero =>
    intro i hi F
    show law10_GenAlll7s (law10_GenAlll7 (F + 0)) _ _ _ _ _ _ _ = _
    unfold law10_GenAlll7s
    rw [b_nlt (by simp only [Int.ofNat_eq_natCast]; omega)]
  | succ n ih =>
    intro i hi F
    show law10_GenAlll7s (law10_GenAlll7 (F + n + 1)) _ _ _ _ _ _ _ = _
    unfold law10_GenAlll7s
    obtain ⟨hi1, hi2⟩ : 1 ≤ i ∧ i + (n + 1) = L.length := by omega
    have e : ((i : Int) - 1) = ((i - 1 : Nat) : Int) := by omega
    have g1 : L.getD (i - 1) [] = L[i - 1]'(by omega) := by rw [List.getD_eq_getElem?_getD, List.getElem?_eq_getElem (by omega)]; rfl
    have g2 : L.getD i [] = L[i]'(by omega) := by rw [List.getD_eq_getElem?_getD, List.getElem?_eq_getElem (by omega)]; rfl
    have hls : lessM (L[i - 1]'(by omega)) (L[i]'(by omega)) := List.pairwise_iff_getElem.1 hs (i - 1) i (by omega) (by omega) (by omega)
    rw [b_lt (by simp only [Int.ofNat_eq_natCast]; omega), w_s (n := (i : Int) - 1) (by omega) (by omega), b_in (by omega) (by omega), b_in (by omega) (by omega), e, tn, tn, g1, g2]
    simp only [hd0, hd1, hd2, hd3]
    rw [less_true hls, ob_some, Bool.not_true, b_f, w_s (by omega) (by omega)]
    exact ih (i + 1) (by omega) F

theorem same_goes (L : List (List Int)) (hl : L.length ≤ 1000000) (N M : Nat) : ∀ (n i : Nat), i + n = L.length → ∀ F,
    ref10_Samel4 (F + n + 1) L.length L.length i N L M L = some (.inr (N, L, M, L)) := by
  intro n
  induction n with
  | zero =>
    intro i hi F
    show ref10_Samel4s (ref10_Samel4 (F + 0)) _ _ _ _ _ _ _ = _
    unfold ref10_Samel4s
    rw [b_nlt (by simp only [Int.ofNat_eq_natCast]; omega)]
  | succ n ih =>
    intro i hi F
    show ref10_Samel4s (ref10_Samel4 (F + n + 1)) _ _ _ _ _ _ _ = _
    unfold ref10_Samel4s
    rw [b_lt (by simp only [Int.ofNat_eq_natCast]; omega), b_in (by omega) (by omega), b_in (by omega) (by omega)]
    simp only [beq_self_eq_true, Bool.and_self, Bool.not_true, b_f]
    rw [w_s (by omega) (by omega)]
    exact ih (i + 1) (by omega) F
theorem same_val (L : List (List Int)) (hl : L.length ≤ 1000000) (N M : Nat) : ref10_Same L.length L.length N L M L = some true := by
  unfold ref10_Same
  rw [b_nne rfl]
  obtain ⟨g, hg⟩ := many_eq L.length (by omega)
  have := same_goes L hl N M L.length 0 (by omega) g
  rw [← hg] at this
  rw [show ref10_Samel4 many L.length L.length 0 N L M L = _ from this, ob_some]
  rfl

/-! ### the list's order -/

theorem sq_sorted (f : Nat → Bool) : (sq f).Pairwise (· < ·) := by
  unfold sq
  rw [List.pairwise_map]
  have := (List.pairwise_lt_range (n := 81)).filter f
  exact this.imp fun h => by simp only [Int.ofNat_eq_natCast]; omega

theorem one2_mem {x f t : Int} {m : List Int} (h : m ∈ one2 x f t) : ∃ p : Int, m = [f, t, 0, p] := by
  unfold one2 at h
  rw [List.mem_append] at h
  rcases h with h | h
  · split at h
    · cases h
    · exact ⟨0, by simpa using h⟩
  · split at h
    · exact ⟨1, by simpa using h⟩
    · cases h
theorem one2_sorted (x f t : Int) : (one2 x f t).Pairwise lessM := by
  unfold one2
  split <;> split <;> simp [lessM]
theorem mvsF_mem {b : List Int} {S : Int} {G : Nat → Bool} {f : Int} {m : List Int} (h : m ∈ mvsF b S G f) : ∃ t p : Int, m = [f, t, 0, p] := by
  unfold mvsF at h
  obtain ⟨t, _, ht⟩ := List.mem_flatMap.1 h
  obtain ⟨p, hp⟩ := one2_mem ht
  exact ⟨t, p, hp⟩
theorem mvsF_sorted (b : List Int) (S : Int) (G : Nat → Bool) (f : Int) : (mvsF b S G f).Pairwise lessM := by
  unfold mvsF
  rw [List.pairwise_flatMap]
  refine ⟨fun t _ => one2_sorted _ _ _, (sq_sorted _).imp fun {t t'} hlt x hx y hy => ?_⟩
  have hlt : t < t' := hlt
  obtain ⟨p, rfl⟩ := one2_mem hx
  obtain ⟨q, rfl⟩ := one2_mem hy
  exact Or.inr ⟨rfl, Or.inr ⟨rfl, Or.inl hlt⟩⟩
theorem mvsB_mem {b : List Int} {S : Int} {G : Nat → Bool} {m : List Int} (h : m ∈ mvsB b S G) : ∃ f t p : Int, m = [f, t, 0, p] := by
  unfold mvsB at h
  obtain ⟨f, _, hf⟩ := List.mem_flatMap.1 h
  obtain ⟨t, p, hp⟩ := mvsF_mem hf
  exact ⟨f, t, p, hp⟩
theorem mvsB_sorted (b : List Int) (S : Int) (G : Nat → Bool) : (mvsB b S G).Pairwise lessM := by
  unfold mvsB
  rw [List.pairwise_flatMap]
  refine ⟨fun t _ => mvsF_sorted _ _ _ _, (sq_sorted _).imp fun {t t'} hlt x hx y hy => ?_⟩
  have hlt : t < t' := hlt
  obtain ⟨_, _, rfl⟩ := mvsF_mem hx
  obtain ⟨_, _, rfl⟩ := mvsF_mem hy
  exact Or.inr ⟨rfl, Or.inl hlt⟩
theorem mvsK_mem {b h : List Int} {S : Int} {G : Nat → Bool} {k : Nat} {m : List Int} (hm : m ∈ mvsK b h S G k) : ∃ t : Int, m = [0, t, (k : Int), 0] := by
  unfold mvsK at hm
  split at hm
  · cases hm
  · obtain ⟨t, _, ht⟩ := List.mem_map.1 hm
    exact ⟨t, ht.symm⟩
theorem mvsK_sorted (b h : List Int) (S : Int) (G : Nat → Bool) (k : Nat) : (mvsK b h S G k).Pairwise lessM := by
  unfold mvsK
  split
  · exact List.Pairwise.nil
  · rw [List.pairwise_map]
    refine (sq_sorted _).imp fun {t t'} hlt => ?_
    have hlt : t < t' := hlt
    exact Or.inr ⟨rfl, Or.inr ⟨rfl, Or.inl hlt⟩⟩
theorem mvsD_mem {b h : List Int} {S : Int} {G : Nat → Bool} {m : List Int} (hm : m ∈ mvsD b h S G) : ∃ (k : Nat) (t : Int), 1 ≤ k ∧ k ≤ 7 ∧ m = [0, t, (k : Int), 0] := by
  unfold mvsD at hm
  obtain ⟨k, hk, h2⟩ := List.mem_flatMap.1 hm
  rw [List.mem_range'_1] at hk
  obtain ⟨t, ht⟩ := mvsK_mem h2
  exact ⟨k, t, by omega, by omega, ht⟩
theorem mvsD_sorted (b h : List Int) (S : Int) (G : Nat → Bool) : (mvsD b h S G).Pairwise lessM := by
  unfold mvsD
  rw [List.pairwise_flatMap]
  refine ⟨fun t _ => mvsK_sorted _ _ _ _ _, (List.pairwise_lt_range' ..).imp fun {t t'} hlt x hx y hy => ?_⟩
  have hlt : t < t' := hlt
  obtain ⟨_, rfl⟩ := mvsK_mem hx
  obtain ⟨_, rfl⟩ := mvsK_mem hy
  simp only [lessM, List.getD_cons_zero, List.getD_cons_succ]
  omega
theorem mvs_sorted (b h : List Int) (S : Int) : (mvs b h S).Pairwise lessM := by
  unfold mvs
  rw [List.pairwise_append]
  refine ⟨mvsB_sorted _ _ _, mvsD_sorted _ _ _ _, fun x hx y hy => ?_⟩
  obtain ⟨_, _, _, rfl⟩ := mvsB_mem hx
  obtain ⟨k, _, h1, _, rfl⟩ := mvsD_mem hy
  simp only [lessM, List.getD_cons_zero, List.getD_cons_succ]
  omega
theorem mvs_len (b h : List Int) (S : Int) : (mvs b h S).length ≤ 20000 := by
  unfold mvs
  have h1 := mvsB_len b S fun _ => true
  have h2 := mvsD_len b h S fun _ => true
  rw [List.length_append]
  omega

theorem genAll_true {b h : List Int} (S : Int) (hl : b.length = 81) (hf : Fits8 h) : law10_GenAll b h S = some true := by
  unfold law10_GenAll
  rw [lists_true, ob_some]
  simp only [Bool.not_true, b_f]
  rw [refCheck_val hl hf, ob_some]
  by_cases hz : chkS b h S = 0
  · obtain ⟨hc, hS⟩ := chk_zero_clean hl hz
    have hlen := mvs_len b h S
    rw [b_nne hz, new_full hc.len, cl_id hc, ob_some]
    simp only
    rw [genAll_val hc, ob_some]
    simp only
    obtain ⟨g, hg⟩ := many_eq ((mvs b h S).length - 1) (by omega)
    have := sorted_goes (mvs_sorted b h S) (by omega) b h S (mvs b h S).length ((mvs b h S).length - 1) 1 (by omega) g
    rw [← hg] at this
    rw [show law10_GenAlll7 many (mvs b h S).length 1 b h S (mvs b h S).length (mvs b h S) = _ from this, ob_some]
    show (ob (ref10_All b h S) fun x => ob (ref10_Same (mvs b h S).length x.1 (mvs b h S).length (mvs b h S) x.2.1 x.2.2) fun a => some a) = some true
    rw [refAll_val b h hS, ob_some, ← mvs_eq hc h hS]
    show (ob (ref10_Same (mvs b h S).length (mvs b h S).length (mvs b h S).length (mvs b h S) (mvs b h S).length (mvs b h S)) fun a => some a) = some true
    rw [same_val _ (by omega), ob_some]
  · rw [b_ne hz]

end Go.Kk.Pl
