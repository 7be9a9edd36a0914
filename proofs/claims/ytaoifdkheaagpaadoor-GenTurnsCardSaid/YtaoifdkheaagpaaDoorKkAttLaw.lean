/-
  The laws AttackChecks and AttackAll, told plainly.
-/
import Derived.Test.YtaoifdkheaagpaaDoorKkAtt
namespace Go.Kk.Pl

theorem aclean_goes (b h h2 b2 : List Int) (s s2 : Int) (hl : b.length = 81) : ∀ (n i : Nat), i + n = 81 → ∀ (B : List Int), B.length = 81 → (∀ j, B.getD j 0 = if j < i then cl1 (b.getD j 0) else b.getD j 0) → ∀ F,
    law08_cleanl2 (F + n + 1) i B h s b2 h2 s2 = some (cl b, h, s, b2, h2, s2) := by
  intro n
  induction n with
  | zero =>
    intro i hi B hB hj F
    show law08_cleanl2s (law08_cleanl2 (F + 0)) _ _ _ _ _ _ _ = _
    unfold law08_cleanl2s
    have : B = cl b := by
      apply List.ext_getElem
      · rw [hB, cl_len, hl]
      · intro j h1 h2
        have := hj j
        rw [if_pos (by omega), ← cl_getD, List.getD_eq_getElem?_getD, List.getElem?_eq_getElem h1, List.getD_eq_getElem?_getD, List.getElem?_eq_getElem h2] at this
        exact this
    rw [b_nlt (by omega), this]
  | succ n ih =>
    intro i hi B hB hj F
    show law08_cleanl2s (law08_cleanl2 (F + n + 1)) _ _ _ _ _ _ _ = _
    unfold law08_cleanl2s
    have hbi := hj i
    rw [if_neg (by omega)] at hbi
    rw [b_lt (by omega), b_in (by omega) (by omega), tn, c_8, refKind_val, ob_some, w_s (by omega) (by omega)]
    by_cases hk : kd (B.getD i 0) = 0
    · rw [b_eq hk, b_in (by omega) (by omega)]
      refine ih (i + 1) (by omega) _ (by simpa using hB) (fun j => ?_) F
      rw [getD_set (by omega)]
      by_cases hji : j = i
      · subst hji
        rw [if_pos rfl, if_pos (by omega)]
        rw [hbi] at hk
        unfold cl1; rw [if_pos hk]
      · rw [if_neg hji, hj j]
        by_cases h1 : j < i
        · rw [if_pos h1, if_pos (by omega)]
        · rw [if_neg h1, if_neg (by omega)]
    · rw [b_neq hk]
      refine ih (i + 1) (by omega) _ hB (fun j => ?_) F
      rw [hj j]
      by_cases hji : j = i
      · subst hji
        rw [if_neg (by omega), if_pos (by omega)]
        rw [hbi] at hk
        unfold cl1; rw [if_neg hk]
      · by_cases h1 : j < i
        · rw [if_pos h1, if_pos (by omega)]
        · rw [if_neg h1, if_neg (by omega)]
theorem aclean_val {b : List Int} (hl : b.length = 81) (h : List Int) (s : Int) : law08_clean b h s = some (cl b, h, s) := by
  obtain ⟨g, hg⟩ := many_eq 81 (by omega)
  have := aclean_goes b h (List.replicate 16 0) (List.replicate 81 0) s 0 hl 81 0 (by omega) b hl (fun j => by rw [if_neg (by omega)]) g
  rw [← hg] at this
  unfold law08_clean
  show ob (law08_cleanl2 many 0 b h s (List.replicate 81 0) (List.replicate 16 0) 0) _ = _
  rw [show law08_cleanl2 many 0 b h s (List.replicate 81 0) (List.replicate 16 0) 0 = _ from this, ob_some]

theorem attacks_true : law08_attacks = some true := by kernel_rfl

theorem checks_goes {b : List Int} (hc : Clean b) (h : List Int) (S : Int) : ∀ (n i : Nat), i + n = 2 → ∀ F, law08_AttackChecksl8 (F + n + 1) i b h S b h S (byOf b) (sidesOf b) = some (.inr ()) := by
  intro n
  induction n with
  | zero =>
    intro i hi F
    show law08_AttackChecksl8s (law08_AttackChecksl8 (F + 0)) _ _ _ _ _ _ _ _ _ = _
    unfold law08_AttackChecksl8s
    rw [b_nlt (by omega)]
  | succ n ih =>
    intro i hi F
    show law08_AttackChecksl8s (law08_AttackChecksl8 (F + n + 1)) _ _ _ _ _ _ _ _ _ = _
    unfold law08_AttackChecksl8s
    have hr := ih (i + 1) (by omega) F
    have hs : ((i : Int) = 0 ∨ (i : Int) = 1) := by omega
    rw [b_lt (by omega), inCheck_val hc h S (by omega), ob_some, rinCheck_val b h S hs, ob_some]
    simp only [beq_self_eq_true, Bool.not_true, b_f]
    rw [checkers_val hc h S (by omega), ob_some]
    simp only
    rw [rking_val b h S hs, ob_some, taken_val, ob_some, w_s (n := 1 - (i : Int)) (by omega) (by omega), ron_val b h S _ (by omega), ob_some]
    simp only
    rw [of_sq, ob_some]
    simp only [chs, beq_self_eq_true, Bool.and_self, Bool.not_true, b_f]
    rw [w_s (by omega) (by omega)]
    exact hr

theorem attackChecks_true {b h : List Int} (hl : b.length = 81) (hf : Fits8 h) (s : Int) : law08_AttackChecks b h s = some true := by
  have hc := cl_clean hl
  unfold law08_AttackChecks
  rw [attacks_true, ob_some]
  simp only [Bool.not_true, b_f]
  rw [attackCheck_val hl hf, ob_some, rattackCheck_val hl hf, ob_some, b_nne rfl, aclean_val hl, ob_some]
  simp only
  rw [new_full hc.len, cl_id hc, ob_some]
  simp only
  obtain ⟨g, hg⟩ := many_eq 2 (by omega)
  have := checks_goes hc h s 2 0 (by omega) g
  rw [← hg] at this
  rw [show law08_AttackChecksl8 many 0 (cl b) h s (cl b) h s (byOf (cl b)) (sidesOf (cl b)) = _ from this, ob_some]
  rfl

/-! ### all squares that are attacked -/

/-- Some squares' ways. -/
def goF (b : List Int) (L : List Int) (c : Nat) : Bool := L.any fun q => rch (b.getD q.toNat 0) q.toNat c (tk b)
theorem goAll_goes {b : List Int} (hc : Clean b) (h : List Int) (S : Int) (L : List Int) (hL : ∀ q ∈ L, 0 ≤ q ∧ q < 81) (hl : L.length ≤ 1000) (N : Nat) (u v : Int) : ∀ (n i : Nat), i + n = L.length → ∀ (f : Nat → Bool) (F : Nat),
    attack_Alll3 (F + n + 1) L.length L.length i b h S (byOf b) (sidesOf b) u v (sLo f) (sHi f) N L = some (b, h, S, byOf b, sidesOf b, u, v, sLo fun c => f c || goF b (L.drop i) c, sHi fun c => f c || goF b (L.drop i) c) := by
  intro n
  induction n with
  | zero =>
    intro i hi f F
    show attack_Alll3s (attack_Alll3 (F + 0)) _ _ _ _ _ _ _ _ _ _ _ _ _ _ = _
    unfold attack_Alll3s
    rw [b_nlt (by omega), List.drop_eq_nil_of_le (by omega)]
    have : (fun c => f c || goF b [] c) = f := by funext c; simp [goF]
    rw [this]
  | succ n ih =>
    intro i hi f F
    show attack_Alll3s (attack_Alll3 (F + n + 1)) _ _ _ _ _ _ _ _ _ _ _ _ _ _ = _
    unfold attack_Alll3s
    have hil : i < L.length := by omega
    obtain ⟨q0, q1⟩ := hL L[i] (List.getElem_mem hil)
    have hget : L.getD i 0 = L[i] := at_i hil
    obtain ⟨q, hq⟩ : ∃ q : Nat, L[i] = q := ⟨L[i].toNat, by omega⟩
    rw [b_lt (by omega), b_in (by omega) (by omega), tn, hget, at_val, ob_some, takenB_val hc, ob_some]
    simp only
    have hat : at_ b L[i] = b.getD q 0 := by unfold at_; rw [if_pos ⟨q0, q1⟩, hq, tn]
    rw [hat, hq, rayOf_val _ (by omega), ob_some]
    simp only
    rw [or_val, ob_some]
    simp only
    rw [w_s (by omega) (by omega)]
    refine (ih (i + 1) (by omega) _ F).trans ?_
    have hd : L.drop i = L[i] :: L.drop (i + 1) := List.drop_eq_getElem_cons hil
    have : (fun c => (f c || rch (b.getD q 0) q c (tk b)) || goF b (L.drop (i + 1)) c) = fun c => f c || goF b (L.drop i) c := by
      funext c
      rw [hd]
      unfold goF
      rw [List.any_cons, hq, tn, Bool.or_assoc]
    rw [this]
theorem sq_mem {f : Nat → Bool} {q : Int} (h : q ∈ sq f) : 0 ≤ q ∧ q < 81 ∧ f q.toNat = true := by
  unfold sq at h
  obtain ⟨j, hj, rfl⟩ := List.mem_map.1 h
  obtain ⟨h1, h2⟩ := List.mem_filter.1 hj
  rw [List.mem_range] at h1
  refine ⟨by simp, by simp only [Int.ofNat_eq_natCast]; omega, by simpa using h2⟩
theorem mem_sq {f : Nat → Bool} {q : Nat} (hq : q < 81) (h : f q = true) : (q : Int) ∈ sq f := by
  unfold sq
  exact List.mem_map.2 ⟨q, List.mem_filter.2 ⟨by simpa using hq, h⟩, rfl⟩
/-- The squares that a side's pieces attack. -/
def allS (b : List Int) (s : Int) : Nat → Bool := goF b (sq (sdP b s))
theorem all_full {b : List Int} (hc : Clean b) (h : List Int) (S s : Int) : attack_All s b h S (byOf b) (sidesOf b) = some (sLo (allS b s), sHi (allS b s)) := by
  unfold attack_All
  rw [piecesB_val, ob_some]
  simp only
  rw [squares_val, ob_some]
  simp only
  have hlen := sq_len (sdP b s)
  obtain ⟨g, hg⟩ := many_eq (sq (sdP b s)).length (by omega)
  have := goAll_goes hc h S (sq (sdP b s)) (fun q hq => ⟨(sq_mem hq).1, (sq_mem hq).2.1⟩) (by omega) (sq (sdP b s)).length 0 0 (sq (sdP b s)).length 0 (by omega) (fun _ => false) g
  rw [← hg, sLo_false, sHi_false] at this
  rw [show attack_Alll3 many (sq (sdP b s)).length (Int.ofNat (sq (sdP b s)).length) 0 b h S (byOf b) (sidesOf b) 0 0 0 0 (sq (sdP b s)).length (sq (sdP b s)) = _ from this, ob_some]
  simp only [Bool.false_or, List.drop_zero]
  rfl
theorem allS_iff {b : List Int} {s : Int} (hs : s = 0 ∨ s = 1) {c : Nat} (hc : c < 81) : allS b s c = true ↔ ∃ q, q < 81 ∧ onS b c s (tk b) q = true := by
  unfold allS goF
  rw [List.any_eq_true]
  have hon : ∀ q, onS b c s (tk b) q = (decide (sd (b.getD q 0) = s) && rch (b.getD q 0) q c (tk b)) := fun q => by
    unfold onS
    rw [decide_eq_true (show (0 : Int) ≤ c ∧ (c : Int) < 81 by omega), decide_eq_true hs, Bool.true_and, Bool.true_and, tn]
  constructor
  · rintro ⟨q, hq, hr⟩
    obtain ⟨h1, h2, h3⟩ := sq_mem hq
    refine ⟨q.toNat, by omega, ?_⟩
    unfold sdP sds at h3
    simp only [Bool.and_eq_true, decide_eq_true_eq] at h3
    rw [hon, decide_eq_true h3.2, Bool.true_and]
    exact hr
  · rintro ⟨q, hq, hr⟩
    rw [hon, Bool.and_eq_true, decide_eq_true_eq] at hr
    refine ⟨q, mem_sq hq ?_, by simpa using hr.2⟩
    unfold sdP sds
    rw [decide_eq_true hs, decide_eq_true hr.1]; rfl

theorem sq_pos (f : Nat → Bool) : decide (Int.ofNat (sq f).length > 0) = !isE f := by
  rw [Bool.eq_iff_iff]
  simp only [decide_eq_true_eq, Bool.not_eq_true', gt_iff_lt, Int.ofNat_eq_natCast]
  constructor
  · intro h
    cases hq : sq f with
    | nil => rw [hq] at h; simp at h
    | cons q L =>
      obtain ⟨h1, h2, h3⟩ := sq_mem (f := f) (q := q) (by rw [hq]; simp)
      cases he : isE f with
      | false => rfl
      | true =>
        have := isE_iff.1 he q.toNat (by omega)
        rw [this] at h3; cases h3
  · intro h
    cases hq : sq f with
    | cons q L => simp
    | nil =>
      have : isE f = true := isE_iff.2 fun i hi => by
        cases hf : f i with
        | false => rfl
        | true => have := mem_sq hi hf; rw [hq] at this; cases this
      rw [this] at h; cases h

theorem attAll_goes {b : List Int} (h : List Int) (S s : Int) (hs : s = 0 ∨ s = 1) : ∀ (n i : Nat), i + n = 81 → ∀ F, law08_AttackAlll9 (F + n + 1) s i b h S (sLo (allS b s)) (sHi (allS b s)) (takenL b) = some (.inr ()) := by
  intro n
  induction n with
  | zero =>
    intro i hi F
    show law08_AttackAlll9s (law08_AttackAlll9 (F + 0)) _ _ _ _ _ _ _ _ = _
    unfold law08_AttackAlll9s
    rw [b_nlt (by omega)]
  | succ n ih =>
    intro i hi F
    show law08_AttackAlll9s (law08_AttackAlll9 (F + n + 1)) _ _ _ _ _ _ _ _ = _
    unfold law08_AttackAlll9s
    have hr := ih (i + 1) (by omega) F
    rw [b_lt (by omega), has_val, ob_some, ron_val b h S s hs, ob_some]
    simp only
    have e : has (allS b s) i = decide (Int.ofNat (sq (onS b i s (tk b))).length > 0) := by
      rw [sq_pos]
      unfold has
      rw [decide_eq_true (show (0 : Int) ≤ i by omega), decide_eq_true (show (i : Int) < 81 by omega), Bool.true_and, Bool.true_and, tn, Bool.eq_iff_iff, allS_iff hs (by omega)]
      constructor
      · rintro ⟨q, hq, h1⟩
        cases he : isE (onS b i s (tk b)) with
        | false => rfl
        | true => rw [isE_iff.1 he q hq] at h1; cases h1
      · intro h1
        simp only [Bool.not_eq_true'] at h1
        unfold isE at h1
        rw [List.all_eq_false] at h1
        obtain ⟨q, hq, h2⟩ := h1
        exact ⟨q, by simpa using hq, by simpa using h2⟩
    rw [e]
    simp only [beq_self_eq_true, Bool.not_true, b_f]
    rw [w_s (by omega) (by omega)]
    exact hr

theorem attackAll_true {b : List Int} (h : List Int) (S s : Int) (hl : b.length = 81) : law08_AttackAll b h S s = some true := by
  have hc := cl_clean hl
  unfold law08_AttackAll
  rw [attacks_true, ob_some]
  simp only [Bool.not_true, b_f]
  rw [aclean_val hl, ob_some]
  simp only
  rw [new_full hc.len, cl_id hc, ob_some]
  simp only
  rw [all_full hc, ob_some]
  simp only
  obtain ⟨g, hg⟩ := many_eq 81 (by omega)
  have main : (s = 0 ∨ s = 1) → (ob (ref05_Taken (cl b) h S) fun a15 =>
     ob (law08_AttackAlll9 many s 0 (cl b) h S (sLo (allS (cl b) s)) (sHi (allS (cl b) s)) a15) fun t16_2 =>
     sw t16_2 (fun a16 =>
      some (a16))
      (fun _ =>
      some (true)) : Option Bool) = some true := by
    intro hs
    have := attAll_goes (b := cl b) h S s hs 81 0 (by omega) g
    rw [← hg] at this
    rw [taken_val, ob_some, show law08_AttackAlll9 many s 0 (cl b) h S (sLo (allS (cl b) s)) (sHi (allS (cl b) s)) (takenL (cl b)) = _ from this, ob_some]
    rfl
  by_cases h0 : s = 0
  · rw [b_nne h0]; exact main (.inl h0)
  · rw [b_ne h0]
    by_cases h1 : s = 1
    · rw [b_nne h1]; exact main (.inr h1)
    · rw [b_ne h1, empty_val, ob_some]
      have : allS (cl b) s = fun _ => false := by
        have : sdP (cl b) s = fun _ => false := by funext i; unfold sdP; simp [h0, h1]
        unfold allS
        rw [this]
        funext c
        unfold goF sq
        simp
      rw [this, isE_false]

end Go.Kk.Pl
