/-
  Whether a position can be, plainly, told in full: the reference's answer.
-/
import Derived.Test.YtlcccogiaaalhaaDoorKkZ
import Derived.Test.YtlcccogiaaalhaaDoorKkChk2
namespace Go.Kk.Pl

/-! ### what is asked -/

/-- How many ranks lie ahead. -/
def farS (s : Int) (q : Nat) : Int := if s = 0 then ((q % 9 : Nat) : Int) else if s = 1 then 8 - ((q % 9 : Nat) : Int) else -1
/-- A piece that can never move. -/
def deadS (x : Int) (q : Nat) : Bool := decide (((kd x = 1 ∨ kd x = 2) ∧ farS (sd x) q = 0) ∨ (kd x = 3 ∧ (farS (sd x) q = 0 ∨ farS (sd x) q = 1)))
def bsP (b : List Int) (i : Nat) : Bool := decide (b.getD i 0 ≠ 0 ∧ kd (b.getD i 0) = 0)
def bsH (h : List Int) (k s : Nat) : Bool := decide (h.getD (s * 8 + k) 0 < 0 ∨ (k = 0 ∧ h.getD (s * 8 + k) 0 ≠ 0))
def nP (b : List Int) (x : Int) : Nat := (List.range 81).countP fun i => b.getD i 0 == x
def nF (b : List Int) (x : Int) (f : Nat) : Nat := (List.range 9).countP fun r => b.getD (9 * f + r) 0 == x
def totS (k : Int) : Int := if k = 1 then 18 else if k = 2 ∨ k = 3 ∨ k = 4 ∨ k = 5 then 4 else if k = 6 ∨ k = 7 ∨ k = 8 then 2 else 0
def overS (b h : List Int) (k : Nat) : Bool := decide (totS k < cnt b k + hd_ h 0 k + hd_ h 1 k)
def nifuS (b : List Int) (f : Nat) : Bool := decide (1 < nF b 1 f) || decide (1 < nF b 17 f)
/-- The error's number of a position. -/
def chkS (b h : List Int) (s : Int) : Int :=
  if ¬ (s = 0 ∨ s = 1) then 1
  else if (List.range' 0 81).any (bsP b) then 55
  else if (List.range' 0 8).any (fun k => (List.range' 0 2).any (bsH h k)) then 55
  else if ¬ (nP b 8 = 1 ∧ nP b 24 = 1) then 50
  else if (List.range' 1 7).any (overS b h) then 51
  else if (List.range' 0 81).any (fun i => deadS (b.getD i 0) i) then 52
  else if (List.range' 0 9).any (nifuS b) then 53
  else 0

/-! ### the reference -/

theorem refSide_val (x : Int) : ref02_Side x = some (sd x) := by
  unfold ref02_Side
  rw [refKind_val, ob_some]
  unfold sd
  by_cases h : kd x = 0
  · rw [b_eq h, if_pos h]
  · obtain ⟨h1, h2⟩ := kd_range h
    rw [b_neq h, if_neg h]
    by_cases h3 : x < 16
    · rw [if_pos h3, Int.tdiv_eq_ediv_of_nonneg (by omega)]
      congr 1
      rw [w_s (by omega) (by omega)]
      omega
    · rw [if_neg h3, Int.tdiv_eq_ediv_of_nonneg (by omega)]
      congr 1
      rw [w_s (by omega) (by omega)]
      omega
theorem tmod9 (q : Nat) : Int.tmod (q : Int) 9 = ((q % 9 : Nat) : Int) := by
  rw [Int.tmod_eq_emod_of_nonneg (by omega)]; omega
theorem refFar_val {s : Int} (hs : s = -1 ∨ s = 0 ∨ s = 1) {q : Nat} (hq : q < 81) : ref03_Far s q = some (farS s q) := by
  unfold ref03_Far farS
  rcases hs with rfl | rfl | rfl
  · simp (disch := omega) only [b_nlt, b_lt]
    simp
  · simp (disch := omega) only [b_nlt, b_eq, tmod9]
    simp
  · simp (disch := omega) only [b_nlt, b_neq, tmod9, w_s]
    simp
theorem sd_cases (x : Int) : sd x = -1 ∨ sd x = 0 ∨ sd x = 1 := by
  unfold sd
  split
  · exact .inl rfl
  · split
    · exact .inr (.inl rfl)
    · exact .inr (.inr rfl)
theorem refDead_val (x : Int) {q : Nat} (hq : q < 81) : ref03_Dead x q = some (deadS x q) := by
  unfold ref03_Dead
  rw [refSide_val, ob_some, refFar_val (sd_cases x) hq, ob_some, refKind_val, ob_some]
  unfold deadS
  generalize kd x = k
  generalize farS (sd x) q = n
  simp only [br_if, beq_iff_eq]
  repeat' split
  all_goals first
    | (rw [Option.some.injEq, Bool.eq_iff_iff]; simp; omega)
    | (simp; omega)

theorem chk4_val (b h : List Int) (s : Int) : ∀ (n i : Nat), i + n = 81 → ∀ f, ref05_Checkl4 (f + n + 1) i b h s = some (if (List.range' i n).any (bsP b) then .inl (55, b, h, s) else .inr (b, h, s)) := by
  intro n
  induction n with
  | zero =>
    intro i hi f
    show ref05_Checkl4s (ref05_Checkl4 (f + 0)) _ _ _ _ = _
    unfold ref05_Checkl4s
    rw [b_nlt (by omega)]
    rfl
  | succ n ih =>
    intro i hi f
    show ref05_Checkl4s (ref05_Checkl4 (f + n + 1)) _ _ _ _ = _
    unfold ref05_Checkl4s
    simp (disch := omega) only [b_lt, b_in, c_8, tn, refKind_val, ob_some, w_s, any_cons]
    have := ih (i + 1) (by omega) f
    by_cases h0 : b.getD i 0 = 0
    · rw [b_nne h0, show bsP b i = false by unfold bsP; simp only [h0]; rfl, Bool.false_or]
      exact this
    · rw [b_ne h0]
      by_cases hk : kd (b.getD i 0) = 0
      · rw [b_eq hk, show bsP b i = true by unfold bsP; simp only [hk, decide_eq_true_eq]; exact ⟨h0, trivial⟩]
        rfl
      · rw [b_neq hk, show bsP b i = false by unfold bsP; rw [decide_eq_false_iff_not]; omega, Bool.false_or]
        exact this

theorem chk12_val (b h : List Int) (s : Int) (k : Nat) (hk : k < 8) : ∀ (n i : Nat), i + n = 2 → ∀ f, ref05_Checkl12 (f + n + 1) k i b h s = some (if (List.range' i n).any (bsH h k) then .inl (55, k, b, h, s) else .inr (k, b, h, s)) := by
  intro n
  induction n with
  | zero =>
    intro i hi f
    show ref05_Checkl12s (ref05_Checkl12 (f + 0)) _ _ _ _ _ = _
    unfold ref05_Checkl12s
    rw [b_nlt (by omega)]
    rfl
  | succ n ih =>
    intro i hi f
    show ref05_Checkl12s (ref05_Checkl12 (f + n + 1)) _ _ _ _ _ = _
    unfold ref05_Checkl12s
    simp (disch := omega) only [b_lt, b_in, tn, w_s, any_cons]
    have := ih (i + 1) (by omega) f
    by_cases h0 : h.getD (i * 8 + k) 0 < 0
    · rw [br_true (by simpa using h0), show bsH h k i = true by unfold bsH; simp only [h0, true_or, decide_true]]
      rfl
    · rw [br_false (by simpa using h0)]
      by_cases hk0 : k = 0
      · rw [b_eq (by omega)]
        by_cases h1 : h.getD (i * 8 + k) 0 = 0
        · rw [b_nne h1, show bsH h k i = false by unfold bsH; rw [h1]; simp, Bool.false_or]
          exact this
        · rw [b_ne h1, show bsH h k i = true by unfold bsH; simp only [decide_eq_true_eq]; exact .inr ⟨hk0, h1⟩]
          rfl
      · rw [b_neq (by omega), show bsH h k i = false by unfold bsH; rw [decide_eq_false_iff_not]; omega, Bool.false_or]
        exact this

theorem chk9_val (b h : List Int) (s : Int) : ∀ (n i : Nat), i + n = 8 → ∀ f, ref05_Checkl9 (f + n + 1) i b h s = some (if (List.range' i n).any (fun k => (List.range' 0 2).any (bsH h k)) then .inl (55, b, h, s) else .inr (b, h, s)) := by
  intro n
  induction n with
  | zero =>
    intro i hi f
    show ref05_Checkl9s (ref05_Checkl9 (f + 0)) _ _ _ _ = _
    unfold ref05_Checkl9s
    rw [b_nlt (by omega)]
    rfl
  | succ n ih =>
    intro i hi f
    show ref05_Checkl9s (ref05_Checkl9 (f + n + 1)) _ _ _ _ = _
    unfold ref05_Checkl9s
    obtain ⟨g, hg⟩ := many_eq 2 (by omega)
    have h12 := chk12_val b h s i (by omega) 2 0 (by omega) g
    rw [← hg] at h12
    have h12 : ref05_Checkl12 many i 0 b h s = _ := h12
    rw [b_lt (by omega), h12, ob_some, any_cons (fun k => (List.range' 0 2).any (bsH h k)) i n]
    have := ih (i + 1) (by omega) f
    cases hb : (List.range' 0 2).any (bsH h i) with
    | true => rfl
    | false =>
      rw [Bool.false_or, if_neg (by decide), sw_inr]
      simp only
      rw [w_s (by omega) (by omega)]
      exact this

theorem refTotal_val : ∀ k : Fin 9, ref02_Total ((k.val : Nat) : Int) = some (totS ((k.val : Nat) : Int)) := by decide +kernel
theorem chk20_val {b h : List Int} (hl : b.length = 81) (hf : Fits8 h) (s : Int) : ∀ (n i : Nat), i + n = 8 → 1 ≤ i → ∀ f, ref05_Checkl20 (f + n + 1) i b h s = some (if (List.range' i n).any (overS b h) then .inl (51, b, h, s) else .inr (b, h, s)) := by
  intro n
  induction n with
  | zero =>
    intro i hi _ f
    show ref05_Checkl20s (ref05_Checkl20 (f + 0)) _ _ _ _ = _
    unfold ref05_Checkl20s
    rw [b_nlt (by omega)]
    rfl
  | succ n ih =>
    intro i hi h1 f
    show ref05_Checkl20s (ref05_Checkl20 (f + n + 1)) _ _ _ _ = _
    unfold ref05_Checkl20s
    have ht := refTotal_val ⟨i, by omega⟩
    simp only at ht
    rw [b_lt (by omega), count_val hl hf s i (by omega) (by omega), ob_some, ht, ob_some, any_cons, w_s (by omega) (by omega)]
    have := ih (i + 1) (by omega) (by omega) f
    by_cases ho : totS i < cnt b i + hd_ h 0 i + hd_ h 1 i
    · rw [b_gt ho, show overS b h i = true by unfold overS; simpa using ho]
      rfl
    · rw [b_ngt ho, show overS b h i = false by unfold overS; simpa using ho, Bool.false_or]
      exact this

theorem chk25_val (b h : List Int) (s : Int) : ∀ (n i : Nat), i + n = 81 → ∀ f, ref05_Checkl25 (f + n + 1) i b h s = some (if (List.range' i n).any (fun i => deadS (b.getD i 0) i) then .inl (52, b, h, s) else .inr (b, h, s)) := by
  intro n
  induction n with
  | zero =>
    intro i hi f
    show ref05_Checkl25s (ref05_Checkl25 (f + 0)) _ _ _ _ = _
    unfold ref05_Checkl25s
    rw [b_nlt (by omega)]
    rfl
  | succ n ih =>
    intro i hi f
    show ref05_Checkl25s (ref05_Checkl25 (f + n + 1)) _ _ _ _ = _
    unfold ref05_Checkl25s
    have := ih (i + 1) (by omega) f
    rw [b_lt (by omega), b_in (by omega) (by omega), tn, c_8, refDead_val _ (by omega), ob_some, any_cons, w_s (by omega) (by omega)]
    cases hb : deadS (b.getD i 0) i with
    | true => rfl
    | false =>
      rw [b_f, Bool.false_or]
      exact this

theorem countP_cons' (p : Nat → Bool) (i n : Nat) : (List.range' i (n + 1)).countP p = (if p i then 1 else 0) + (List.range' (i + 1) n).countP p := by
  rw [List.range'_succ, List.countP_cons]; omega
theorem countP_le' (p : Nat → Bool) (i n : Nat) : (List.range' i n).countP p ≤ n := Nat.le_trans List.countP_le_length (by simp)

theorem onF_val (b h : List Int) (s x : Int) (q : Nat) (hq : q < 9) : ∀ (n i : Nat), i + n = 9 → ∀ acc : Nat, acc ≤ i → ∀ f,
    ref05_Onl3 (f + n + 1) x q acc i b h s = some (((acc + (List.range' i n).countP fun r => b.getD (9 * q + r) 0 == x : Nat) : Int)) := by
  intro n
  induction n with
  | zero =>
    intro i hi acc _ f
    show ref05_Onl3s (ref05_Onl3 (f + 0)) _ _ _ _ _ _ _ = _
    unfold ref05_Onl3s
    rw [b_nlt (by omega)]
    rfl
  | succ n ih =>
    intro i hi acc ha f
    show ref05_Onl3s (ref05_Onl3 (f + n + 1)) _ _ _ _ _ _ _ = _
    unfold ref05_Onl3s
    simp (disch := omega) only [b_lt, b_in, w_s, c_8]
    have h1 := ih (i + 1) (by omega) acc (by omega) f
    have h2 := ih (i + 1) (by omega) (acc + 1) (by omega) f
    have ht : (9 * (q : Int) + (i : Int)).toNat = 9 * q + i := by omega
    rw [ht, countP_cons']
    cases hb : b.getD (9 * q + i) 0 == x with
    | true =>
      rw [b_t, if_pos rfl]
      refine h2.trans ?_
      congr 2; omega
    | false =>
      rw [b_f, if_neg (by simp)]
      refine h1.trans ?_
      congr 2; omega
theorem on_val (b h : List Int) (s x : Int) (q : Nat) (hq : q < 9) : ref05_On b h s x q = some ((nF b x q : Nat) : Int) := by
  obtain ⟨g, hg⟩ := many_eq 9 (by omega)
  have := onF_val b h s x q hq 9 0 (by omega) 0 (by omega) g
  rw [← hg] at this
  unfold ref05_On
  rw [show ref05_Onl3 many x q 0 0 b h s = _ from this, ob_some, Nat.zero_add]
  unfold nF
  rw [List.range_eq_range']

theorem nF_le (b : List Int) (x : Int) (q : Nat) : nF b x q ≤ 9 := Nat.le_trans List.countP_le_length (by simp)
theorem allF_val (b h : List Int) (s x : Int) : ∀ (n i : Nat), i + n = 9 → ∀ acc : Nat, acc ≤ 9 * i → ∀ f,
    ref05_alll3 (f + n + 1) x acc i b h s = some (((acc + ((List.range' i n).map (nF b x)).sum : Nat) : Int)) := by
  intro n
  induction n with
  | zero =>
    intro i hi acc _ f
    show ref05_alll3s (ref05_alll3 (f + 0)) _ _ _ _ _ _ = _
    unfold ref05_alll3s
    rw [b_nlt (by omega)]
    rfl
  | succ n ih =>
    intro i hi acc ha f
    show ref05_alll3s (ref05_alll3 (f + n + 1)) _ _ _ _ _ _ = _
    unfold ref05_alll3s
    have hle := nF_le b x i
    rw [b_lt (by omega), on_val b h s x i (by omega), ob_some, w_s (by omega) (by omega), w_s (by omega) (by omega)]
    have h2 := ih (i + 1) (by omega) (acc + nF b x i) (by omega) f
    rw [List.range'_succ, List.map_cons, List.sum_cons]
    rw [Int.natCast_add] at h2
    refine Eq.trans h2 ?_
    congr 2; omega
theorem range81_files : List.range 81 = (List.range' 0 9).flatMap fun f => (List.range 9).map (9 * f + ·) := by decide +kernel
theorem nP_files (b : List Int) (x : Int) : nP b x = ((List.range' 0 9).map (nF b x)).sum := by
  unfold nP
  rw [range81_files, List.countP_flatMap]
  congr 1
theorem all_val (b h : List Int) (s x : Int) : ref05_all b h s x = some ((nP b x : Nat) : Int) := by
  obtain ⟨g, hg⟩ := many_eq 9 (by omega)
  have := allF_val b h s x 9 0 (by omega) 0 (by omega) g
  rw [← hg, Nat.zero_add, ← nP_files] at this
  unfold ref05_all
  rw [show ref05_alll3 many x 0 0 b h s = _ from this, ob_some]

theorem chk30_val (b h : List Int) (s : Int) : ∀ (n i : Nat), i + n = 9 → ∀ f, ref05_Checkl30 (f + n + 1) i b h s = some (if (List.range' i n).any (nifuS b) then .inl 53 else .inr ()) := by
  intro n
  induction n with
  | zero =>
    intro i hi f
    show ref05_Checkl30s (ref05_Checkl30 (f + 0)) _ _ _ _ = _
    unfold ref05_Checkl30s
    rw [b_nlt (by omega)]
    rfl
  | succ n ih =>
    intro i hi f
    show ref05_Checkl30s (ref05_Checkl30 (f + n + 1)) _ _ _ _ = _
    unfold ref05_Checkl30s
    have := ih (i + 1) (by omega) f
    rw [b_lt (by omega), on_val b h s 1 i (by omega), ob_some, on_val b h s 17 i (by omega), ob_some, any_cons, w_s (by omega) (by omega)]
    by_cases h1 : 1 < nF b 1 i
    · rw [b_gt (by omega), show nifuS b i = true by unfold nifuS; simp [h1]]
      rfl
    · rw [b_ngt (by omega)]
      by_cases h2 : 1 < nF b 17 i
      · rw [b_gt (by omega), show nifuS b i = true by unfold nifuS; simp [h2]]
        rfl
      · rw [b_ngt (by omega), show nifuS b i = false by unfold nifuS; simp [h1, h2], Bool.false_or]
        exact this

theorem refCheck_val {b h : List Int} (hl : b.length = 81) (hf : Fits8 h) (s : Int) : ref05_Check b h s = some (chkS b h s) := by
  obtain ⟨g81, hg81⟩ := many_eq 81 (by omega)
  obtain ⟨g8, hg8⟩ := many_eq 8 (by omega)
  obtain ⟨g7, hg7⟩ := many_eq 7 (by omega)
  obtain ⟨g9, hg9⟩ := many_eq 9 (by omega)
  have c4 := chk4_val b h s 81 0 (by omega) g81
  rw [← hg81] at c4
  have c9 := chk9_val b h s 8 0 (by omega) g8
  rw [← hg8] at c9
  have c20 := chk20_val hl hf s 7 1 (by omega) (by omega) g7
  rw [← hg7] at c20
  have c25 := chk25_val b h s 81 0 (by omega) g81
  rw [← hg81] at c25
  have c30 := chk30_val b h s 9 0 (by omega) g9
  rw [← hg9] at c30
  have main : (ob (ref05_Checkl4 many 0 b h s) fun t3_2 =>
        sw t3_2 (fun (a3_0, _, _, _) => some (a3_0))
         (fun (a3_0, a3_1, a3_2) =>
         ob (ref05_Checkl9 many 0 a3_0 a3_1 a3_2) fun t6_2 =>
         sw t6_2 (fun (a6_0, _, _, _) =>
          some (a6_0))
          (fun (a6_0, a6_1, a6_2) =>
          ob (ref05_all a6_0 a6_1 a6_2 8) fun a9 =>
          br (a9 != 1)
           (some (50))
           (ob (ref05_all a6_0 a6_1 a6_2 24) fun a10 =>
           br (a10 != 1)
            (some (50))
            (ob (ref05_Checkl20 many 1 a6_0 a6_1 a6_2) fun t11_2 =>
            sw t11_2 (fun (a11_0, _, _, _) =>
             some (a11_0))
             (fun (a11_0, a11_1, a11_2) =>
             ob (ref05_Checkl25 many 0 a11_0 a11_1 a11_2) fun t14_2 =>
             sw t14_2 (fun (a14_0, _, _, _) =>
              some (a14_0))
              (fun (a14_0, a14_1, a14_2) =>
              ob (ref05_Checkl30 many 0 a14_0 a14_1 a14_2) fun t17_2 =>
              sw t17_2 (fun a17 =>
               some (a17))
               (fun _ =>
               some (0)))))))) : Option Int) =
      some (if (List.range' 0 81).any (bsP b) then 55
        else if (List.range' 0 8).any (fun k => (List.range' 0 2).any (bsH h k)) then 55
        else if ¬ (nP b 8 = 1 ∧ nP b 24 = 1) then 50
        else if (List.range' 1 7).any (overS b h) then 51
        else if (List.range' 0 81).any (fun i => deadS (b.getD i 0) i) then 52
        else if (List.range' 0 9).any (nifuS b) then 53
        else 0) := by
    rw [show ref05_Checkl4 many 0 b h s = _ from c4, ob_some]
    split
    · rfl
    rw [sw_inr]
    simp only
    rw [show ref05_Checkl9 many 0 b h s = _ from c9, ob_some]
    split
    · rfl
    rw [sw_inr]
    simp only
    rw [all_val, ob_some, all_val, ob_some]
    by_cases h8 : nP b 8 = 1
    · rw [b_nne (by omega)]
      by_cases h24 : nP b 24 = 1
      · rw [b_nne (by omega), if_neg (by simp [h8, h24]), show ref05_Checkl20 many 1 b h s = _ from c20, ob_some]
        split
        · rfl
        rw [sw_inr]
        simp only
        rw [show ref05_Checkl25 many 0 b h s = _ from c25, ob_some]
        split
        · rfl
        rw [sw_inr]
        simp only
        rw [show ref05_Checkl30 many 0 b h s = _ from c30, ob_some]
        split
        · rfl
        · rfl
      · rw [b_ne (by omega), if_pos (by simp [h24])]
    · rw [b_ne (by omega), if_pos (by simp [h8])]
  unfold ref05_Check chkS
  by_cases h0 : s = 0
  · rw [b_nne h0, if_neg (by simp [h0])]
    exact main
  · rw [b_ne h0]
    by_cases h1 : s = 1
    · rw [b_nne h1, if_neg (by simp [h1])]
      exact main
    · rw [b_ne h1, if_pos (by simp [h0, h1])]

end Go.Kk.Pl
