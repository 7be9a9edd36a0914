/- What the program's functions come to, told plainly: the texts of this project that this claim leans on, cut down to what is used. -/
import Derived.Test.YtljnnegjhcdlkaaGreatDoorKkU3
namespace Go.Kk.Pl
theorem any_none {p : Nat → Bool} {a n : Nat} : (List.range' a n).any p = false ↔ ∀ i, a ≤ i → i < a + n → p i = false := by
  rw [List.any_eq_false]
  constructor
  · intro h i h1 h2
    have := h i (List.mem_range'_1.mpr ⟨h1, h2⟩)
    simpa using this
  · intro h i hi
    obtain ⟨h1, h2⟩ := List.mem_range'_1.mp hi
    rw [h i h1 h2]; simp
structure ChkP (b h : List Int) (s : Int) : Prop where
  side : s = 0 ∨ s = 1
  good : ∀ i, i < 81 → bsP b i = false
  hands : ∀ k, k < 8 → ∀ j, j < 2 → bsH h k j = false
  kings : nP b 8 = 1 ∧ nP b 24 = 1
  over : ∀ k, 1 ≤ k → k < 8 → overS b h k = false
  dead : ∀ i, i < 81 → deadS (b.getD i 0) i = false
  nifu : ∀ f, f < 9 → nifuS b f = false
theorem chkP_iff {b h : List Int} {s : Int} : chkS b h s = 0 ↔ ChkP b h s := by
  constructor
  · intro hz
    unfold chkS at hz
    split at hz
    · omega
    rename_i h1
    split at hz
    · omega
    rename_i h2
    split at hz
    · omega
    rename_i h3
    split at hz
    · omega
    rename_i h4
    split at hz
    · omega
    rename_i h5
    split at hz
    · omega
    rename_i h6
    split at hz
    · omega
    rename_i h7
    rw [Bool.not_eq_true, any_none] at h2 h3 h5 h6 h7
    refine ⟨by omega, fun i hi => h2 i (by omega) (by omega), fun k hk j hj => ?_, by simpa using h4, fun k k1 k2 => h5 k k1 (by omega), fun i hi => h6 i (by omega) (by omega), fun f hf => h7 f (by omega) (by omega)⟩
    have := h3 k (by omega) (by omega)
    rw [any_none] at this
    exact this j (by omega) (by omega)
  · intro ⟨a1, a2, a3, a4, a5, a6, a7⟩
    unfold chkS
    rw [if_neg (by omega), if_neg (by rw [any_none.mpr fun i _ hi => a2 i (by omega)]; simp), if_neg (by rw [any_none.mpr fun k _ hk => any_none.mpr fun j _ hj => a3 k (by omega) j (by omega)]; simp), if_neg (by simpa using a4),
      if_neg (by rw [any_none.mpr fun k k1 hk => a5 k k1 (by omega)]; simp), if_neg (by rw [any_none.mpr fun i _ hi => a6 i (by omega)]; simp), if_neg (by rw [any_none.mpr fun i _ hi => a7 i (by omega)]; simp)]
theorem two_le {n : Nat} {p : Nat → Bool} : (List.range n).countP p ≤ 1 ↔ ∀ i j, i < n → j < n → p i = true → p j = true → i = j := by
  rw [List.countP_eq_length_filter]
  have hn : ((List.range n).filter p).Nodup := List.Nodup.sublist List.filter_sublist List.nodup_range
  have hm : ∀ i, i ∈ (List.range n).filter p ↔ i < n ∧ p i = true := by
    intro i; rw [List.mem_filter, List.mem_range]
  match he : (List.range n).filter p with
  | [] =>
    rw [he] at hm
    refine ⟨fun _ i j hi _ h1 _ => ?_, fun _ => by simp⟩
    have := (hm i).mpr ⟨hi, h1⟩
    cases this
  | [a] =>
    rw [he] at hm
    refine ⟨fun _ i j hi hj h1 h2 => ?_, fun _ => by simp⟩
    have e1 := (hm i).mpr ⟨hi, h1⟩
    have e2 := (hm j).mpr ⟨hj, h2⟩
    rw [List.mem_singleton] at e1 e2
    rw [e1, e2]
  | a :: c :: L =>
    rw [he] at hm hn
    refine ⟨fun h => ?_, fun h => ?_⟩
    · simp at h
    · exfalso
      have ea := (hm a).mp (by simp)
      have ec := (hm c).mp (by simp)
      have := h a c ea.1 ec.1 ea.2 ec.2
      subst this
      simp at hn
theorem nF_one {b : List Int} {x : Int} {f : Nat} : nF b x f ≤ 1 ↔ ∀ r r', r < 9 → r' < 9 → b.getD (9 * f + r) 0 = x → b.getD (9 * f + r') 0 = x → r = r' := by
  unfold nF
  rw [two_le]
  constructor
  · intro h r r' hr hr' e e'
    exact h r r' hr hr' (by simpa using e) (by simpa using e')
  · intro h r r' hr hr' e e'
    exact h r r' hr hr' (by simpa using e) (by simpa using e')
theorem nF_zero {b : List Int} {x : Int} {f : Nat} : nF b x f = 0 ↔ ∀ r, r < 9 → b.getD (9 * f + r) 0 ≠ x := by
  unfold nF
  rw [List.countP_eq_zero]
  constructor
  · intro h r hr e
    exact h r (List.mem_range.mpr hr) (by simpa using e)
  · intro h r hr e
    exact h r (List.mem_range.mp hr) (by simpa using e)
theorem nP_KS {b : List Int} {s : Int} {k : Nat} (h : KS b s k) : nP b (pc s 8) = 1 := by
  show cntS (fun i => b.getD i 0 == pc s 8) = 1
  rw [cnt_one]
  exact ⟨k, h.1, fun i hi => by rw [beq_iff_eq]; exact h.2 i hi⟩
theorem sound_of {b h : List Int} {s : Int} (hl : b.length = 81) (hf : Fits8 h) (hz : chkS b h s = 0) : Sound b h s := by
  obtain ⟨hc, _⟩ := chk_zero_clean hl hz
  obtain ⟨v, hv, hS⟩ := check_val hc hf s
  rw [refCheck_val hl hf] at hv
  exact hS (by rw [← Option.some.inj hv]; exact hz)
theorem chk_after {b h : List Int} {s f t d : Int} {p : Bool} (hl : b.length = 81) (hf : Fits8 h) (hh : h.length = 16) (hz : chkS b h s = 0) (hm : movS b h s f t d p = true) : chkS (mb b s f t d p) (mh b h s t d) (1 - s) = 0 := by
  obtain ⟨hc, hs⟩ := chk_zero_clean hl hz
  have hP := (movP hm).2
  have hS := sound_of hl hf hz
  have hC := chkP_iff.mp hz
  have hs' : 1 - s = 0 ∨ 1 - s = 1 := by omega
  obtain ⟨k, hk⟩ := ks_of hz hs
  obtain ⟨k', hk'⟩ := ks_of hz hs'
  have ht := hP.to_
  have hla := laid_ok hs hP
  have hc2 : Clean (mb b s f t d p) := mb_clean hc _ _ _ _ _
  have hmv : if d ≠ 0 then (!deadI (16 * s + d) t && (decide (d ≠ 1) || decide (nF b (16 * s + d) (t.toNat / 9) = 0))) = true
      else (rch (at_ b f) f.toNat t.toNat (tk b) && if p = true then mayS (at_ b f) f t else !mustS (at_ b f) t) = true := by
    have := hm
    unfold movS at this
    rw [Bool.and_eq_true] at this
    have := this.2
    by_cases hd : d = 0
    · rw [if_neg (by simpa using hd)] at this ⊢
      exact this
    · rw [if_pos hd] at this ⊢
      exact this
  have hhand : ∀ j : Int, (j = 0 ∨ j = 1) → ∀ i : Int, 0 ≤ i → i < 8 → (hd_ (mh b h s t d) j i = hd_ h j i ∨ (1 ≤ i ∧ 0 ≤ hd_ (mh b h s t d) j i)) := by
    intro j hj i i0 i8
    unfold mh
    by_cases hd : d = 0
    · have hmm := hP.move hd
      rw [if_neg (by simpa using hd)]
      by_cases h0 : at_ b t = 0
      · rw [if_pos h0]; exact .inl rfl
      · rw [if_neg h0]
        have hr := rw_range ((hc.at_ t).resolve_left h0) hmm.2.2.2.2.2.1
        rw [hd_hset hh hs (by omega) (by omega) 1 hj i0 i8]
        split
        · right
          rename_i he
          have h1 := hS.hands (rw_ (kd (at_ b t))) (by omega) (by omega)
          have h2 := hS.counts (rw_ (kd (at_ b t))) (by omega) (by omega)
          have h3 : 0 ≤ hd_ h s (rw_ (kd (at_ b t))) ∧ hd_ h s (rw_ (kd (at_ b t))) ≤ 18 := by
            rcases hs with rfl | rfl <;> omega
          rw [w_8 (by omega) (by omega)]
          omega
        · exact .inl rfl
    · have hmm := hP.drop hd
      rw [if_pos hd, hd_hset hh hs (by omega) (by omega) (-1) hj i0 i8]
      split
      · right
        have := fits_hd hf s d
        rw [w_8 (by omega) (by omega)]
        omega
      · exact .inl rfl
  rw [chkP_iff]
  refine ⟨hs', fun i hi => ?_, fun i hi j hj => ?_, ?_, fun i i1 i2 => ?_, fun i hi => ?_, fun g hg => ?_⟩
  · unfold bsP
    rw [decide_eq_false_iff_not]
    rintro ⟨h1, h2⟩
    have := hc2.at_ i
    rw [at_in (by omega), tn] at this
    exact this.elim h1 (fun h => h h2)
  · have h1 := hC.hands i hi j hj
    unfold bsH at h1 ⊢
    rw [decide_eq_false_iff_not] at h1 ⊢
    have h2 := hhand j (by omega) i (by omega) (by omega)
    unfold hd_ at h2
    rw [show (j : Int).toNat * 8 + (i : Int).toNat = j * 8 + i from rfl] at h2
    omega
  · have e1 := nP_KS (ks_mb hc hs hP hk)
    have e2 := nP_KS (ks_mb' hc hs hP hk')
    rw [pc8 hs] at e1
    rw [pc8 hs'] at e2
    rcases hs with rfl | rfl
    · exact ⟨e1, e2⟩
    · exact ⟨e2, e1⟩
  · have h1 := hC.over i i1 i2
    unfold overS at h1 ⊢
    rw [decide_eq_false_iff_not] at h1 ⊢
    have := pieces_same hS hf hh hP (k := (i : Int)) (by omega) (by omega)
    omega
  · rw [mb_getD hc hs hP hi]
    by_cases h1 : i = t.toNat
    · rw [if_pos h1, h1]
      unfold laid
      by_cases hd : d = 0
      · rw [if_neg (by simpa using hd)]
        rw [if_neg (by simpa using hd)] at hmv
        have hmm := hP.move hd
        cases p with
        | true =>
          rw [if_pos rfl]
          obtain ⟨u1, u2, u3⟩ := up_range (hmm.2.2.2.2.2.2 rfl)
          have : 9 ≤ up_ (kd (at_ b f)) := by
            have hu := hmm.2.2.2.2.2.2 rfl
            unfold up_ at hu ⊢
            split
            · omega
            · rename_i h; rw [if_neg h] at hu; exact absurd rfl hu
          unfold deadS
          rw [kd_of hs u1 u2 u3, decide_eq_false_iff_not]
          omega
        | false =>
          rw [if_neg (by simp)]
          rw [if_neg (by simp), Bool.and_eq_true] at hmv
          have h2 := hmv.2
          cases hdd : deadS (at_ b f) t.toNat with
          | false => rfl
          | true =>
            exfalso
            have hk : kd (at_ b f) = 1 ∨ kd (at_ b f) = 2 ∨ kd (at_ b f) = 3 := by
              have := of_decide_eq_true hdd
              omega
            unfold mustS at h2
            rw [show t = ((t.toNat : Nat) : Int) by omega, deadI_nat _ (by omega), hdd] at h2
            have : up_ (kd (at_ b f)) ≠ 0 := by unfold up_; rw [if_pos (by omega)]; omega
            rw [decide_eq_true this] at h2
            cases h2
      · rw [if_pos hd]
        rw [if_pos hd, Bool.and_eq_true] at hmv
        have h2 := hmv.1
        rw [show t = ((t.toNat : Nat) : Int) by omega, deadI_nat _ (by omega)] at h2
        simpa using h2
    · rw [if_neg h1]
      by_cases h2 : d = 0 ∧ i = f.toNat
      · rw [if_pos h2]
        unfold deadS
        rw [kd_zero]
        simp
      · rw [if_neg h2]; exact hC.dead i hi
  · have key : ∀ x : Int, (x = 1 ∨ x = 17) → nF (mb b s f t d p) x g ≤ 1 := by
      intro x hx
      have hxk : kd x = 1 := by rcases hx with rfl | rfl <;> decide
      have hold : nF b x g ≤ 1 := by
        have := hC.nifu g hg
        unfold nifuS at this
        simp only [Bool.or_eq_false_iff, decide_eq_false_iff_not] at this
        rcases hx with rfl | rfl <;> omega
      rw [nF_one] at hold ⊢
      have from_ : ∀ r, r < 9 → (mb b s f t d p).getD (9 * g + r) 0 = x → (b.getD (9 * g + r) 0 = x ∧ ¬ (d = 0 ∧ 9 * g + r = f.toNat)) ∨ 9 * g + r = t.toNat := by
        intro r hr e
        rw [mb_getD hc hs hP (by omega)] at e
        by_cases h1 : 9 * g + r = t.toNat
        · exact .inr h1
        · rw [if_neg h1] at e
          by_cases h2 : d = 0 ∧ 9 * g + r = f.toNat
          · rw [if_pos h2] at e
            rcases hx with rfl | rfl <;> omega
          · rw [if_neg h2] at e
            exact .inl ⟨e, h2⟩
      have lay : ∀ r, r < 9 → 9 * g + r = t.toNat → (mb b s f t d p).getD (9 * g + r) 0 = x → ∀ r', r' < 9 → (b.getD (9 * g + r') 0 = x ∧ ¬ (d = 0 ∧ 9 * g + r' = f.toNat)) → False := by
        intro r hr he e r' hr' e'
        rw [mb_getD hc hs hP (by omega), if_pos he] at e
        unfold laid at e
        by_cases hd : d = 0
        · rw [if_neg (by simpa using hd)] at e hmv
          have hmm := hP.move hd
          cases p with
          | true =>
            rw [if_pos rfl] at e
            have hu := hmm.2.2.2.2.2.2 rfl
            obtain ⟨u1, u2, u3⟩ := up_range hu
            have : kd (16 * s + up_ (kd (at_ b f))) = 1 := by rw [e, hxk]
            rw [kd_of hs u1 u2 u3] at this
            unfold up_ at this
            split at this <;> omega
          | false =>
            rw [if_neg (by simp)] at e
            rw [Bool.and_eq_true] at hmv
            have hr1 := hmv.1
            have hfl : df f.toNat t.toNat = 0 := by
              rcases rch_iff.mp hr1 with h1 | h1
              · have h2 := of_decide_eq_true h1
                rw [e, hxk] at h2
                unfold stpK at h2
                omega
              · have h2 := of_decide_eq_true h1.1
                rw [e, hxk] at h2
                unfold slK at h2
                omega
            unfold df fl at hfl
            have hfe : f.toNat = 9 * g + f.toNat % 9 := by omega
            have : b.getD (9 * g + f.toNat % 9) 0 = x := by
              rw [← hfe, ← at_in ⟨hmm.1, hmm.2.1⟩]; exact e
            have := hold (f.toNat % 9) r' (by omega) hr' this e'.1
            exact e'.2 ⟨hd, by omega⟩
        · rw [if_pos hd] at e hmv
          rw [Bool.and_eq_true] at hmv
          have hdd := hP.drop hd
          have hd1 : d = 1 := by rcases hs with rfl | rfl <;> rcases hx with rfl | rfl <;> omega
          have hz0 : nF b (16 * s + d) (t.toNat / 9) = 0 := by
            have := hmv.2
            rw [decide_eq_false (p := d ≠ 1) (by simpa using hd1), Bool.false_or, decide_eq_true_eq] at this
            exact this
          rw [e, show t.toNat / 9 = g by omega, nF_zero] at hz0
          exact hz0 r' hr' e'.1
      intro r r' hr hr' e e'
      rcases from_ r hr e with h1 | h1
      · rcases from_ r' hr' e' with h2 | h2
        · exact hold r r' hr hr' h1.1 h2.1
        · exact (lay r' hr' h2 e' r hr h1).elim
      · rcases from_ r' hr' e' with h2 | h2
        · exact (lay r hr h1 e r' hr' h2).elim
        · omega
    unfold nifuS
    have k1 := key 1 (.inl rfl)
    have k2 := key 17 (.inr rfl)
    rw [decide_eq_false (by omega), decide_eq_false (by omega)]
    rfl
theorem atk_after {b h : List Int} {s f t d : Int} {p : Bool} (hl : b.length = 81) (hf : Fits8 h) (hh : h.length = 16) (hz : chkS b h s = 0) (hm : movS b h s f t d p = true) (hsafe : inC (mb b s f t d p) s = false) : atkS (mb b s f t d p) (mh b h s t d) (1 - s) = 0 := by
  have h1 := chk_after hl hf hh hz hm
  unfold atkS
  rw [if_neg (by rw [h1]; simp), show 1 - (1 - s) = s by omega, hsafe]
  rfl
theorem atk_chk {b h : List Int} {s : Int} (hz : atkS b h s = 0) : chkS b h s = 0 := by
  unfold atkS at hz
  split at hz
  · rename_i h; exact absurd hz h
  · rename_i h; simpa using h
theorem stays_goes {b h : List Int} (hl : b.length = 81) (hf : Fits8 h) (hh : h.length = 16) {s : Int} (hz : atkS b h s = 0) (N : Nat) : ∀ (n i : Nat), i + n = (lgL b h s).length → ∀ F,
    law11_LegalStaysl6 (F + n + 1) (lgL b h s).length (lgL b h s).length i b h s N (lgL b h s) = some (.inr ()) := by
  obtain ⟨hc, hs, hno, k, k', hk, hk'⟩ := pos_ok hl hz
  have hlen := lgL_len b h s
  intro n
  induction n with
  | zero =>
    intro i hi F
    show law11_LegalStaysl6s (law11_LegalStaysl6 (F + 0)) _ _ _ _ _ _ _ _ = _
    unfold law11_LegalStaysl6s
    rw [b_nlt (by omega)]
  | succ n ih =>
    intro i hi F
    show law11_LegalStaysl6s (law11_LegalStaysl6 (F + n + 1)) _ _ _ _ _ _ _ _ = _
    unfold law11_LegalStaysl6s
    have hil : i < (lgL b h s).length := by omega
    obtain ⟨hm1, hm2, hm3, hm4⟩ := lgL_full hc hs hno hk hk' (List.getElem_mem hil)
    obtain ⟨m, hme⟩ : ∃ m, (lgL b h s)[i] = m := ⟨_, rfl⟩
    rw [hme] at hm1 hm2 hm3 hm4
    have hsafe : inC (mb b s (m0 m) (m1 m) (m2 m) (m3 m)) s = false := by simpa [safeM, mbM] using hm4
    rw [b_lt (by omega), b_in (by omega) (by omega), tn, atL hil, hme]
    simp only [hdM]
    rw [w_s (n := (i : Int) + 1) (by omega) (by omega), after_full hc h hs, movS_can hm2, if_pos rfl, ob_some]
    simp only
    rw [Bool.not_true, b_f, attackCheck_val (mb_clean hc _ _ _ _ _).1 (mh_fits hf _ _ _ _), ob_some, atk_after hl hf hh (atk_chk hz) hm2 hsafe, b_nne rfl]
    exact ih (i + 1) (by omega) F
theorem legalStays_true {b h : List Int} (s : Int) (hl : b.length = 81) (hf : Fits8 h) (hh : h.length = 16) : law11_LegalStays b h s = some true := by
  unfold law11_LegalStays
  rw [allows_true, ob_some]
  simp only [Bool.not_true, b_f]
  rw [rattackCheck_val hl hf, ob_some]
  by_cases hz : atkS b h s = 0
  · obtain ⟨hc, hs, hno, k, k', hk, hk'⟩ := pos_ok hl hz
    have hlen := lgL_len b h s
    rw [b_nne hz, new_full hl, cl_id hc, ob_some]
    simp only
    rw [legalAll_val hc h hs hk hk', ob_some]
    simp only
    obtain ⟨g, hg⟩ := many_eq (lgL b h s).length (by omega)
    have := stays_goes hl hf hh hz (lgL b h s).length (lgL b h s).length 0 (by omega) g
    rw [← hg] at this
    rw [show law11_LegalStaysl6 many (lgL b h s).length (Int.ofNat (lgL b h s).length) 0 b h s (lgL b h s).length (lgL b h s) = _ from this, ob_some]
    rfl
  · rw [b_ne hz]
end Go.Kk.Pl
