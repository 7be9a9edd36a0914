/- What the program's functions come to, told plainly: the texts of this project that this claim leans on, cut down to what is used. -/
import Derived.Test.YtljnnegjhcdlkaaGreatDoorKkU3
namespace Go.Kk.Pl
theorem chs_pawn {b : List Int} (hc : Clean b) {s : Int} (hs : s = 0 ∨ s = 1) {k' : Nat} (hk' : KS b (1 - s) k') (hno : inC b (1 - s) = false) {q : Int} (hq : 0 ≤ q ∧ q < 81) (h0 : at_ b q = 0) {c : Nat} (hcc : c < 81) (hch : chs (pb b s q) (1 - s) c = true) : c = q.toNat := by
 have hs' : 1 - s = 0 ∨ 1 - s = 1 := by omega
 have hP := pawn_canP hs hq h0
 have hk2 : KS (pb b s q) (1 - s) k' := by rw [pb_mb]; exact ks_mb' hc hs hP hk'
 apply Classical.byContradiction
 intro hne
 rw [chs_atk hs' (hk2.kg hs') hk2.1] at hch
 have hg : (pb b s q).getD c 0 = b.getD c 0 := by
  rw [pb_mb, mb_getD hc hs hP hcc, if_neg hne, if_neg (by simp)]
 have ha : atk b (1 - s) k' c = true := by
  simp only [atk, enm, Bool.and_eq_true] at hch ⊢
  rw [hg] at hch
  refine ⟨hch.1, ?_⟩
  rw [rch_iff] at hch ⊢
  refine hch.2.imp id fun hh => ⟨hh.1, fun i hi => ?_⟩
  have := hh.2 i hi
  rw [pb_mb, tk_mb hc hs hP (btw_mem hcc hk'.1 hi)] at this
  unfold tk2 fof at this
  simp only [Bool.or_eq_false_iff, decide_eq_false_iff_not] at this
  have h2 := this.2
  rw [if_neg (by simp), decide_eq_false this.1] at h2
  simpa using h2
 unfold inC at hno
 have hE : isE (chs b (1 - s)) = true := by simpa using hno
 have := isE_iff.mp hE c hcc
 rw [chs_atk hs' (hk'.kg hs') hk'.1, ha] at this
 cases this
theorem mates_eq {b : List Int} (hc : Clean b) {s : Int} (hs : s = 0 ∨ s = 1) {k' : Nat} (hk' : KS b (1 - s) k') (hno : inC b (1 - s) = false) {q : Int} (hq : 0 ≤ q ∧ q < 81) (h0 : at_ b q = 0) (hh : List Int) :
  pmS b s q = (inC (pb b s q) (1 - s) && stuckS (pb b s q) hh (1 - s)) := by
 have hs' : 1 - s = 0 ∨ 1 - s = 1 := by omega
 have hP := pawn_canP hs hq h0
 have hk2 : KS (pb b s q) (1 - s) k' := by rw [pb_mb]; exact ks_mb' hc hs hP hk'
 have hc2 : Clean (pb b s q) := hc.put q _
 have hq81 : q.toNat < 81 := by omega
 have e1 : inC (pb b s q) (1 - s) = chs (pb b s q) (1 - s) q.toNat := by
  unfold inC
  cases hch : chs (pb b s q) (1 - s) q.toNat with
  | true =>
    cases hE : isE (chs (pb b s q) (1 - s)) with
    | false => rfl
    | true => rw [isE_iff.mp hE _ hq81] at hch; cases hch
  | false =>
    have : isE (chs (pb b s q) (1 - s)) = true := by
     rw [isE_iff]
     intro i hi
     cases hx : chs (pb b s q) (1 - s) i with
     | false => rfl
     | true => rw [chs_pawn hc hs hk' hno hq h0 hi hx] at hx; rw [hx] at hch; cases hch
    rw [this]; rfl
 unfold pmS
 rw [decide_eq_true hq, decide_eq_true h0, Bool.true_and, Bool.true_and, e1]
 cases hch : chs (pb b s q) (1 - s) q.toNat with
 | false => rfl
 | true =>
   rw [Bool.true_and, Bool.true_and]
   unfold stuckS
   rw [show mvs (pb b s q) hh (1 - s) = mvsB (pb b s q) (1 - s) T_ ++ mvsD (pb b s q) hh (1 - s) T_ from rfl, List.all_append]
   have hB : ((mvsB (pb b s q) (1 - s) T_).all fun m => !g1 (pb b s q) (1 - s) m) = (mvsB (pb b s q) (1 - s) T_).all fun m => !safeM (pb b s q) (1 - s) m := by
    rw [Bool.eq_iff_iff, List.all_eq_true, List.all_eq_true]
    have : ∀ m ∈ mvsB (pb b s q) (1 - s) T_, g1 (pb b s q) (1 - s) m = safeM (pb b s q) (1 - s) m := by
     intro m hm
     obtain ⟨_, a2, a3⟩ := mvB_ok hc2 hh hs' hm
     have := safe_eq hc2 hs' (movP a2).2 hk2
     unfold safeM mbM g1
     rw [this, if_pos a3]
    constructor
    ·intro h m hm; rw [← this m hm]; exact h m hm
    ·intro h m hm; rw [this m hm]; exact h m hm
   have hD : ((mvsD (pb b s q) hh (1 - s) T_).all fun m => !safeM (pb b s q) (1 - s) m) = true := by
    rw [List.all_eq_true]
    intro m hm
    obtain ⟨_, a2, _, a4, _, _⟩ := mvD_ok hc2 hs' hm
    have hPm := (movP a2).2
    have := safe_eq hc2 hs' hPm hk2
    unfold safeM mbM
    rw [this, if_neg (by omega), Bool.not_eq_true']
    cases ho : ontoS (pb b s q) (1 - s) (m1 m).toNat with
    | false => rfl
    | true =>
      exfalso
      rw [onto_iff hs' hk2] at ho
      rw [chs_atk hs' (hk2.kg hs') hk2.1] at hch
      have hgq : (pb b s q).getD q.toNat 0 = 16 * s + 1 := by
       rw [pb_mb, mb_getD hc hs hP hq81, if_pos rfl]
       unfold laid
       rw [if_pos (by simp)]
      rcases ho _ hq81 hch with h1 | h1
      ·have h2 := (hPm.drop (by omega)).2.2.2.2.2
       rw [at_in hPm.to_, h1, hgq] at h2
       omega
      ·simp only [atk, Bool.and_eq_true] at hch
       rcases rch_iff.mp hch.2 with h2 | h2
       ·rw [step_btw h2] at h1; cases h1
       ·have h3 := of_decide_eq_true h2.1
        rw [hgq, kd_of hs (by omega) (by omega) (by omega)] at h3
        unfold slK at h3
        omega
   rw [hB, hD, Bool.and_true]
theorem pos_ok {b h : List Int} {s : Int} (hl : b.length = 81) (hz : atkS b h s = 0) : Clean b ∧ (s = 0 ∨ s = 1) ∧ inC b (1 - s) = false ∧ ∃ k k', KS b s k ∧ KS b (1 - s) k' := by
 have h1 : chkS b h s = 0 ∧ inC b (1 - s) = false := by
  unfold atkS at hz
  split at hz
  ·rename_i h; exact absurd hz h
  ·rename_i h
   refine ⟨by simpa using h, ?_⟩
   cases hi : inC b (1 - s) with
   | false => rfl
   | true => rw [hi] at hz; simp at hz
 obtain ⟨hc, hs⟩ := chk_zero_clean hl h1.1
 obtain ⟨k, hk⟩ := ks_of h1.1 hs
 obtain ⟨k', hk'⟩ := ks_of h1.1 (s := 1 - s) (by omega)
 exact ⟨hc, hs, h1.2, k, k', hk, hk'⟩
theorem lists_eq {b : List Int} (hc : Clean b) (h : List Int) {s : Int} (hs : s = 0 ∨ s = 1) (hno : inC b (1 - s) = false) {k k' : Nat} (hk : KS b s k) (hk' : KS b (1 - s) k') : lgL b h s = rlL b h s := by
 unfold lgL rlL
 rw [show mvs b h s = mvsB b s T_ ++ mvsD b h s T_ from rfl, List.filter_append, mvsD_filter, List.filter_filter]
 congr 1
 ·apply List.filter_congr
  intro m hm
  obtain ⟨_, a2, a3⟩ := mvB_ok hc h hs hm
  have := safe_eq hc hs (movP a2).2 hk
  unfold lglM safeM mbM g1
  rw [this, if_pos a3, decide_eq_true (p := m2 m ≠ 1) (by omega), Bool.true_or, Bool.and_true]
 ·apply List.filter_congr
  intro m hm
  obtain ⟨_, a2, a3, a4, a5, a6⟩ := mvD_ok hc hs hm
  have hP := (movP a2).2
  have := safe_eq hc hs hP hk
  unfold lglM safeM g2
  rw [show inC (mbM b s m) s = inC (mb b s (m0 m) (m1 m) (m2 m) (m3 m)) s from rfl, this, if_neg (by omega)]
  cases ho : ontoS b s (m1 m).toNat with
  | false => simp
  | true =>
    rw [Bool.and_true, Bool.true_and]
    by_cases hd : m2 m = 1
    ·have hdr := hP.drop (by omega)
     rw [decide_eq_true hd, decide_eq_false (p := m2 m ≠ 1) (by simpa using hd), Bool.true_and, Bool.false_or, mates_eq hc hs hk' hno hP.to_ hdr.2.2.2.2.2 (mhM b h s m)]
     have : mbM b s m = pb b s (m1 m) := by
      unfold mbM
      rw [a3, hd, a6, pb_mb]
     rw [this]
    ·rw [decide_eq_false hd, decide_eq_true (p := m2 m ≠ 1) hd]; rfl
theorem bi_ne (p : Bool) : (bi p != 0) = p := by cases p <;> rfl
theorem lgL_ok {b : List Int} (_hc : Clean b) {h : List Int} {s : Int} (_hs : s = 0 ∨ s = 1) {m : List Int} (hm : m ∈ lgL b h s) : m ∈ mvs b h s := by
 unfold lgL at hm
 rw [List.mem_append] at hm
 rcases hm with hm | hm
 ·exact List.mem_append_left _ (List.mem_filter.mp hm).1
 ·have := (List.mem_filter.mp hm).1
  rw [mvsD_filter] at this
  exact List.mem_append_right _ (List.mem_filter.mp this).1
end Go.Kk.Pl
namespace Go.Kk.Pl
end Go.Kk.Pl
namespace Go.Kk.Pl
theorem moveCheck_full (f t d : Int) (p : Bool) : qBM f t d p = some (chkM f t d p) := by
 unfold qBM chkM
 by_cases h1 : t < 0
 ·rw [b_lt h1, if_pos (by omega)]
 rw [b_nlt h1]
 by_cases h2 : t ≥ 81
 ·rw [b_ge h2, if_pos (by omega)]
 rw [b_nge h2, if_neg (by omega)]
 by_cases hd : d = 0
 ·rw [b_nne hd, if_neg (by simpa using hd)]
  by_cases h3 : f < 0
  ·rw [b_lt h3, if_pos (by omega)]
  rw [b_nlt h3]
  by_cases h4 : f ≥ 81
  ·rw [b_ge h4, if_pos (by omega)]
  rw [b_nge h4, if_neg (by omega)]
  by_cases h5 : f = t
  ·rw [b_eq h5, if_pos h5]
  ·rw [b_neq h5, if_neg h5]
 ·rw [b_ne hd, if_pos hd]
  by_cases h3 : d < 0
  ·rw [b_lt h3, if_neg (by omega)]
  rw [b_nlt h3]
  by_cases h4 : d ≥ 8
  ·rw [b_ge h4, if_neg (by omega)]
  rw [b_nge h4]
  by_cases h5 : f = 0
  ·rw [b_nne h5]
   cases p with
   | true => rw [b_t, if_neg (by simp)]
   | false => rw [b_f, if_pos ⟨by omega, by omega, h5, rfl⟩]
  ·rw [b_ne h5, if_neg (by omega)]
theorem can_full (b h : List Int) {s : Int} (hs : s = 0 ∨ s = 1) (f t d : Int) (p : Bool) (K : Int) (n : Nat) (by_ sides : List (List Int)) (m : Nat) (st : List (List Int)) :
  qr f t d p K n b h s by_ sides m st = some (canS b h s f t d p) := by
 unfold qr canS
 rw [moveCheck_full, ob_some]
 by_cases hm : chkM f t d p = 0
 ·obtain ⟨ht, hd, hmv⟩ := chkM_zero hm
  have main : (br (d != 0)
    (ob (qZ s d b h s by_ sides) fun a14 =>
    br (decide (a14 > 0))
     (ob (qC t b h s by_ sides) fun a15 =>
     some (a15 == 0))
     (some (false)))
    (ob (qC f b h s by_ sides) fun a14 =>
    ob (qC t b h s by_ sides) fun a15 =>
    ob (qD a14) fun a16 =>
    br (a16 == s)
     (ob (qD a15) fun a17 =>
     br (a17 != s)
      (ob (qA a15) fun a18 =>
      br (a18 != 8)
       (br (!p)
        (some (true))
        (ob (qA a14) fun a19 =>
        ob (qf a19) fun a20 =>
        some (a20 != 0)))
       (some (false)))
      (some (false)))
     (some (false)))) = some (if d ≠ 0 then decide (0 < hd_ h s d) && decide (at_ b t = 0)
 else decide (sd (at_ b f) = s ∧ sd (at_ b t) ≠ s ∧ kd (at_ b t) ≠ 8) && (!p || decide (up_ (kd (at_ b f)) ≠ 0))) := by
   by_cases h0 : d = 0
   ·rw [b_nne h0, if_neg (by simpa using h0), at_val, ob_some, at_val, ob_some, side_val, ob_some]
    by_cases e1 : sd (at_ b f) = s
    ·rw [b_eq e1, side_val, ob_some]
     by_cases e2 : sd (at_ b t) = s
     ·rw [b_nne e2, decide_eq_false (p := sd (at_ b f) = s ∧ sd (at_ b t) ≠ s ∧ kd (at_ b t) ≠ 8) (fun h => h.2.1 e2)]; rfl
     ·rw [b_ne e2, kind_val, ob_some]
      by_cases e3 : kd (at_ b t) = 8
      ·rw [b_nne e3, decide_eq_false (p := sd (at_ b f) = s ∧ sd (at_ b t) ≠ s ∧ kd (at_ b t) ≠ 8) (fun h => h.2.2 e3)]; rfl
      ·rw [b_ne e3, decide_eq_true (p := sd (at_ b f) = s ∧ sd (at_ b t) ≠ s ∧ kd (at_ b t) ≠ 8) ⟨e1, e2, e3⟩]
       cases p with
       | false => rfl
       | true =>
         rw [Bool.not_true, b_f, kind_val, ob_some, up_val, ob_some]
         by_cases e4 : up_ (kd (at_ b f)) = 0 <;> simp [e4]
    ·rw [b_neq e1, decide_eq_false (p := sd (at_ b f) = s ∧ sd (at_ b t) ≠ s ∧ kd (at_ b t) ≠ 8) (fun h => e1 h.1)]; rfl
   ·have := hd h0
    rw [b_ne h0, if_pos h0, hand_val hs (by omega) (by omega), ob_some]
    by_cases e1 : hd_ h s d > 0
    ·rw [b_gt e1, at_val, ob_some, decide_eq_true (p := 0 < hd_ h s d) e1, Bool.true_and]
     by_cases e2 : at_ b t = 0 <;> simp [e2]
    ·rw [b_ngt e1, decide_eq_false (p := 0 < hd_ h s d) e1, Bool.false_and]
  rw [b_nne hm, decide_eq_true hm, decide_eq_true hs, Bool.true_and, Bool.true_and, ← main]
  rcases hs with rfl | rfl <;> rfl
 ·rw [b_ne hm, decide_eq_false hm, Bool.false_and]
theorem after_full {b : List Int} (hc : Clean b) (h : List Int) {s : Int} (hs : s = 0 ∨ s = 1) (f t d : Int) (p : Bool) :
  qCm b h s f t d p = some (if canS b h s f t d p then (mb b s f t d p, mh b h s t d, 1 - s, true) else (b, h, s, false)) := by
 obtain ⟨by_, sides, hn⟩ := gnew_val hc h s
 obtain ⟨c, hcan, hm⟩ := make_val hc h hs f t d p
 have e : canS b h s f t d p = c := Option.some.inj ((can_full b h hs f t d p 0 0 [] [] 0 []).symm.trans (hcan 0 0 [] [] 0 []))
 unfold qCm
 rw [hn, ob_some, e]
 simp only
 rcases hm with ⟨rfl, hm⟩ | ⟨rfl, hP, hm⟩
 ·rw [hm, ob_some, sw_inl, if_neg (by simp)]
 ·obtain ⟨by', sides', hm⟩ := hm (kof b h s) 0 by_ sides 0 [] (by omega)
  rw [hm, ob_some, sw_inr, if_pos rfl]
theorem lgL_full {b : List Int} (hc : Clean b) {h : List Int} {s : Int} (hs : s = 0 ∨ s = 1) {k k' : Nat} (hno : inC b (1 - s) = false) (hk : KS b s k) (hk' : KS b (1 - s) k') {m : List Int} (hm : m ∈ lgL b h s) :
  Mv4 m ∧ movS b h s (m0 m) (m1 m) (m2 m) (m3 m) = true ∧ lglM b h s m = true ∧ safeM b s m = true := by
 have h1 := mvs_ok hc hs (lgL_ok hc hs hm)
 rw [lists_eq hc h hs hno hk hk'] at hm
 have h2 := (List.mem_filter.mp hm).2
 refine ⟨h1.1, h1.2, h2, ?_⟩
 unfold lglM at h2
 rw [Bool.and_eq_true] at h2
 exact h2.1
theorem movS_can {b h : List Int} {s f t d : Int} {p : Bool} (hm : movS b h s f t d p = true) : canS b h s f t d p = true := by
 unfold movS at hm
 rw [Bool.and_eq_true] at hm
 exact hm.1
end Go.Kk.Pl
namespace Go.Kk.Pl
theorem any_none {p : Nat → Bool} {a n : Nat} : (List.range' a n).any p = false ↔ ∀ i, a ≤ i → i < a + n → p i = false := by
 rw [List.any_eq_false]
 constructor
 ·intro h i h1 h2
  have := h i (List.mem_range'_1.mpr ⟨h1, h2⟩)
  simpa using this
 ·intro h i hi
  obtain ⟨h1, h2⟩ := List.mem_range'_1.mp hi
  rw [h i h1 h2]; simp
structure ChkP (b h : List Int) (s : Int) : Prop where
 side : s = 0 ∨ s = 1
 good : ∀ i, i < 81 → bsP b i = false
 hands : ∀ k, k < 8 → ∀ j, j < 2 → bsH h k j = false
 kings : nP b 8 = 1 ∧ nP b 24 = 1
 over : ∀ k, 1 ≤ k → k < 8 → overS b h k = false
 dead : ∀ i, i < 81 → deadS (b.getD i 0) i = false
 nifu : ∀ f, f < 9 → nifuS b f = false
theorem chkP_iff {b h : List Int} {s : Int} : chkS b h s = 0 ↔ ChkP b h s := by
 constructor
 ·intro hz
  unfold chkS at hz
  split at hz
  ·omega
  rename_i h1
  split at hz
  ·omega
  rename_i h2
  split at hz
  ·omega
  rename_i h3
  split at hz
  ·omega
  rename_i h4
  split at hz
  ·omega
  rename_i h5
  split at hz
  ·omega
  rename_i h6
  split at hz
  ·omega
  rename_i h7
  rw [Bool.not_eq_true, any_none] at h2 h3 h5 h6 h7
  refine ⟨by omega, fun i hi => h2 i (by omega) (by omega), fun k hk j hj => ?_, by simpa using h4, fun k k1 k2 => h5 k k1 (by omega), fun i hi => h6 i (by omega) (by omega), fun f hf => h7 f (by omega) (by omega)⟩
  have := h3 k (by omega) (by omega)
  rw [any_none] at this
  exact this j (by omega) (by omega)
 ·intro ⟨a1, a2, a3, a4, a5, a6, a7⟩
  unfold chkS
  rw [if_neg (by omega), if_neg (by rw [any_none.mpr fun i _ hi => a2 i (by omega)]; simp), if_neg (by rw [any_none.mpr fun k _ hk => any_none.mpr fun j _ hj => a3 k (by omega) j (by omega)]; simp), if_neg (by simpa using a4),
   if_neg (by rw [any_none.mpr fun k k1 hk => a5 k k1 (by omega)]; simp), if_neg (by rw [any_none.mpr fun i _ hi => a6 i (by omega)]; simp), if_neg (by rw [any_none.mpr fun i _ hi => a7 i (by omega)]; simp)]
theorem two_le {n : Nat} {p : Nat → Bool} : (List.range n).countP p ≤ 1 ↔ ∀ i j, i < n → j < n → p i = true → p j = true → i = j := by
 rw [List.countP_eq_length_filter]
 have hn : ((List.range n).filter p).Nodup := List.Nodup.sublist List.filter_sublist List.nodup_range
 have hm : ∀ i, i ∈ (List.range n).filter p ↔ i < n ∧ p i = true := by
  intro i; rw [List.mem_filter, List.mem_range]
 match he : (List.range n).filter p with
 | [] =>
   rw [he] at hm
   refine ⟨fun _ i j hi _ h1 _ => ?_, fun _ => by simp⟩
   have := (hm i).mpr ⟨hi, h1⟩
   cases this
 | [a] =>
   rw [he] at hm
   refine ⟨fun _ i j hi hj h1 h2 => ?_, fun _ => by simp⟩
   have e1 := (hm i).mpr ⟨hi, h1⟩
   have e2 := (hm j).mpr ⟨hj, h2⟩
   rw [List.mem_singleton] at e1 e2
   rw [e1, e2]
 | a :: c :: L =>
   rw [he] at hm hn
   refine ⟨fun h => ?_, fun h => ?_⟩
   ·simp at h
   ·exfalso
    have ea := (hm a).mp (by simp)
    have ec := (hm c).mp (by simp)
    have := h a c ea.1 ec.1 ea.2 ec.2
    subst this
    simp at hn
theorem nF_one {b : List Int} {x : Int} {f : Nat} : nF b x f ≤ 1 ↔ ∀ r r', r < 9 → r' < 9 → b.getD (9 * f + r) 0 = x → b.getD (9 * f + r') 0 = x → r = r' := by
 unfold nF
 rw [two_le]
 constructor
 ·intro h r r' hr hr' e e'
  exact h r r' hr hr' (by simpa using e) (by simpa using e')
 ·intro h r r' hr hr' e e'
  exact h r r' hr hr' (by simpa using e) (by simpa using e')
theorem nF_zero {b : List Int} {x : Int} {f : Nat} : nF b x f = 0 ↔ ∀ r, r < 9 → b.getD (9 * f + r) 0 ≠ x := by
 unfold nF
 rw [List.countP_eq_zero]
 constructor
 ·intro h r hr e
  exact h r (List.mem_range.mpr hr) (by simpa using e)
 ·intro h r hr e
  exact h r (List.mem_range.mp hr) (by simpa using e)
theorem nP_KS {b : List Int} {s : Int} {k : Nat} (h : KS b s k) : nP b (pc s 8) = 1 := by
 show cntS (fun i => b.getD i 0 == pc s 8) = 1
 rw [cnt_one]
 exact ⟨k, h.1, fun i hi => by rw [beq_iff_eq]; exact h.2 i hi⟩
theorem sound_of {b h : List Int} {s : Int} (hl : b.length = 81) (hf : Fits8 h) (hz : chkS b h s = 0) : Sound b h s := by
 obtain ⟨hc, _⟩ := chk_zero_clean hl hz
 obtain ⟨v, hv, hS⟩ := check_val hc hf s
 rw [refCheck_val hl hf] at hv
 exact hS (by rw [← Option.some.inj hv]; exact hz)
theorem chk_after {b h : List Int} {s f t d : Int} {p : Bool} (hl : b.length = 81) (hf : Fits8 h) (hh : h.length = 16) (hz : chkS b h s = 0) (hm : movS b h s f t d p = true) : chkS (mb b s f t d p) (mh b h s t d) (1 - s) = 0 := by
 obtain ⟨hc, hs⟩ := chk_zero_clean hl hz
 have hP := (movP hm).2
 have hS := sound_of hl hf hz
 have hC := chkP_iff.mp hz
 have hs' : 1 - s = 0 ∨ 1 - s = 1 := by omega
 obtain ⟨k, hk⟩ := ks_of hz hs
 obtain ⟨k', hk'⟩ := ks_of hz hs'
 have ht := hP.to_
 have hla := laid_ok hs hP
 have hc2 : Clean (mb b s f t d p) := mb_clean hc _ _ _ _ _
 have hmv : if d ≠ 0 then (!deadI (16 * s + d) t && (decide (d ≠ 1) || decide (nF b (16 * s + d) (t.toNat / 9) = 0))) = true
   else (rch (at_ b f) f.toNat t.toNat (tk b) && if p = true then mayS (at_ b f) f t else !mustS (at_ b f) t) = true := by
  have := hm
  unfold movS at this
  rw [Bool.and_eq_true] at this
  have := this.2
  by_cases hd : d = 0
  ·rw [if_neg (by simpa using hd)] at this ⊢
   exact this
  ·rw [if_pos hd] at this ⊢
   exact this
 have hhand : ∀ j : Int, (j = 0 ∨ j = 1) → ∀ i : Int, 0 ≤ i → i < 8 → (hd_ (mh b h s t d) j i = hd_ h j i ∨ (1 ≤ i ∧ 0 ≤ hd_ (mh b h s t d) j i)) := by
  intro j hj i i0 i8
  unfold mh
  by_cases hd : d = 0
  ·have hmm := hP.move hd
   rw [if_neg (by simpa using hd)]
   by_cases h0 : at_ b t = 0
   ·rw [if_pos h0]; exact .inl rfl
   ·rw [if_neg h0]
    have hr := rw_range ((hc.at_ t).resolve_left h0) hmm.2.2.2.2.2.1
    rw [hd_hset hh hs (by omega) (by omega) 1 hj i0 i8]
    split
    ·right
     rename_i he
     have h1 := hS.hands (rw_ (kd (at_ b t))) (by omega) (by omega)
     have h2 := hS.counts (rw_ (kd (at_ b t))) (by omega) (by omega)
     have h3 : 0 ≤ hd_ h s (rw_ (kd (at_ b t))) ∧ hd_ h s (rw_ (kd (at_ b t))) ≤ 18 := by
      rcases hs with rfl | rfl <;> omega
     rw [w_8 (by omega) (by omega)]
     omega
    ·exact .inl rfl
  ·have hmm := hP.drop hd
   rw [if_pos hd, hd_hset hh hs (by omega) (by omega) (-1) hj i0 i8]
   split
   ·right
    have := fits_hd hf s d
    rw [w_8 (by omega) (by omega)]
    omega
   ·exact .inl rfl
 rw [chkP_iff]
 refine ⟨hs', fun i hi => ?_, fun i hi j hj => ?_, ?_, fun i i1 i2 => ?_, fun i hi => ?_, fun g hg => ?_⟩
 ·unfold bsP
  rw [decide_eq_false_iff_not]
  rintro ⟨h1, h2⟩
  have := hc2.at_ i
  rw [at_in (by omega), tn] at this
  exact this.elim h1 (fun h => h h2)
 ·have h1 := hC.hands i hi j hj
  unfold bsH at h1 ⊢
  rw [decide_eq_false_iff_not] at h1 ⊢
  have h2 := hhand j (by omega) i (by omega) (by omega)
  unfold hd_ at h2
  rw [show (j : Int).toNat * 8 + (i : Int).toNat = j * 8 + i from rfl] at h2
  omega
 ·have e1 := nP_KS (ks_mb hc hs hP hk)
  have e2 := nP_KS (ks_mb' hc hs hP hk')
  rw [pc8 hs] at e1
  rw [pc8 hs'] at e2
  rcases hs with rfl | rfl
  ·exact ⟨e1, e2⟩
  ·exact ⟨e2, e1⟩
 ·have h1 := hC.over i i1 i2
  unfold overS at h1 ⊢
  rw [decide_eq_false_iff_not] at h1 ⊢
  have := pieces_same hS hf hh hP (k := (i : Int)) (by omega) (by omega)
  omega
 ·rw [mb_getD hc hs hP hi]
  by_cases h1 : i = t.toNat
  ·rw [if_pos h1, h1]
   unfold laid
   by_cases hd : d = 0
   ·rw [if_neg (by simpa using hd)]
    rw [if_neg (by simpa using hd)] at hmv
    have hmm := hP.move hd
    cases p with
    | true =>
      rw [if_pos rfl]
      obtain ⟨u1, u2, u3⟩ := up_range (hmm.2.2.2.2.2.2 rfl)
      have : 9 ≤ up_ (kd (at_ b f)) := by
       have hu := hmm.2.2.2.2.2.2 rfl
       unfold up_ at hu ⊢
       split
       ·omega
       ·rename_i h; rw [if_neg h] at hu; exact absurd rfl hu
      unfold deadS
      rw [kd_of hs u1 u2 u3, decide_eq_false_iff_not]
      omega
    | false =>
      rw [if_neg (by simp)]
      rw [if_neg (by simp), Bool.and_eq_true] at hmv
      have h2 := hmv.2
      cases hdd : deadS (at_ b f) t.toNat with
      | false => rfl
      | true =>
        exfalso
        have hk : kd (at_ b f) = 1 ∨ kd (at_ b f) = 2 ∨ kd (at_ b f) = 3 := by
         have := of_decide_eq_true hdd
         omega
        unfold mustS at h2
        rw [show t = ((t.toNat : Nat) : Int) by omega, deadI_nat _ (by omega), hdd] at h2
        have : up_ (kd (at_ b f)) ≠ 0 := by unfold up_; rw [if_pos (by omega)]; omega
        rw [decide_eq_true this] at h2
        cases h2
   ·rw [if_pos hd]
    rw [if_pos hd, Bool.and_eq_true] at hmv
    have h2 := hmv.1
    rw [show t = ((t.toNat : Nat) : Int) by omega, deadI_nat _ (by omega)] at h2
    simpa using h2
  ·rw [if_neg h1]
   by_cases h2 : d = 0 ∧ i = f.toNat
   ·rw [if_pos h2]
    unfold deadS
    rw [kd_zero]
    simp
   ·rw [if_neg h2]; exact hC.dead i hi
 ·have key : ∀ x : Int, (x = 1 ∨ x = 17) → nF (mb b s f t d p) x g ≤ 1 := by
   intro x hx
   have hxk : kd x = 1 := by rcases hx with rfl | rfl <;> decide
   have hold : nF b x g ≤ 1 := by
    have := hC.nifu g hg
    unfold nifuS at this
    simp only [Bool.or_eq_false_iff, decide_eq_false_iff_not] at this
    rcases hx with rfl | rfl <;> omega
   rw [nF_one] at hold ⊢
   have from_ : ∀ r, r < 9 → (mb b s f t d p).getD (9 * g + r) 0 = x → (b.getD (9 * g + r) 0 = x ∧ ¬ (d = 0 ∧ 9 * g + r = f.toNat)) ∨ 9 * g + r = t.toNat := by
    intro r hr e
    rw [mb_getD hc hs hP (by omega)] at e
    by_cases h1 : 9 * g + r = t.toNat
    ·exact .inr h1
    ·rw [if_neg h1] at e
     by_cases h2 : d = 0 ∧ 9 * g + r = f.toNat
     ·rw [if_pos h2] at e
      rcases hx with rfl | rfl <;> omega
     ·rw [if_neg h2] at e
      exact .inl ⟨e, h2⟩
   have lay : ∀ r, r < 9 → 9 * g + r = t.toNat → (mb b s f t d p).getD (9 * g + r) 0 = x → ∀ r', r' < 9 → (b.getD (9 * g + r') 0 = x ∧ ¬ (d = 0 ∧ 9 * g + r' = f.toNat)) → False := by
    intro r hr he e r' hr' e'
    rw [mb_getD hc hs hP (by omega), if_pos he] at e
    unfold laid at e
    by_cases hd : d = 0
    ·rw [if_neg (by simpa using hd)] at e hmv
     have hmm := hP.move hd
     cases p with
     | true =>
       rw [if_pos rfl] at e
       have hu := hmm.2.2.2.2.2.2 rfl
       obtain ⟨u1, u2, u3⟩ := up_range hu
       have : kd (16 * s + up_ (kd (at_ b f))) = 1 := by rw [e, hxk]
       rw [kd_of hs u1 u2 u3] at this
       unfold up_ at this
       split at this <;> omega
     | false =>
       rw [if_neg (by simp)] at e
       rw [Bool.and_eq_true] at hmv
       have hr1 := hmv.1
       have hfl : df f.toNat t.toNat = 0 := by
        rcases rch_iff.mp hr1 with h1 | h1
        ·have h2 := of_decide_eq_true h1
         rw [e, hxk] at h2
         unfold stpK at h2
         omega
        ·have h2 := of_decide_eq_true h1.1
         rw [e, hxk] at h2
         unfold slK at h2
         omega
       unfold df fl at hfl
       have hfe : f.toNat = 9 * g + f.toNat % 9 := by omega
       have : b.getD (9 * g + f.toNat % 9) 0 = x := by
        rw [← hfe, ← at_in ⟨hmm.1, hmm.2.1⟩]; exact e
       have := hold (f.toNat % 9) r' (by omega) hr' this e'.1
       exact e'.2 ⟨hd, by omega⟩
    ·rw [if_pos hd] at e hmv
     rw [Bool.and_eq_true] at hmv
     have hdd := hP.drop hd
     have hd1 : d = 1 := by rcases hs with rfl | rfl <;> rcases hx with rfl | rfl <;> omega
     have hz0 : nF b (16 * s + d) (t.toNat / 9) = 0 := by
      have := hmv.2
      rw [decide_eq_false (p := d ≠ 1) (by simpa using hd1), Bool.false_or, decide_eq_true_eq] at this
      exact this
     rw [e, show t.toNat / 9 = g by omega, nF_zero] at hz0
     exact hz0 r' hr' e'.1
   intro r r' hr hr' e e'
   rcases from_ r hr e with h1 | h1
   ·rcases from_ r' hr' e' with h2 | h2
    ·exact hold r r' hr hr' h1.1 h2.1
    ·exact (lay r' hr' h2 e' r hr h1).elim
   ·rcases from_ r' hr' e' with h2 | h2
    ·exact (lay r hr h1 e r' hr' h2).elim
    ·omega
  unfold nifuS
  have k1 := key 1 (.inl rfl)
  have k2 := key 17 (.inr rfl)
  rw [decide_eq_false (by omega), decide_eq_false (by omega)]
  rfl
theorem atk_after {b h : List Int} {s f t d : Int} {p : Bool} (hl : b.length = 81) (hf : Fits8 h) (hh : h.length = 16) (hz : chkS b h s = 0) (hm : movS b h s f t d p = true) (hsafe : inC (mb b s f t d p) s = false) : atkS (mb b s f t d p) (mh b h s t d) (1 - s) = 0 := by
 have h1 := chk_after hl hf hh hz hm
 unfold atkS
 rw [if_neg (by rw [h1]; simp), show 1 - (1 - s) = s by omega, hsafe]
 rfl
theorem atk_chk {b h : List Int} {s : Int} (hz : atkS b h s = 0) : chkS b h s = 0 := by
 unfold atkS at hz
 split at hz
 ·rename_i h; exact absurd hz h
 ·rename_i h; simpa using h
end Go.Kk.Pl
namespace Go.Kk.Pl
theorem stuck_val {b : List Int} (hc : Clean b) (h : List Int) {s : Int} (hs : s = 0 ∨ s = 1) {k k' : Nat} (hk : KS b s k) (hk' : KS b (1 - s) k') :
  qCs b h s (byOf b) (sidesOf b) = some (decide ((lgL b h s).length = 0), b, h, s, byOf b, sidesOf b) := by
 unfold qCs
 rw [legalAll_val hc h hs hk hk', ob_some]
 simp only
 congr 2
 rw [Bool.eq_iff_iff, decide_eq_true_eq, beq_iff_eq]
 exact ⟨fun h => by simpa using h, fun h => by rw [h]; rfl⟩
theorem mated_val {b : List Int} (hc : Clean b) (h : List Int) {s : Int} (hs : s = 0 ∨ s = 1) {k k' : Nat} (hk : KS b s k) (hk' : KS b (1 - s) k') :
  qBL b h s (byOf b) (sidesOf b) = some (inC b s && decide ((lgL b h s).length = 0), b, h, s, byOf b, sidesOf b) := by
 unfold qBL
 rw [inCheck_val hc h s (by omega), ob_some]
 cases inC b s with
 | false => rfl
 | true => rw [b_t, stuck_val hc h hs hk hk', ob_some, Bool.true_and]
end Go.Kk.Pl
namespace Go.Kk.Pl
theorem getD_hand (h : List Int) (s k : Nat) (hk : k < 8) : (List.take 8 (List.drop (s * 7 + s) h)).getD k 0 = h.getD (s * 8 + k) 0 := by
 rw [List.getD_eq_getElem?_getD, List.getD_eq_getElem?_getD, List.getElem?_take, if_pos hk, List.getElem?_drop, show s * 7 + s + k = s * 8 + k by omega]
abbrev B64 := BitVec 64
def bv (n : Int) : B64 := BitVec.ofInt 64 n
def un (x : B64) : Int := (x.toNat : Int)
theorem bv_un (x : B64) : bv (un x) = x := by
 unfold bv un
 rw [BitVec.ofInt_natCast, BitVec.ofNat_toNat]; simp
theorem xor_un (a b : Int) : bitop .xor .u64 a b = un (bv a ^^^ bv b) := by
 show IntKind.wrap .u64 _ = _
 have h : IntKind.wrap .u64 ((BitVec.ofInt 64 a ^^^ BitVec.ofInt 64 b).toNat : Int) = ((BitVec.ofInt 64 a ^^^ BitVec.ofInt 64 b).toNat : Int) :=
  wrap_of_range (by show (0 : Int) ≤ _; omega) (by show _ ≤ (18446744073709551615 : Int); have := (BitVec.ofInt 64 a ^^^ BitVec.ofInt 64 b).isLt; omega)
 exact h
def pcB (q x : Int) : B64 := bv ((qS q x).getD 0)
def hnB (s k n : Int) : B64 := bv ((qc s k n).getD 0)
def sdB : B64 := bv (qe.getD 0)
theorem kMix_un (x : Int) : ∃ v : B64, qx x = some (un v) := by
 unfold qx
 rw [xor_un]
 exact ⟨_, rfl⟩
theorem un_of {m : Option Int} (h : ∃ v : B64, m = some (un v)) : m = some (un (bv (m.getD 0))) := by
 obtain ⟨v, rfl⟩ := h
 simp [bv_un]
theorem br_un {b : Bool} {x y : Option Int} (hx : ∃ v : B64, x = some (un v)) (hy : ∃ v : B64, y = some (un v)) : ∃ v : B64, br b x y = some (un v) := by cases b <;> assumption
theorem ob_un {α : Type} {m : Option α} {k : α → Option Int} (hm : ∃ v, m = some v) (hk : ∀ a, m = some a → ∃ v : B64, k a = some (un v)) : ∃ v : B64, ob m k = some (un v) := by
 obtain ⟨a, rfl⟩ := hm
 exact hk a rfl
theorem kPiece_un (q x : Int) : qS q x = some (un (pcB q x)) := un_of (by
 unfold qS
 refine ob_un (kind_tot _) fun a _ => ?_
 refine br_un ⟨0, rfl⟩ (br_un ⟨0, rfl⟩ (br_un ⟨0, rfl⟩ (ob_un (mix_tot _) fun a ha => ?_)))
 obtain ⟨v, hv⟩ := kMix_un _
 rw [hv] at ha
 cases ha
 exact ⟨v, rfl⟩)
theorem kHand_un (s k n : Int) : qc s k n = some (un (hnB s k n)) := un_of (by
 have tail : ∀ x : Int, ∃ v : B64, (ob (qx x) fun r => some r) = some (un v) := fun x => by
  obtain ⟨v, hv⟩ := kMix_un x
  exact ⟨v, by rw [hv]; rfl⟩
 unfold qc
 repeat first | exact ⟨0, rfl⟩ | exact tail _ | apply br_un)
theorem kSide_un : qe = some (un sdB) := un_of (by
 unfold qe
 obtain ⟨v, hv⟩ := kMix_un 1048576
 exact ⟨v, by rw [hv]; rfl⟩)
def boardB (b : List Int) : Nat → B64
 | 0 => 0
 | n + 1 => boardB b n ^^^ pcB n (b.getD n 0)
def handB (h : List Int) (s : Nat) : Nat → B64
 | 0 => 0
 | n + 1 => handB h s n ^^^ hnB s n (conv .i8 .i64 (h.getD (s * 8 + n) 0))
def handsB (h : List Int) : B64 := handB h 0 8 ^^^ handB h 1 8
theorem xor_cancel (a b : B64) : a ^^^ (b ^^^ a) = b := by rw [BitVec.xor_comm b a, ← BitVec.xor_assoc, BitVec.xor_self, BitVec.zero_xor]
theorem board_loop : ∀ (n : Nat) (q : Nat) (acc : B64) (b c d : List Int) (e : Int) (f : Nat), q + n = 81 →
  qW (f + n + 1) (un acc) b q c d e = some (un (acc ^^^ boardB b q ^^^ boardB b 81), c, d, e) := by
 intro n
 induction n with
 | zero =>
   intro q acc b c d e f hq
   have : q = 81 := by omega
   subst this
   show qv (qW (f + 0)) (un acc) b _ c d e = _
   unfold qv
   rw [br_false (by decide), BitVec.xor_assoc, BitVec.xor_self, BitVec.xor_zero]
 | succ n ih =>
   intro q acc b c d e f hq
   show qv (qW (f + n + 1)) (un acc) b q c d e = _
   unfold qv
   rw [br_true (by simp; omega), br_true (inB_true (by omega) (by omega))]
   simp only [cond_true, Int.toNat_natCast]
   rw [kPiece_un]
   show qW (f + n + 1) (bitop .xor .u64 (un acc) (un (pcB q (b.getD q 0)))) b (IntKind.wrap .i64 ((q : Int) + 1)) c d e = _
   rw [wrap_small (by omega) (by omega), xor_un, bv_un, bv_un]
   have := ih (q + 1) (acc ^^^ pcB q (b.getD q 0)) b c d e f (by omega)
   rw [Int.natCast_add] at this
   rw [show ((q : Int) + 1) = (q : Int) + (1 : Nat) from rfl, this]
   congr 3
   show acc ^^^ pcB q (b.getD q 0) ^^^ (boardB b q ^^^ pcB q (b.getD q 0)) ^^^ boardB b 81 = _
   rw [BitVec.xor_assoc acc, xor_cancel]
theorem hand_loop (s : Nat) : ∀ (n : Nat) (k : Nat) (acc : B64) (h x2 : List Int) (x3 : Int) (x6 x7 : List Int) (x8 : Int) (f : Nat), k + n = 8 →
  qd (f + n + 1) (un acc) s x2 x3 (List.take 8 (List.drop (s * 7 + s) h)) k x6 x7 x8 = some (un (acc ^^^ handB h s k ^^^ handB h s 8), x2, x3, x6, x7, x8) := by
 intro n
 induction n with
 | zero =>
   intro k acc h x2 x3 x6 x7 x8 f hk
   have : k = 8 := by omega
   subst this
   show qu (qd (f + 0)) (un acc) s x2 x3 _ _ x6 x7 x8 = _
   unfold qu
   rw [br_false (by decide), BitVec.xor_assoc, BitVec.xor_self, BitVec.xor_zero]
 | succ n ih =>
   intro k acc h x2 x3 x6 x7 x8 f hk
   show qu (qd (f + n + 1)) (un acc) s x2 x3 _ k x6 x7 x8 = _
   unfold qu
   rw [br_true (by simp; omega), br_true (inB_true (by omega) (by omega))]
   simp only [cond_true, Int.toNat_natCast]
   rw [getD_hand h s k (by omega), kHand_un]
   show qd (f + n + 1) (bitop .xor .u64 (un acc) (un (hnB s k (conv .i8 .i64 (h.getD (s * 8 + k) 0))))) s x2 x3 _ (IntKind.wrap .i64 ((k : Int) + 1)) x6 x7 x8 = _
   rw [wrap_small (by omega) (by omega), xor_un, bv_un, bv_un]
   have := ih (k + 1) (acc ^^^ hnB s k (conv .i8 .i64 (h.getD (s * 8 + k) 0))) h x2 x3 x6 x7 x8 f (by omega)
   rw [Int.natCast_add] at this
   rw [show ((k : Int) + 1) = (k : Int) + (1 : Nat) from rfl, this]
   congr 3
   show acc ^^^ hnB s k (conv .i8 .i64 (h.getD (s * 8 + k) 0)) ^^^ (handB h s k ^^^ hnB s k (conv .i8 .i64 (h.getD (s * 8 + k) 0))) ^^^ handB h s 8 = _
   rw [BitVec.xor_assoc acc, xor_cancel]
theorem hands_loop (acc : B64) (h c : List Int) (e : Int) : qO many (un acc) h 0 c h e = some (un (acc ^^^ handsB h), c, h, e) := by
 obtain ⟨f, hf⟩ := many_eq 2 (by omega)
 obtain ⟨g, hg⟩ := many_eq 8 (by omega)
 have step : ∀ (s : Nat) (hs : s < 2) (acc : B64) (f : Nat), qO (f + 1) (un acc) h s c h e = qO f (un (acc ^^^ handB h s 8)) h (s + 1 : Nat) c h e := by
  intro s hs acc f
  show qw (qO f) (un acc) h s c h e = _
  unfold qw
  rw [br_true (by simp; omega), br_true (inB_true (by omega) (by omega)), hg]
  show ob (qd (g + 8 + 1) (un acc) s h s (List.take 8 (List.drop (Int.toNat s * 7 + Int.toNat s) h)) (0 : Nat) c h e) _ = _
  rw [Int.toNat_natCast, hand_loop s 8 0 acc h h s c h e g (by omega)]
  show qO f (un (acc ^^^ 0 ^^^ handB h s 8)) h (IntKind.wrap .i64 ((s : Int) + 1)) c h e = _
  have z : acc ^^^ (0 : B64) = acc := by simp
  rw [wrap_small (by omega) (by omega), z]
  rfl
 rw [hf]
 have e1 := step 0 (by omega) acc (f + 2)
 have e2 := step 1 (by omega) (acc ^^^ handB h 0 8) (f + 1)
 rw [show f + 2 + 1 = f + 2 + 1 from rfl, show (0 : Int) = ((0 : Nat) : Int) from rfl, e1]
 rw [show f + 2 = f + 1 + 1 from rfl, e2]
 show qw (qO f) _ h 2 c h e = _
 unfold qw
 rw [br_false (by decide), BitVec.xor_assoc]
 rfl
def keyB (b h : List Int) (s : Int) : B64 := bif s == 1 then boardB b 81 ^^^ handsB h ^^^ sdB else boardB b 81 ^^^ handsB h
theorem kOf_un (b h : List Int) (s : Int) : qAO b h s = some (un (keyB b h s)) := by
 obtain ⟨g, hg⟩ := many_eq 81 (by omega)
 have e2 : qW many 0 b 0 b h s = some (un (boardB b 81), b, h, s) := by
  rw [hg]
  have := board_loop 81 0 0 b b h s g (by omega)
  rw [show (0 : B64) ^^^ boardB b 0 ^^^ boardB b 81 = boardB b 81 by show (0 : B64) ^^^ 0 ^^^ _ = _; simp] at this
  exact this
 unfold qAO
 rw [e2]
 show ob (qO many (un (boardB b 81)) h 0 b h s) _ = _
 rw [hands_loop]
 show br (s == 1) (ob qe fun r10 => some (bitop .xor .u64 (un (boardB b 81 ^^^ handsB h)) r10)) (some (un (boardB b 81 ^^^ handsB h))) = _
 unfold keyB
 cases hs : s == 1
 ·rfl
 ·rw [kSide_un]
  show some (bitop .xor .u64 _ _) = _
  rw [xor_un, bv_un, bv_un]
  rfl
theorem boardB_set (b : List Int) (i : Nat) (x : Int) (hi : i < b.length) : ∀ n, boardB (b.set i x) n = if i < n then boardB b n ^^^ pcB i (b.getD i 0) ^^^ pcB i x else boardB b n := by
 intro n
 induction n with
 | zero => rfl
 | succ n ih =>
   show boardB (b.set i x) n ^^^ pcB n ((b.set i x).getD n 0) = _
   rw [ih]
   rcases Nat.lt_trichotomy i n with h | h | h
   ·rw [if_pos h, if_pos (by omega)]
    have : (b.set i x).getD n 0 = b.getD n 0 := by
     rw [List.getD_eq_getElem?_getD, List.getD_eq_getElem?_getD, List.getElem?_set_ne (by omega)]
    rw [this]
    show boardB b n ^^^ pcB i (b.getD i 0) ^^^ pcB i x ^^^ pcB n (b.getD n 0) = boardB b n ^^^ pcB n (b.getD n 0) ^^^ pcB i (b.getD i 0) ^^^ pcB i x
    ac_rfl
   ·subst h
    rw [if_neg (by omega), if_pos (by omega)]
    have : (b.set i x).getD i 0 = x := by
     rw [List.getD_eq_getElem?_getD, List.getElem?_set_self hi]; rfl
    rw [this]
    show boardB b i ^^^ pcB i x = boardB b i ^^^ pcB i (b.getD i 0) ^^^ pcB i (b.getD i 0) ^^^ pcB i x
    rw [BitVec.xor_assoc (boardB b i), BitVec.xor_self, BitVec.xor_zero]
   ·rw [if_neg (by omega), if_neg (by omega)]
    have : (b.set i x).getD n 0 = b.getD n 0 := by
     rw [List.getD_eq_getElem?_getD, List.getD_eq_getElem?_getD, List.getElem?_set_ne (by omega)]
    rw [this]
    rfl
theorem handB_set (h : List Int) (s0 k0 : Nat) (x : Int) (hk : k0 < 8) (hi : s0 * 8 + k0 < h.length) (s : Nat) : ∀ n, n ≤ 8 → handB (h.set (s0 * 8 + k0) x) s n =
  if s = s0 ∧ k0 < n then handB h s n ^^^ hnB s0 k0 (conv .i8 .i64 (h.getD (s0 * 8 + k0) 0)) ^^^ hnB s0 k0 (conv .i8 .i64 x) else handB h s n := by
 intro n
 induction n with
 | zero => intro _; rw [if_neg (by omega)]; rfl
 | succ n ih =>
   intro hn
   show handB (h.set (s0 * 8 + k0) x) s n ^^^ hnB s n (conv .i8 .i64 ((h.set (s0 * 8 + k0) x).getD (s * 8 + n) 0)) = _
   rw [ih (by omega)]
   by_cases hq : s * 8 + n = s0 * 8 + k0
   ·have e1 : s = s0 := by omega
    have e2 : n = k0 := by omega
    subst e1
    subst e2
    rw [if_neg (by omega), if_pos (by omega)]
    have : (h.set (s * 8 + n) x).getD (s * 8 + n) 0 = x := by
     rw [List.getD_eq_getElem?_getD, List.getElem?_set_self hi]; rfl
    rw [this]
    show handB h s n ^^^ hnB s n (conv .i8 .i64 x) = handB h s n ^^^ hnB s n (conv .i8 .i64 (h.getD (s * 8 + n) 0)) ^^^ hnB s n (conv .i8 .i64 (h.getD (s * 8 + n) 0)) ^^^ hnB s n (conv .i8 .i64 x)
    rw [BitVec.xor_assoc (handB h s n), BitVec.xor_self, BitVec.xor_zero]
   ·have : (h.set (s0 * 8 + k0) x).getD (s * 8 + n) 0 = h.getD (s * 8 + n) 0 := by
     rw [List.getD_eq_getElem?_getD, List.getD_eq_getElem?_getD, List.getElem?_set_ne (by omega)]
    rw [this]
    by_cases hc : s = s0 ∧ k0 < n
    ·rw [if_pos hc, if_pos (by omega)]
     show _ = handB h s n ^^^ hnB s n (conv .i8 .i64 (h.getD (s * 8 + n) 0)) ^^^ _ ^^^ _
     ac_rfl
    ·rw [if_neg hc, if_neg (by omega)]
     rfl
theorem handsB_set (h : List Int) (s0 k0 : Nat) (x : Int) (hs : s0 < 2) (hk : k0 < 8) (hh : h.length = 16) :
  handsB (h.set (s0 * 8 + k0) x) = handsB h ^^^ hnB s0 k0 (conv .i8 .i64 (h.getD (s0 * 8 + k0) 0)) ^^^ hnB s0 k0 (conv .i8 .i64 x) := by
 unfold handsB
 rw [handB_set h s0 k0 x hk (by omega) 0 8 (Nat.le_refl _), handB_set h s0 k0 x hk (by omega) 1 8 (Nat.le_refl _)]
 have : s0 = 0 ∨ s0 = 1 := by omega
 rcases this with rfl | rfl
 ·rw [if_pos (by omega), if_neg (by omega)]; ac_rfl
 ·rw [if_neg (by omega), if_pos (by omega)]; ac_rfl
theorem kof_un (b h : List Int) (s : Int) : kof b h s = un (keyB b h s) := by unfold kof; rw [kOf_un]; rfl
theorem kp_un (q x : Int) : kp q x = un (pcB q x) := by unfold kp; rw [kPiece_un]; rfl
theorem kh_un (s k n : Int) : kh s k n = un (hnB s k n) := by unfold kh; rw [kHand_un]; rfl
theorem kside_un : kside = un sdB := by unfold kside; rw [kSide_un]; rfl
theorem pcB_none {q x : Int} (h : kd x = 0) : pcB q x = pcB q 0 := by
 have e : ∀ y, kd y = 0 → qS q y = some 0 := by
  intro y hy
  unfold qS
  rw [kind_val, ob_some, hy]
  rfl
 unfold pcB
 rw [e x h, e 0 kd_zero]
theorem keyB_put {b : List Int} (hl : b.length = 81) {q : Int} (hq : 0 ≤ q ∧ q < 81) (x : Int) (h : List Int) (s : Int) : keyB (put b q x) h s = keyB b h s ^^^ pcB q (at_ b q) ^^^ pcB q x := by
 have e : pcB q (if kd x = 0 then 0 else x) = pcB q x := by
  split
  ·rename_i h; exact (pcB_none h).symm
  ·rfl
 unfold keyB put at_
 rw [if_pos hq, if_pos hq]
 revert e
 generalize (if kd x = 0 then 0 else x) = y
 intro e
 have hset := boardB_set b q.toNat y (by omega) 81
 rw [if_pos (show q.toNat < 81 by omega), show ((q.toNat : Nat) : Int) = q by omega, e] at hset
 rw [hset]
 cases s == 1 <;> simp only [cond_true, cond_false] <;> ac_rfl
theorem keyB_hset {h : List Int} (hh : h.length = 16) {s k : Int} (hs : s = 0 ∨ s = 1) (k0 : 0 ≤ k) (k1 : k < 8) (d : Int) (b : List Int) (S : Int) :
  keyB b (hset h s k d) S = keyB b h S ^^^ hnB s k (hd_ h s k) ^^^ hnB s k (IntKind.wrap .i8 (hd_ h s k + d)) := by
 have e2 : ∀ x, conv .i8 .i64 x = x := fun _ => rfl
 have hset' := handsB_set h s.toNat k.toNat (IntKind.wrap .i8 (hd_ h s k + d)) (by omega) (by omega) hh
 rw [e2, e2, show ((s.toNat : Nat) : Int) = s by omega, show ((k.toNat : Nat) : Int) = k by omega] at hset'
 unfold keyB hset
 rw [hset']
 unfold hd_
 cases S == 1 <;> simp only [cond_true, cond_false] <;> ac_rfl
theorem keyB_turn {s : Int} (hs : s = 0 ∨ s = 1) (b h : List Int) : keyB b h (1 - s) = keyB b h s ^^^ sdB := by
 rcases hs with rfl | rfl
 ·rfl
 ·show boardB b 81 ^^^ handsB h = boardB b 81 ^^^ handsB h ^^^ sdB ^^^ sdB
  rw [BitVec.xor_assoc _ sdB, BitVec.xor_self, BitVec.xor_zero]
theorem kput_un {b : List Int} (hl : b.length = 81) {q : Int} (hq : 0 ≤ q ∧ q < 81) (x : Int) (h : List Int) (s : Int) : kput (un (keyB b h s)) b q x = un (keyB (put b q x) h s) := by
 unfold kput
 rw [kp_un, kp_un, xor_un, xor_un, bv_un, bv_un, bv_un, bv_un, keyB_put hl hq, BitVec.xor_assoc]
theorem khand_un {h : List Int} (hh : h.length = 16) {s k : Int} (hs : s = 0 ∨ s = 1) (k0 : 0 ≤ k) (k1 : k < 8) {d : Int} (b : List Int) (S : Int) (r0 : -128 ≤ hd_ h s k + d) (r1 : hd_ h s k + d ≤ 127) :
  khand (un (keyB b h S)) h s k d = un (keyB b (hset h s k d) S) := by
 unfold khand
 rw [kh_un, kh_un, xor_un, xor_un, bv_un, bv_un, bv_un, bv_un, keyB_hset hh hs k0 k1, BitVec.xor_assoc, wrap_small (by omega) (by omega), wrap8 r0 r1]
theorem kturn_un {s : Int} (hs : s = 0 ∨ s = 1) (b h : List Int) : kturn (un (keyB b h s)) = un (keyB b h (1 - s)) := by
 unfold kturn
 rw [kside_un, xor_un, bv_un, bv_un, keyB_turn hs]
theorem mkey_val {b h : List Int} {s : Int} (hS : Sound b h s) (hf : Fits8 h) (hh : h.length = 16) {f t d : Int} {p : Bool} (hP : CanP b h s f t d p) :
  mkey (kof b h s) b h s f t d p = kof (mb b s f t d p) (mh b h s t d) (1 - s) := by
 rw [kof_un, kof_un]
 unfold mkey mb mh
 by_cases hd : d = 0
 ·obtain ⟨f0, f1, f2, g1, g2, g3, g4⟩ := hP.move hd
  simp only [if_neg (show ¬ (d ≠ 0) from fun h => h hd)]
  rw [kput_un hS.clean.len ⟨f0, f1⟩, kput_un (hS.clean.put f 0).len hP.to_]
  by_cases ht : at_ b t = 0
  ·simp only [if_pos ht]
   rw [kturn_un hS.side]
  ·have hk := (hS.clean.at_ t).resolve_left ht
   obtain ⟨r1, r2⟩ := rw_range hk g3
   have hc := hS.counts _ r1 r2
   have h0 := hS.hands (rw_ (kd (at_ b t))) (by omega) r2
   have hsd := hS.side
   simp only [if_neg ht]
   rw [khand_un hh hS.side (by omega) r2 _ _ (by rcases hsd with rfl | rfl <;> omega) (by rcases hsd with rfl | rfl <;> omega), kturn_un hS.side]
 ·obtain ⟨d0, d1, d2, d3, g1, g2⟩ := hP.drop hd
  have hb := fits_hd hf s d
  simp only [if_pos (show d ≠ 0 from hd)]
  rw [khand_un hh hS.side (by omega) d1 _ _ (by omega) (by omega), kput_un hS.clean.len hP.to_, kturn_un hS.side]
end Go.Kk.Pl
namespace Go.Kk.Pl
structure Going (b h : List Int) (s : Int) : Prop where
 sound : Sound b h s
 fits : Fits8 h
 len : h.length = 16
end Go.Kk.Pl
namespace Go.Kk.Pl
theorem board_ext {b c : List Int} (hb : b.length = 81) (hc : c.length = 81) (h : ∀ q, 0 ≤ q → q < 81 → at_ b q = at_ c q) : b = c := by
 refine List.ext_getElem (by rw [hb, hc]) fun j h1 h2 => ?_
 have := h j (by omega) (by omega)
 unfold at_ at this
 rw [if_pos (by omega), if_pos (by omega), Int.toNat_natCast, List.getD_eq_getElem?_getD, List.getD_eq_getElem?_getD, List.getElem?_eq_getElem h1, List.getElem?_eq_getElem h2] at this
 exact this
theorem clean_or {b : List Int} (hc : Clean b) (q : Int) : (if kd (at_ b q) = 0 then 0 else at_ b q) = at_ b q := by
 rcases hc.at_ q with h | h
 ·rw [h]; rfl
 ·rw [if_neg h]
theorem back_drop {b : List Int} (hc : Clean b) {t : Int} (ht : 0 ≤ t ∧ t < 81) (h0 : at_ b t = 0) (x : Int) : put (put b t x) t 0 = b := by
 refine board_ext ((hc.put _ _).put _ _).len hc.len fun q q0 q1 => ?_
 rw [at_put (hc.put _ _).len ht, at_put hc.len ht]
 split
 ·rename_i e; subst e; rw [h0]; rfl
 ·rfl
theorem back_move {b : List Int} (hc : Clean b) {f t : Int} (hf : 0 ≤ f ∧ f < 81) (ht : 0 ≤ t ∧ t < 81) (x : Int) : put (put (put (put b f 0) t x) t (at_ b t)) f (at_ b f) = b := by
 have c1 := hc.put f 0
 have c2 := c1.put t x
 have c3 := c2.put t (at_ b t)
 refine board_ext (c3.put _ _).len hc.len fun q q0 q1 => ?_
 rw [at_put c3.len hf, at_put c2.len ht, at_put c1.len ht, at_put hc.len hf, clean_or hc, clean_or hc]
 split
 ·rename_i e; subst e; rfl
 ·split
  ·rename_i e; subst e; rfl
  ·rfl
theorem hset_back {h : List Int} (hl : h.length = 16) {s k : Int} (hs : s = 0 ∨ s = 1) (k0 : 0 ≤ k) (k1 : k < 8) {d : Int} (r0 : -128 ≤ hd_ h s k ∧ hd_ h s k ≤ 127) (r1 : -128 ≤ hd_ h s k + d ∧ hd_ h s k + d ≤ 127) :
  hset (hset h s k d) s k (-d) = h := by
 have e := hd_hset hl hs k0 k1 d hs k0 k1
 rw [if_pos ⟨rfl, rfl⟩, wrap8 r1.1 r1.2] at e
 rw [show hset (hset h s k d) s k (-d) = (hset h s k d).set (s.toNat * 8 + k.toNat) (IntKind.wrap .i8 (hd_ (hset h s k d) s k + -d)) from rfl, e, show hd_ h s k + d + -d = hd_ h s k by omega, wrap8 r0.1 r0.2]
 have hi : s.toNat * 8 + k.toNat < h.length := by rcases hs with rfl | rfl <;> simp <;> omega
 have hg : hd_ h s k = h[s.toNat * 8 + k.toNat] := by
  unfold hd_
  rw [List.getD_eq_getElem?_getD, List.getElem?_eq_getElem hi]
  rfl
 unfold hset
 rw [List.set_set, hg, List.set_getElem_self]
end Go.Kk.Pl
namespace Go.Kk.Pl
theorem gput_full {b : List Int} (hc : Clean b) (q x K : Int) (n : Nat) (h : List Int) (s : Int) (m : Nat) (st : List (List Int)) :
  qI q x K n b h s (byOf b) (sidesOf b) m st = some (kput K b q x, n, put b q x, h, s, byOf (put b q x), sidesOf (put b q x), m, st) := by
 unfold qI
 simp only [at_val, ob_some, kp_val, put_full hc]
 rfl
theorem gnew_full {b : List Int} (hc : Clean b) (h : List Int) (s : Int) : qAd b h s = some (kof b h s, 0, b, h, s, byOf b, sidesOf b, 0, []) := by
 unfold qAd
 rw [new_full hc.len, cl_id hc, ob_some]
 simp only
 rw [kof_val, ob_some]
theorem make_full {b : List Int} (hc : Clean b) (h : List Int) {s : Int} (hs : s = 0 ∨ s = 1) (f t d : Int) (p : Bool) : ∃ c, (∀ K n m st, qr f t d p K n b h s (byOf b) (sidesOf b) m st = some c) ∧
  ((c = false ∧ ∀ K n m st, qa f t d p K n b h s (byOf b) (sidesOf b) m st = some (.inl (false, K, n, b, h, s, byOf b, sidesOf b, m, st))) ∨
   (c = true ∧ CanP b h s f t d p ∧ ∀ K n m st, (n + 1) * 40 ≤ 140737488355328 → qa f t d p K n b h s (byOf b) (sidesOf b) m st =
    some (.inr (true, mkey K b h s f t d p, n + 1, mb b s f t d p, mh b h s t d, 1 - s, byOf (mb b s f t d p), sidesOf (mb b s f t d p), n + 1, List.append (List.take n st) [[f, t, d, bi p, at_ b t, was b s f d]])))) := by
 obtain ⟨c, hcan, hP⟩ := can_val b h hs f t d p
 refine ⟨c, fun K n m st => hcan K n _ _ m st, ?_⟩
 cases c with
 | false =>
   refine .inl ⟨rfl, fun K n m st => ?_⟩
   unfold qa
   rw [hcan, ob_some, br_true (by rfl)]
 | true =>
   have hP := hP rfl
   refine .inr ⟨rfl, hP, fun K n m st hn => ?_⟩
   have hn' : decide ((n + 1) * 40 ≤ 140737488355328) = true := by simpa using hn
   unfold qa
   rw [hcan, ob_some, br_false (by rfl), at_val, ob_some]
   by_cases hd : d = 0
   ·obtain ⟨f0, f1, f2, g1, g2, g3, g4⟩ := hP.move hd
    rw [br_false (by simpa using hd), at_val, ob_some]
    have hx : ∀ {α : Type} (k : Int → Option α), (br p (ob (qA (at_ b f)) fun a16 => ob (qf a16) fun a17 => ob (qG s a17) k) (k (at_ b f))) = k (laid b s f d p) := by
     intro α k
     unfold laid
     rw [if_neg (by simpa using hd)]
     cases p with
     | false => rfl
     | true =>
       obtain ⟨u1, u2, u3⟩ := up_range (g4 rfl)
       rw [br_true rfl, kind_val, ob_some, up_val, ob_some, of_val hs u1 u2 u3, ob_some, if_pos rfl]
    have p1 := gput_full hc f 0 K n h s m st
    have p2 := gput_full (hc.put f 0) t (laid b s f d p) (kput K b f 0) n h s m st
    have tail : (br (at_ b t != 0)
      (ob (qA (at_ b t)) fun a37 =>
      ob (qAQ a37) fun a38 =>
      ob (qh s a38 1 (kput (kput K b f 0) (put b f 0) t (laid b s f d p)) n (put (put b f 0) t (laid b s f d p)) h s (byOf (put (put b f 0) t (laid b s f d p))) (sidesOf (put (put b f 0) t (laid b s f d p))) m st) fun (a39_0, a39_1, a39_2, a39_3, a39_4, a39_5, a39_6, a39_7, a39_8) =>
      ob (qR a39_0 a39_1 a39_2 a39_3 a39_4 a39_5 a39_6 a39_7 a39_8) fun (a48_0, a48_1, a48_2, a48_3, a48_4, a48_5, a48_6, _, a48_8) =>
      br (decide ((a48_1 + 1) * 40 ≤ 140737488355328))
       (some (Sum.inr (true, a48_0, a48_1 + 1, a48_2, a48_3, a48_4, a48_5, a48_6, a48_1 + 1, List.append (List.take a48_1 a48_8) [[f, t, d, bi p, at_ b t, at_ b f]])))
       (none))
      (ob (qR (kput (kput K b f 0) (put b f 0) t (laid b s f d p)) n (put (put b f 0) t (laid b s f d p)) h s (byOf (put (put b f 0) t (laid b s f d p))) (sidesOf (put (put b f 0) t (laid b s f d p))) m st) fun (a37_0, a37_1, a37_2, a37_3, a37_4, a37_5, a37_6, _, a37_8) =>
      br (decide ((a37_1 + 1) * 40 ≤ 140737488355328))
       (some (Sum.inr (true, a37_0, a37_1 + 1, a37_2, a37_3, a37_4, a37_5, a37_6, a37_1 + 1, List.append (List.take a37_1 a37_8) [[f, t, d, bi p, at_ b t, at_ b f]])))
       (none)) : Option ((Bool × Int × Nat × List Int × List Int × Int × List (List Int) × List (List Int) × Nat × List (List Int)) ⊕ (Bool × Int × Nat × List Int × List Int × Int × List (List Int) × List (List Int) × Nat × List (List Int)))) =
      some (.inr (true, mkey K b h s f t d p, n + 1, mb b s f t d p, mh b h s t d, 1 - s, byOf (mb b s f t d p), sidesOf (mb b s f t d p), n + 1, List.append (List.take n st) [[f, t, d, bi p, at_ b t, was b s f d]])) := by
     unfold mkey mb mh was
     by_cases ht : at_ b t = 0
     ·rw [br_false (by simpa using ht), gturn_val hs, ob_some]
      simp only
      rw [br_true hn']
      simp [hd, ht]
     ·have hk := (hc.at_ t).resolve_left ht
      obtain ⟨r1, r2⟩ := rw_range hk g3
      obtain ⟨k1, k2, k3⟩ := kd_bounds (at_ b t)
      rw [br_true (by simpa using ht), kind_val, ob_some, raw_val k1 k2, ob_some, ghand_val hs r1 r2 1 (.inl rfl), ob_some]
      simp only
      rw [gturn_val hs, ob_some]
      simp only
      rw [br_true hn']
      simp [hd, ht]
    refine Eq.trans ?_ tail
    cases p with
    | true =>
      have hx := hx (fun a18 => ob (qI f 0 K n b h s (byOf b) (sidesOf b) m st) fun (a19_0, a19_1, a19_2, a19_3, a19_4, a19_5, a19_6, a19_7, a19_8) =>
       ob (qI t a18 a19_0 a19_1 a19_2 a19_3 a19_4 a19_5 a19_6 a19_7 a19_8) fun r => some r)
      rw [br_true rfl] at hx ⊢
      obtain ⟨u1, u2, u3⟩ := up_range (g4 rfl)
      have hl : laid b s f d true = 16 * s + up_ (kd (at_ b f)) := by unfold laid; rw [if_neg (by simpa using hd), if_pos rfl]
      rw [kind_val, ob_some, up_val, ob_some, of_val hs u1 u2 u3, ob_some, p1, ob_some]
      simp only
      rw [← hl, p2, ob_some]
    | false =>
      have hl : laid b s f d false = at_ b f := by unfold laid; rw [if_neg (by simpa using hd), if_neg (by simp)]
      rw [br_false rfl, p1, ob_some]
      simp only
      rw [hl] at p2 ⊢
      rw [p2, ob_some]
   ·obtain ⟨d0, d1, d2, d3, g1, g2⟩ := hP.drop hd
    have hl : laid b s f d p = 16 * s + d := by unfold laid; rw [if_pos hd]
    have e1 : qG s d = some (laid b s f d p) := by rw [hl]; exact of_val hs (by omega) (by omega) (by omega)
    have p1 := gput_full hc t (laid b s f d p) (khand K h s d (-1)) n (hset h s d (-1)) s m st
    rw [br_true (by simpa using hd), e1, ob_some, ghand_val hs (by omega) d1 (-1) (.inr rfl), ob_some]
    simp only
    rw [p1, ob_some]
    simp only
    rw [gturn_val hs, ob_some]
    simp only
    rw [br_true hn']
    unfold mkey mb mh was
    simp only [if_pos hd, hl]
theorem key_back {h : List Int} (hl : h.length = 16) {s k : Int} (hs : s = 0 ∨ s = 1) (k0 : 0 ≤ k) (k1 : k < 8) {d : Int} (b : List Int) (S : Int) (r0 : -128 ≤ hd_ h s k ∧ hd_ h s k ≤ 127) (r1 : -128 ≤ hd_ h s k + d ∧ hd_ h s k + d ≤ 127) :
  khand (un (keyB b (hset h s k d) S)) (hset h s k d) s k (-d) = un (keyB b h S) := by
 have e := hd_hset hl hs k0 k1 d hs k0 k1
 rw [if_pos ⟨rfl, rfl⟩, wrap8 r1.1 r1.2] at e
 rw [khand_un (by rw [hset_len, hl]) hs k0 k1 b S (by omega) (by omega), hset_back hl hs k0 k1 r0 r1]
theorem back_full {b h : List Int} {s : Int} (hg : Going b h s) {f t d : Int} {p : Bool} (hP : CanP b h s f t d p) (n : Nat) (hn : n ≤ 1000) (m : Nat) (st : List (List Int))
  (hst : st.getD n [] = [f, t, d, bi p, at_ b t, was b s f d]) :
  qBk (un (keyB (mb b s f t d p) (mh b h s t d) (1 - s))) (n + 1) (mb b s f t d p) (mh b h s t d) (1 - s) (byOf (mb b s f t d p)) (sidesOf (mb b s f t d p)) m st = some (true, un (keyB b h s), n, b, h, s, byOf b, sidesOf b, m, st) := by
 have hS := hg.sound
 have hs' : 1 - s = 0 ∨ 1 - s = 1 := by have := hS.side; omega
 unfold qBk
 have e1 : IntKind.wrap .i64 (Int.ofNat (n + 1) - 1) = (n : Int) := by
  have : Int.ofNat (n + 1) = (n : Int) + 1 := rfl
  rw [this, wrap_small (by omega) (by omega)]
  omega
 rw [br_false (by simp; omega), e1, br_true (inB_true (by omega) (by omega)), br_true (inLe_true (by omega) (by omega)), gturn_val hs', ob_some, kturn_un hs', show (1 : Int) - (1 - s) = s by omega]
 simp only [Int.toNat_natCast, hst, Nat.sub_zero]
 simp only [List.take_succ_cons, List.take_zero, List.headD_cons, List.tail_cons]
 by_cases hd : d = 0
 ·obtain ⟨f0, f1, f2, g1, g2, g3, g4⟩ := hP.move hd
  have hw : was b s f d = at_ b f := by unfold was; rw [if_neg (by simpa using hd)]
  have hmb : mb b s f t d p = put (put b f 0) t (laid b s f d p) := by unfold mb; rw [if_neg (by simpa using hd)]
  rw [br_false (by simpa using hd), hw, hmb]
  have p1 := gput_full ((hS.clean.put f 0).put t (laid b s f d p)) t (at_ b t) (un (keyB (put (put b f 0) t (laid b s f d p)) (mh b h s t d) s)) n (mh b h s t d) s m st
  rw [kput_un ((hS.clean.put f 0).put t (laid b s f d p)).len hP.to_] at p1
  have p2 := gput_full (((hS.clean.put f 0).put t (laid b s f d p)).put t (at_ b t)) f (at_ b f) (un (keyB (put (put (put b f 0) t (laid b s f d p)) t (at_ b t)) (mh b h s t d) s)) n (mh b h s t d) s m st
  rw [kput_un (((hS.clean.put f 0).put t (laid b s f d p)).put t (at_ b t)).len ⟨f0, f1⟩] at p2
  rw [back_move hS.clean ⟨f0, f1⟩ hP.to_] at p2
  rw [p1, ob_some]
  simp only
  rw [p2, ob_some]
  simp only
  by_cases ht : at_ b t = 0
  ·have hmh : mh b h s t d = h := by unfold mh; rw [if_neg (by simpa using hd), if_pos ht]
   rw [br_false (by simpa using ht), hmh]
  ·have hk := (hS.clean.at_ t).resolve_left ht
   obtain ⟨r1, r2⟩ := rw_range hk g3
   obtain ⟨k1, k2, k3⟩ := kd_bounds (at_ b t)
   have hc := hS.counts _ r1 r2
   have h0 := hS.hands (rw_ (kd (at_ b t))) (by omega) r2
   have hsd := hS.side
   have hmh : mh b h s t d = hset h s (rw_ (kd (at_ b t))) 1 := by unfold mh; rw [if_neg (by simpa using hd), if_neg ht]
   rw [br_true (by simpa using ht), kind_val, ob_some, raw_val k1 k2, ob_some, ghand_val hS.side r1 r2 (-1) (.inr rfl), ob_some, hmh,
    hset_back hg.len hS.side (by omega) r2 (fits_hd hg.fits _ _) (by rcases hsd with rfl | rfl <;> constructor <;> omega),
    key_back hg.len hS.side (by omega) r2 _ _ (fits_hd hg.fits _ _) (by rcases hsd with rfl | rfl <;> constructor <;> omega)]
 ·obtain ⟨d0, d1, d2, d3, g1, g2⟩ := hP.drop hd
  have hmb : mb b s f t d p = put b t (laid b s f d p) := by unfold mb; rw [if_pos hd]
  have hmh : mh b h s t d = hset h s d (-1) := by unfold mh; rw [if_pos hd]
  have hb := fits_hd hg.fits s d
  have p1 := gput_full (hS.clean.put t (laid b s f d p)) t 0 (un (keyB (put b t (laid b s f d p)) (mh b h s t d) s)) n (mh b h s t d) s m st
  rw [kput_un (hS.clean.put t (laid b s f d p)).len hP.to_] at p1
  rw [back_drop hS.clean hP.to_ g2] at p1
  rw [br_true (by simpa using hd), hmb, p1, ob_some]
  simp only
  have hbk : hset (hset h s d (-1)) s d 1 = h := hset_back hg.len hS.side (by omega) d1 (d := -1) hb (by constructor <;> omega)
  rw [ghand_val hS.side (by omega) d1 1 (.inl rfl), ob_some, hmh]
  have hky : khand (un (keyB b (hset h s d (-1)) s)) (hset h s d (-1)) s d 1 = un (keyB b h s) := key_back hg.len hS.side (by omega) d1 (d := -1) _ _ hb (by constructor <;> omega)
  rw [hbk, hky]
end Go.Kk.Pl
namespace Go.Kk.Pl
theorem mates_true : qDV = some true := by kernel_rfl
structure PosP (b h : List Int) (s : Int) : Prop where
 len : b.length = 81
 fits : Fits8 h
 hlen : h.length = 16
 zero : atkS b h s = 0
theorem PosP.clean {b h : List Int} {s : Int} (hp : PosP b h s) : Clean b := (pos_ok hp.len hp.zero).1
theorem PosP.side {b h : List Int} {s : Int} (hp : PosP b h s) : s = 0 ∨ s = 1 := (pos_ok hp.len hp.zero).2.1
theorem PosP.going {b h : List Int} {s : Int} (hp : PosP b h s) : Going b h s := ⟨sound_of hp.len hp.fits (atk_chk hp.zero), hp.fits, hp.hlen⟩
theorem PosP.after {b h : List Int} {s : Int} (hp : PosP b h s) {m : List Int} (hm : m ∈ lgL b h s) : PosP (mbM b s m) (mhM b h s m) (1 - s) := by
 obtain ⟨hc, hs, hno, k, k', hk, hk'⟩ := pos_ok hp.len hp.zero
 obtain ⟨_, hm2, _, hm4⟩ := lgL_full hc hs hno hk hk' hm
 have hsafe : inC (mb b s (m0 m) (m1 m) (m2 m) (m3 m)) s = false := by simpa [safeM, mbM] using hm4
 exact ⟨(mb_clean hc _ _ _ _ _).1, mh_fits hp.fits _ _ _ _, mh_len hp.hlen _ _ _ _, atk_after hp.len hp.fits hp.hlen (atk_chk hp.zero) hm2 hsafe⟩
def mtd (b h : List Int) (s : Int) : Bool := inC b s && decide ((lgL b h s).length = 0)
theorem PosP.mated {b h : List Int} {s : Int} (hp : PosP b h s) : qBL b h s (byOf b) (sidesOf b) = some (mtd b h s, b, h, s, byOf b, sidesOf b) := by
 obtain ⟨hc, hs, hno, k, k', hk, hk'⟩ := pos_ok hp.len hp.zero
 exact mated_val hc h hs hk hk'
theorem PosP.lists {b h : List Int} {s : Int} (hp : PosP b h s) : lgL b h s = rlL b h s := by
 obtain ⟨hc, hs, hno, k, k', hk, hk'⟩ := pos_ok hp.len hp.zero
 exact lists_eq hc h hs hno hk hk'
theorem PosP.all {b h : List Int} {s : Int} (hp : PosP b h s) : qBJ b h s (byOf b) (sidesOf b) = some ((lgL b h s).length, b, h, s, byOf b, sidesOf b, (lgL b h s).length, lgL b h s) := by
 obtain ⟨hc, hs, hno, k, k', hk, hk'⟩ := pos_ok hp.len hp.zero
 exact legalAll_val hc h hs hk hk'
theorem PosP.full {b h : List Int} {s : Int} (hp : PosP b h s) {m : List Int} (hm : m ∈ lgL b h s) : Mv4 m ∧ movS b h s (m0 m) (m1 m) (m2 m) (m3 m) = true := by
 obtain ⟨hc, hs, hno, k, k', hk, hk'⟩ := pos_ok hp.len hp.zero
 have := lgL_full hc hs hno hk hk' hm
 exact ⟨this.1, this.2.1⟩
theorem len_zero (n : Nat) : (Int.ofNat n == 0) = decide (n = 0) := by
 rw [Bool.eq_iff_iff, decide_eq_true_eq, beq_iff_eq]
 exact ⟨fun h => by simpa using h, fun h => by rw [h]; rfl⟩
theorem PosP.rstuck {b h : List Int} {s : Int} (hp : PosP b h s) : qDB b h s = some (decide ((lgL b h s).length = 0)) := by
 unfold qDB
 rw [rlegalAll_val hp.clean h hp.side, ob_some, ← hp.lists]
 simp only
 rw [len_zero]
theorem PosP.rmated {b h : List Int} {s : Int} (hp : PosP b h s) : qDA b h s = some (mtd b h s) := by
 unfold qDA mtd
 rw [rinCheck_val _ _ _ hp.side, ob_some]
 cases inC b s with
 | false => rfl
 | true => rw [b_t, hp.rstuck, ob_some, Bool.true_and]
def giv (b h : List Int) (s : Int) (f t d : Int) (p : Bool) : Bool := canS b h s f t d p && inC (mb b s f t d p) (1 - s)
theorem gives_val {b h : List Int} {s : Int} (hg : Going b h s) (f t d : Int) (p : Bool) (m : Nat) (st : List (List Int)) : ∃ m' st', 
  qB0 f t d p (kof b h s) 0 b h s (byOf b) (sidesOf b) m st = some (.inl (giv b h s f t d p, kof b h s, 0, b, h, s, byOf b, sidesOf b, m', st')) ∨
  qB0 f t d p (kof b h s) 0 b h s (byOf b) (sidesOf b) m st = some (.inr (giv b h s f t d p, kof b h s, 0, b, h, s, byOf b, sidesOf b, m', st')) := by
 have hc := hg.sound.clean
 have hs := hg.sound.side
 obtain ⟨c, hcan, hm⟩ := make_full hc h hs f t d p
 have e : canS b h s f t d p = c := Option.some.inj ((can_full b h hs f t d p 0 0 (byOf b) (sidesOf b) 0 []).symm.trans (hcan 0 0 0 []))
 unfold qB0 giv
 rw [e]
 rcases hm with ⟨rfl, hm⟩ | ⟨rfl, hP, hm⟩
 ·rw [hm, ob_some]
  exact ⟨m, st, .inl rfl⟩
 ·have hc2 := mb_clean hc s f t d p
  rw [hm _ _ _ _ (by omega), ob_some, sw_inr]
  simp only
  rw [Bool.not_true, b_f, inCheck_val hc2 _ _ (by omega), ob_some, mkey_val hg.sound hg.fits hg.len hP, kof_un]
  have hst : (List.append (List.take 0 st) [[f, t, d, bi p, at_ b t, was b s f d]]).getD 0 [] = [f, t, d, bi p, at_ b t, was b s f d] := rfl
  rw [back_full hg hP 0 (by omega) _ _ hst, ob_some, kof_un]
  exact ⟨_, _, .inr rfl⟩
def ckM (b : List Int) (s : Int) (m : List Int) : Bool := inC (mbM b s m) (1 - s)
def ckL (b h : List Int) (s : Int) : List (List Int) := (lgL b h s).filter (ckM b s)
theorem ckL_len (b h : List Int) (s : Int) : (ckL b h s).length ≤ 20000 := Nat.le_trans (List.length_filter_le _ _) (lgL_len b h s)
theorem mchecks_goes {b h : List Int} {s : Int} (hp : PosP b h s) (N : Nat) : ∀ (n i : Nat), i + n = (lgL b h s).length → ∀ (L : List (List Int)) (x0 x6 : Nat) (m : Nat) (st : List (List Int)), x0 = L.length → x6 = L.length → L.length + n ≤ 1000000 → ∀ F,
  qy (F + n + 1) x0 (lgL b h s).length (lgL b h s).length i (kof b h s) 0 x6 L N (lgL b h s) b h s (byOf b) (sidesOf b) m st =
   some ((L ++ ((lgL b h s).drop i).filter (ckM b s)).length, (L ++ ((lgL b h s).drop i).filter (ckM b s)).length, L ++ ((lgL b h s).drop i).filter (ckM b s)) := by
 have hlen := lgL_len b h s
 intro n
 induction n with
 | zero =>
   intro i hi L x0 x6 m st e0 e6 hb F
   show qBz (qy (F + 0)) _ _ _ _ _ _ _ _ _ _ _ _ _ _ _ _ _ = _
   unfold qBz
   rw [b_nlt (by omega), List.drop_eq_nil_of_le (by omega), List.filter_nil, List.append_nil, e0, e6]
 | succ n ih =>
   intro i hi L x0 x6 m st e0 e6 hb F
   show qBz (qy (F + n + 1)) _ _ _ _ _ _ _ _ _ _ _ _ _ _ _ _ _ = _
   unfold qBz
   have hil : i < (lgL b h s).length := by omega
   obtain ⟨⟨hm1, _⟩, hm2⟩ := hp.full (List.getElem_mem hil)
   rw [b_lt (by omega), b_in (by omega) (by omega), tn, atL hil]
   simp only [hdM]
   obtain ⟨m', st', hg⟩ := gives_val hp.going (m0 (lgL b h s)[i]) (m1 (lgL b h s)[i]) (m2 (lgL b h s)[i]) (m3 (lgL b h s)[i]) m st
   have hgiv : giv b h s (m0 (lgL b h s)[i]) (m1 (lgL b h s)[i]) (m2 (lgL b h s)[i]) (m3 (lgL b h s)[i]) = ckM b s (lgL b h s)[i] := by
    unfold giv ckM mbM
    rw [movS_can hm2, Bool.true_and]
   rw [hgiv] at hg
   rw [w_s (n := (i : Int) + 1) (by omega) (by omega), List.drop_eq_getElem_cons hil, List.filter_cons]
   have rest : br (ckM b s (lgL b h s)[i]) (qy (F + n + 1) (x0 + 1) (lgL b h s).length (lgL b h s).length ((i : Int) + 1) (kof b h s) 0 (x0 + 1) (L ++ [(lgL b h s)[i]]) N (lgL b h s) b h s (byOf b) (sidesOf b) m' st')
     (qy (F + n + 1) x0 (lgL b h s).length (lgL b h s).length ((i : Int) + 1) (kof b h s) 0 x6 L N (lgL b h s) b h s (byOf b) (sidesOf b) m' st') =
     some ((L ++ if ckM b s (lgL b h s)[i] = true then (lgL b h s)[i] :: ((lgL b h s).drop (i + 1)).filter (ckM b s) else ((lgL b h s).drop (i + 1)).filter (ckM b s)).length,
      (L ++ if ckM b s (lgL b h s)[i] = true then (lgL b h s)[i] :: ((lgL b h s).drop (i + 1)).filter (ckM b s) else ((lgL b h s).drop (i + 1)).filter (ckM b s)).length,
      L ++ if ckM b s (lgL b h s)[i] = true then (lgL b h s)[i] :: ((lgL b h s).drop (i + 1)).filter (ckM b s) else ((lgL b h s).drop (i + 1)).filter (ckM b s)) := by
    cases hck : ckM b s (lgL b h s)[i] with
    | true =>
      rw [b_t]
      refine (ih (i + 1) (by omega) (L ++ [(lgL b h s)[i]]) (x0 + 1) (x0 + 1) m' st' (by simp; omega) (by simp; omega) (by simp; omega) F).trans ?_
      simp
    | false =>
      rw [b_f]
      exact ih (i + 1) (by omega) L x0 x6 m' st' e0 e6 (by omega) F
   rcases hg with hg | hg
   ·rw [hg, ob_some, sw_inl]
    simp only
    rw [b_leN (by omega), ← hm1, tkA e0]
    exact rest
   ·rw [hg, ob_some, sw_inr]
    simp only
    rw [b_leN (by omega), ← hm1, tkA e0]
    exact rest
theorem PosP.checks {b h : List Int} {s : Int} (hp : PosP b h s) : qBK b h s = some ((ckL b h s).length, (ckL b h s).length, ckL b h s) := by
 have hlen := lgL_len b h s
 unfold qBK
 rw [gnew_full hp.clean, ob_some]
 simp only
 rw [hp.all, ob_some]
 simp only
 obtain ⟨g, hg⟩ := many_eq (lgL b h s).length (by omega)
 have := mchecks_goes hp (lgL b h s).length (lgL b h s).length 0 (by omega) [] 0 0 0 [] rfl rfl (by simp only [List.length_nil]; omega) g
 rw [← hg, List.drop_zero, List.nil_append] at this
 rw [show qy many 0 (lgL b h s).length (Int.ofNat (lgL b h s).length) 0 (kof b h s) 0 0 [] (lgL b h s).length (lgL b h s) b h s (byOf b) (sidesOf b) 0 [] = _ from this, ob_some]
 rfl
theorem rchecks_goes {b h : List Int} {s : Int} (hp : PosP b h s) (N : Nat) : ∀ (n i : Nat), i + n = (lgL b h s).length → ∀ (L : List (List Int)) (x0 x6 : Nat), x0 = L.length → x6 = L.length → L.length + n ≤ 1000000 → ∀ F,
  qA5 (F + n + 1) x0 (lgL b h s).length i b h s x6 L N (lgL b h s) =
   some ((L ++ ((lgL b h s).drop i).filter (ckM b s)).length, (L ++ ((lgL b h s).drop i).filter (ckM b s)).length, L ++ ((lgL b h s).drop i).filter (ckM b s)) := by
 have hlen := lgL_len b h s
 have hs := hp.side
 have hs' : 1 - s = 0 ∨ 1 - s = 1 := by omega
 intro n
 induction n with
 | zero =>
   intro i hi L x0 x6 e0 e6 hb F
   show qCV (qA5 (F + 0)) _ _ _ _ _ _ _ _ _ _ = _
   unfold qCV
   rw [b_nlt (by simp only [Int.ofNat_eq_natCast]; omega), List.drop_eq_nil_of_le (by omega), List.filter_nil, List.append_nil, e0, e6]
 | succ n ih =>
   intro i hi L x0 x6 e0 e6 hb F
   show qCV (qA5 (F + n + 1)) _ _ _ _ _ _ _ _ _ _ = _
   unfold qCV
   have hil : i < (lgL b h s).length := by omega
   obtain ⟨⟨hm1, _⟩, hm2⟩ := hp.full (List.getElem_mem hil)
   rw [b_lt (by simp only [Int.ofNat_eq_natCast]; omega), b_in (by omega) (by omega), tn, atL hil]
   simp only [hdM]
   rw [rafter_val hp.clean hs (movP hm2).2, ob_some]
   simp only
   rw [w_s (n := 1 - s) (by omega) (by omega), rinCheck_val _ _ _ hs', ob_some, w_s (n := (i : Int) + 1) (by omega) (by omega), List.drop_eq_getElem_cons hil, List.filter_cons, b_in (by omega) (by omega), b_leN (by omega), ← hm1, tkA e0]
   show br (ckM b s (lgL b h s)[i]) _ _ = _
   cases hck : ckM b s (lgL b h s)[i] with
   | true =>
     rw [b_t]
     refine (ih (i + 1) (by omega) (L ++ [(lgL b h s)[i]]) (x0 + 1) (x0 + 1) (by simp; omega) (by simp; omega) (by simp; omega) F).trans ?_
     simp
   | false =>
     rw [b_f]
     exact ih (i + 1) (by omega) L x0 x6 e0 e6 (by omega) F
theorem PosP.rchecks {b h : List Int} {s : Int} (hp : PosP b h s) : qCU b h s = some ((ckL b h s).length, (ckL b h s).length, ckL b h s) := by
 have hlen := lgL_len b h s
 unfold qCU
 rw [rlegalAll_val hp.clean h hp.side, ob_some, ← hp.lists]
 simp only
 obtain ⟨g, hg⟩ := many_eq (lgL b h s).length (by omega)
 have := rchecks_goes hp (lgL b h s).length (lgL b h s).length 0 (by omega) [] 0 0 rfl rfl (by simp only [List.length_nil]; omega) g
 rw [← hg, List.drop_zero, List.nil_append] at this
 rw [show qA5 many 0 (lgL b h s).length 0 b h s 0 [] (lgL b h s).length (lgL b h s) = _ from this, ob_some]
 rfl
def mtM (b h : List Int) (s : Int) (m : List Int) : Bool := mtd (mbM b s m) (mhM b h s m) (1 - s)
theorem inone_goes {b h : List Int} {s : Int} (hp : PosP b h s) (x6 x7 x8 : Int) (x9 : Bool) (N : Nat) : ∀ (n i : Nat), i + n = (ckL b h s).length → ∀ F,
  qAl (F + n + 1) (ckL b h s).length (ckL b h s).length i b h s x6 x7 x8 x9 N (ckL b h s) =
   some (match ((ckL b h s).drop i).find? (mtM b h s) with
    | some m => .inl (true, m0 m, m1 m, m2 m, m3 m)
    | none => .inr (x6, x7, x8, x9)) := by
 have hlen := ckL_len b h s
 have hs := hp.side
 intro n
 induction n with
 | zero =>
   intro i hi F
   show qB2 (qAl (F + 0)) _ _ _ _ _ _ _ _ _ _ _ _ = _
   unfold qB2
   rw [b_nlt (by omega), List.drop_eq_nil_of_le (by omega)]
   rfl
 | succ n ih =>
   intro i hi F
   show qB2 (qAl (F + n + 1)) _ _ _ _ _ _ _ _ _ _ _ _ = _
   unfold qB2
   have hil : i < (ckL b h s).length := by omega
   have hml : (ckL b h s)[i] ∈ lgL b h s := (List.mem_filter.mp (List.getElem_mem hil)).1
   obtain ⟨_, hm2⟩ := hp.full hml
   have hp2 := hp.after hml
   rw [b_lt (by omega), b_in (by omega) (by omega), tn, atL hil]
   simp only [hdM]
   rw [after_full hp.clean h hs, movS_can hm2, if_pos rfl, ob_some]
   simp only
   rw [b_t, new_full (by exact hp2.len), cl_id (by exact hp2.clean), ob_some]
   simp only
   have := hp2.mated
   unfold mbM mhM at this
   rw [this, ob_some, w_s (n := (i : Int) + 1) (by omega) (by omega), List.drop_eq_getElem_cons hil, List.find?_cons]
   show br (mtM b h s (ckL b h s)[i]) _ _ = _
   cases hmt : mtM b h s (ckL b h s)[i] with
   | true => rfl
   | false =>
     rw [b_f]
     exact ih (i + 1) (by omega) F
def ioV (b h : List Int) (s : Int) : Int × Int × Int × Bool × Bool := match (ckL b h s).find? (mtM b h s) with
 | some m => (m0 m, m1 m, m2 m, m3 m, true)
 | none => (0, 0, 0, false, false)
theorem PosP.inone {b h : List Int} {s : Int} (hp : PosP b h s) : qB1 b h s = some (ioV b h s) := by
 have hlen := ckL_len b h s
 unfold qB1
 rw [hp.checks, ob_some]
 simp only
 obtain ⟨g, hg⟩ := many_eq (ckL b h s).length (by omega)
 have := inone_goes hp 0 0 0 false (ckL b h s).length (ckL b h s).length 0 (by omega) g
 rw [← hg, List.drop_zero] at this
 rw [show qAl many (ckL b h s).length (Int.ofNat (ckL b h s).length) 0 b h s 0 0 0 false (ckL b h s).length (ckL b h s) = _ from this, ob_some]
 unfold ioV
 cases (ckL b h s).find? (mtM b h s) <;> rfl
theorem rinone_goes {b h : List Int} {s : Int} (hp : PosP b h s) (x5 x6 x7 : Int) (x8 : Bool) (N : Nat) : ∀ (n i : Nat), i + n = (ckL b h s).length → ∀ F,
  qA6 (F + n + 1) (ckL b h s).length i b h s x5 x6 x7 x8 N (ckL b h s) =
   some (match ((ckL b h s).drop i).find? (mtM b h s) with
    | some m => .inl (true, m0 m, m1 m, m2 m, m3 m)
    | none => .inr (x5, x6, x7, x8)) := by
 have hlen := ckL_len b h s
 have hs := hp.side
 intro n
 induction n with
 | zero =>
   intro i hi F
   show qCW (qA6 (F + 0)) _ _ _ _ _ _ _ _ _ _ _ = _
   unfold qCW
   rw [b_nlt (by simp only [Int.ofNat_eq_natCast]; omega), List.drop_eq_nil_of_le (by omega)]
   rfl
 | succ n ih =>
   intro i hi F
   show qCW (qA6 (F + n + 1)) _ _ _ _ _ _ _ _ _ _ _ = _
   unfold qCW
   have hil : i < (ckL b h s).length := by omega
   have hml : (ckL b h s)[i] ∈ lgL b h s := (List.mem_filter.mp (List.getElem_mem hil)).1
   obtain ⟨_, hm2⟩ := hp.full hml
   have hp2 := hp.after hml
   rw [b_lt (by simp only [Int.ofNat_eq_natCast]; omega), b_in (by omega) (by omega), tn, atL hil]
   simp only [hdM]
   rw [rafter_val hp.clean hs (movP hm2).2, ob_some]
   simp only
   have := hp2.rmated
   unfold mbM mhM at this
   rw [this, ob_some, w_s (n := (i : Int) + 1) (by omega) (by omega), List.drop_eq_getElem_cons hil, List.find?_cons, b_in (by omega) (by omega)]
   show br (mtM b h s (ckL b h s)[i]) _ _ = _
   cases hmt : mtM b h s (ckL b h s)[i] with
   | true => rfl
   | false =>
     rw [b_f]
     exact ih (i + 1) (by omega) F
theorem PosP.rinone {b h : List Int} {s : Int} (hp : PosP b h s) : qC9 b h s = some (ioV b h s) := by
 have hlen := ckL_len b h s
 unfold qC9
 rw [hp.rchecks, ob_some]
 simp only
 obtain ⟨g, hg⟩ := many_eq (ckL b h s).length (by omega)
 have := rinone_goes hp 0 0 0 false (ckL b h s).length (ckL b h s).length 0 (by omega) g
 rw [← hg, List.drop_zero] at this
 rw [show qA6 many (ckL b h s).length 0 b h s 0 0 0 false (ckL b h s).length (ckL b h s) = _ from this, ob_some]
 unfold ioV
 cases (ckL b h s).find? (mtM b h s) <;> rfl
theorem mateChecks_true {b h : List Int} (s : Int) (hl : b.length = 81) (hf : Fits8 h) (hh : h.length = 16) : qCq b h s = some true := by
 unfold qCq
 rw [mates_true, ob_some]
 simp only [Bool.not_true, b_f]
 rw [rattackCheck_val hl hf, ob_some]
 by_cases hz : atkS b h s = 0
 ·have hp : PosP b h s := ⟨hl, hf, hh, hz⟩
  have hlen := ckL_len b h s
  rw [b_nne hz, hp.checks, ob_some]
  simp only
  rw [hp.rchecks, ob_some]
  simp only
  rw [same_val _ (by omega), ob_some, Bool.not_true, b_f, hp.inone, ob_some, hp.rinone, ob_some]
  simp only [beq_self_eq_true, Bool.and_self, b_t]
 ·rw [b_ne hz]
end Go.Kk.Pl
