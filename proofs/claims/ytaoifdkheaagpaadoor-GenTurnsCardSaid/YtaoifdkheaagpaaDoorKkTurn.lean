/-
  The board turned about: the plain law of GenTurns.
-/
import Derived.Test.YtaoifdkheaagpaaDoorKkOnce
namespace Go.Kk.Pl

/-- A piece that changes its side. -/
def trnP (x : Int) : Int := if x = 0 then 0 else if sd x = 1 then x - 16 else x + 16
def trnB (b : List Int) : List Int := (List.range 81).map fun j => trnP (b.getD (80 - j) 0)
def trnH (h : List Int) : List Int := h.drop 8 ++ h.take 8

theorem trn_len (b : List Int) : (trnB b).length = 81 := by simp [trnB]
theorem trn_get (b : List Int) {j : Nat} (hj : j < 81) : (trnB b).getD j 0 = trnP (b.getD (80 - j) 0) := by
  rw [at_i (by rw [trn_len]; exact hj)]
  simp [trnB]
theorem kd_rng {x : Int} (h : kd x ≠ 0) : 1 ≤ x ∧ x ≤ 31 ∧ x ≠ 16 ∧ x ≠ 13 ∧ x ≠ 29 := by
  unfold kd at h
  split at h
  · exact absurd rfl h
  · omega
theorem trn_all : ∀ n : Fin 32, kd ((n.val : Nat) : Int) ≠ 0 → kd (trnP ((n.val : Nat) : Int)) = kd ((n.val : Nat) : Int) ∧ sd (trnP ((n.val : Nat) : Int)) = 1 - sd ((n.val : Nat) : Int) := by decide +kernel
theorem trn_ks {x : Int} (h : kd x ≠ 0) : kd (trnP x) = kd x ∧ sd (trnP x) = 1 - sd x := by
  obtain ⟨h1, h2, _⟩ := kd_rng h
  obtain ⟨n, rfl⟩ := fin32 (by omega) h2
  exact trn_all n h
theorem trn_zero : trnP 0 = 0 := rfl
theorem trn_clean {b : List Int} (hc : Clean b) : Clean (trnB b) := ⟨trn_len b, fun i hi => by
  rw [trn_get b hi]
  rcases hc.ok (80 - i) (by omega) with h | h
  · left; rw [h]; rfl
  · right; rw [(trn_ks h).1]; exact h⟩
theorem trn_tk {b : List Int} (hc : Clean b) {i : Nat} (hi : i < 81) : tk (trnB b) i = tk b (80 - i) := by
  unfold tk
  rw [trn_get b hi]
  rcases hc.ok (80 - i) (by omega) with h | h
  · rw [h]; rfl
  · have h1 : trnP (b.getD (80 - i) 0) ≠ 0 := fun hh => by
      have := (trn_ks h).1
      rw [hh] at this
      exact h (this.symm.trans (by decide))
    have h2 : b.getD (80 - i) 0 ≠ 0 := fun hh => by rw [hh] at h; exact h (by decide)
    rw [decide_eq_true h1, decide_eq_true h2]
theorem sd_val {b : List Int} (hc : Clean b) {i : Nat} (hi : i < 81) {S : Int} (hS : S = 0 ∨ S = 1) : (sd (trnP (b.getD i 0)) = 1 - S) ↔ (sd (b.getD i 0) = S) := by
  rcases hc.ok i hi with h | h
  · rw [h, trn_zero]
    have : sd 0 = -1 := sd_zero
    omega
  · rw [(trn_ks h).2]; omega
theorem kd_val {b : List Int} (hc : Clean b) {i : Nat} (hi : i < 81) : kd (trnP (b.getD i 0)) = kd (b.getD i 0) := by
  rcases hc.ok i hi with h | h
  · rw [h]; rfl
  · exact (trn_ks h).1

theorem df_turn {a c : Nat} (ha : a < 81) (hc : c < 81) : df (80 - a) (80 - c) = - df a c ∧ dr (80 - a) (80 - c) = - dr a c := by unfold df dr fl rn; omega
theorem btw_turn_all : ∀ (a c : Fin 81), btw (80 - a.val) (80 - c.val) = (btw a.val c.val).map fun s => 80 - s := by decide +kernel
theorem stp_bound {k d u : Int} (h : stpK k d u) : -1 ≤ d ∧ d ≤ 1 := by unfold stpK at h; omega
theorem stp_turn (k d u : Int) : stpK k (-d) u ↔ stpK k d u := by
  by_cases h : -1 ≤ d ∧ d ≤ 1
  · obtain rfl | rfl | rfl : d = -1 ∨ d = 0 ∨ d = 1 := by omega
    · simp [stpK]
    · simp
    · simp [stpK]
  · constructor
    · intro hh; have := stp_bound hh; omega
    · intro hh; have := stp_bound hh; omega
theorem sl_turn (k d u : Int) : slK k (-d) u ↔ slK k d u := by unfold slK; omega
theorem up_turn {x : Int} (hx : kd x ≠ 0) {a c : Nat} (ha : a < 81) (hc : c < 81) : upS (trnP x) (80 - a) (80 - c) = upS x a c := by
  unfold upS
  rw [(trn_ks hx).2, (df_turn ha hc).2]
  rcases sd_range hx with h | h
  · rw [h, if_pos (by omega), if_neg (by omega)]
  · rw [h, if_neg (by omega), if_pos (by omega)]; omega
theorem rch_trn {b : List Int} (hcl : Clean b) {x : Int} (hx : kd x ≠ 0) {a c : Nat} (ha : a < 81) (hc : c < 81) : rch (trnP x) (80 - a) (80 - c) (tk (trnB b)) = rch x a c (tk b) := by
  unfold rch stepB slideB
  rw [(trn_ks hx).1, (df_turn ha hc).1, up_turn hx ha hc]
  have e1 : decide (stpK (kd x) (-df a c) (upS x a c)) = decide (stpK (kd x) (df a c) (upS x a c)) := by rw [decide_eq_decide]; exact stp_turn _ _ _
  have e2 : decide (slK (kd x) (-df a c) (upS x a c)) = decide (slK (kd x) (df a c) (upS x a c)) := by rw [decide_eq_decide]; exact sl_turn _ _ _
  have e3 : freeS (80 - a) (80 - c) (tk (trnB b)) = freeS a c (tk b) := by
    unfold freeS
    rw [btw_turn_all ⟨a, ha⟩ ⟨c, hc⟩, List.all_map, Bool.eq_iff_iff, List.all_eq_true, List.all_eq_true]
    have hq : ∀ s ∈ btw a c, tk (trnB b) (80 - s) = tk b s := fun s hs => by
      have := btw_mem ha hc hs
      rw [trn_tk hcl (by omega), show 80 - (80 - s) = s by omega]
    constructor
    · intro h s hs
      have := h s hs
      simp only [Function.comp] at this
      rwa [hq s hs] at this
    · intro h s hs
      simp only [Function.comp]
      rw [hq s hs]; exact h s hs
  rw [e1, e2, e3]

theorem far_turn {s : Int} (hs : s = 0 ∨ s = 1) {i : Nat} (hi : i < 81) : farS (1 - s) (80 - i) = farS s i := by
  unfold farS
  rcases hs with rfl | rfl <;> simp <;> omega
theorem farI_turn {s : Int} (hs : s = 0 ∨ s = 1) {i : Nat} (hi : i < 81) : farI (1 - s) ((80 : Int) - i) = farI s i := by
  unfold farI
  rw [if_pos (by omega), if_pos (by omega), tn, show ((80 : Int) - i).toNat = 80 - i by omega, far_turn hs hi]
theorem inZ_turn {s : Int} (hs : s = 0 ∨ s = 1) {i : Nat} (hi : i < 81) : inZ (1 - s) ((80 : Int) - i) = inZ s i := by unfold inZ; rw [farI_turn hs hi]
theorem dead_turn {x : Int} (hx : kd x ≠ 0) {i : Nat} (hi : i < 81) : deadI (trnP x) ((80 : Int) - i) = deadI x i := by
  unfold deadI
  rw [(trn_ks hx).1, (trn_ks hx).2, farI_turn (sd_range hx) hi]

theorem nF_turn {b : List Int} (hc : Clean b) {S : Int} (hS : S = 0 ∨ S = 1) {f : Nat} (hf : f < 9) : nF (trnB b) (16 * (1 - S) + 1) (8 - f) = nF b (16 * S + 1) f := by
  have key : ∀ r, r < 9 → ((trnB b).getD (9 * (8 - f) + r) 0 == 16 * (1 - S) + 1) = (b.getD (9 * f + (8 - r)) 0 == 16 * S + 1) := by
    intro r hr
    rw [trn_get b (by omega), show 80 - (9 * (8 - f) + r) = 9 * f + (8 - r) by omega]
    generalize hy : b.getD (9 * f + (8 - r)) 0 = y
    rcases hc.ok (9 * f + (8 - r)) (by omega) with h | h
    · rw [hy] at h; subst h
      rw [trn_zero, Bool.eq_iff_iff, beq_iff_eq, beq_iff_eq]; omega
    · rw [hy] at h
      obtain ⟨h1, h2, h3, _⟩ := kd_rng h
      have hs : sd y = if y < 16 then 0 else 1 := by unfold sd; rw [if_neg h]
      have : trnP y = if y < 16 then y + 16 else y - 16 := by
        unfold trnP
        rw [if_neg (by omega), hs]
        by_cases hl : y < 16
        · rw [if_pos hl, if_neg (by omega), if_pos hl]
        · rw [if_neg hl, if_pos rfl, if_neg hl]
      rw [this, Bool.eq_iff_iff, beq_iff_eq, beq_iff_eq]
      split <;> omega
  unfold nF
  have e1 : (List.range 9).countP (fun r => (trnB b).getD (9 * (8 - f) + r) 0 == 16 * (1 - S) + 1) = (List.range 9).countP (fun r => b.getD (9 * f + (8 - r)) 0 == 16 * S + 1) :=
    List.countP_congr fun r hr => by rw [key r (by simpa using hr)]
  rw [e1]
  have e2 : ((List.range 9).map fun r => 8 - r) = (List.range 9).reverse := by decide
  have e3 : (List.range 9).countP (fun r => b.getD (9 * f + (8 - r)) 0 == 16 * S + 1) = ((List.range 9).map fun r => 8 - r).countP (fun r => b.getD (9 * f + r) 0 == 16 * S + 1) := by
    rw [List.countP_map]; rfl
  rw [e3, e2, List.countP_reverse]

theorem hd_turn {h : List Int} (hh : h.length = 16) {S k : Int} (hS : S = 0 ∨ S = 1) (hk : 0 ≤ k ∧ k < 8) : hd_ (trnH h) (1 - S) k = hd_ h S k := by
  unfold hd_ trnH
  rcases hS with rfl | rfl
  · rw [List.getD_eq_getElem?_getD, List.getD_eq_getElem?_getD, List.getElem?_append_right (by simp; omega)]
    congr 1
    rw [List.getElem?_take_of_lt (by simp; omega)]
    congr 1
    simp; omega
  · rw [List.getD_eq_getElem?_getD, List.getD_eq_getElem?_getD, List.getElem?_append_left (by simp; omega), List.getElem?_drop]
    congr 1
    show h[8 + (0 * 8 + k.toNat)]? = h[1 * 8 + k.toNat]?
    congr 1
    omega

theorem chk0 {f t : Int} (p : Bool) (h1 : 0 ≤ f ∧ f < 81) (h2 : 0 ≤ t ∧ t < 81) : chkM f t 0 p = if f = t then 70 else 0 := by
  unfold chkM
  rw [if_neg (c := ¬ (0 ≤ t ∧ t < 81)) (fun h => h h2), if_neg (c := (0 : Int) ≠ 0) (fun h => h rfl), if_neg (c := ¬ (0 ≤ f ∧ f < 81)) (fun h => h h1)]
theorem chkD {t d : Int} (h2 : 0 ≤ t ∧ t < 81) (hd : 1 ≤ d ∧ d ≤ 7) : chkM 0 t d false = 0 := by
  unfold chkM
  rw [if_neg (c := ¬ (0 ≤ t ∧ t < 81)) (fun h => h h2), if_pos (c := d ≠ 0) (by omega), if_pos ⟨hd.1, hd.2, rfl, rfl⟩]
theorem mov0 (b h : List Int) (s f t : Int) (p : Bool) : movS b h s f t 0 p = ((decide (chkM f t 0 p = 0) && (decide (s = 0 ∨ s = 1) && (decide (sd (at_ b f) = s ∧ sd (at_ b t) ≠ s ∧ kd (at_ b t) ≠ 8) && (!p || decide (up_ (kd (at_ b f)) ≠ 0))))) &&
    (rch (at_ b f) f.toNat t.toNat (tk b) && if p = true then mayS (at_ b f) f t else !mustS (at_ b f) t)) := by
  unfold movS canS
  rw [if_neg (c := (0 : Int) ≠ 0) (fun h => h rfl), if_neg (c := (0 : Int) ≠ 0) (fun h => h rfl)]
theorem movD (b h : List Int) (s t : Int) {d : Int} (hd : d ≠ 0) : movS b h s 0 t d false = ((decide (chkM 0 t d false = 0) && (decide (s = 0 ∨ s = 1) && (decide (0 < hd_ h s d) && decide (at_ b t = 0)))) &&
    (!deadI (16 * s + d) t && (decide (d ≠ 1) || decide (nF b (16 * s + d) (t.toNat / 9) = 0)))) := by
  unfold movS canS
  rw [if_pos (c := d ≠ 0) hd, if_pos (c := d ≠ 0) hd]

theorem mov_turn {b h : List Int} (hc : Clean b) (hh : h.length = 16) {S : Int} (hS : S = 0 ∨ S = 1) {f t : Nat} (hf : f < 81) (ht : t < 81) (p : Bool) :
    movS (trnB b) (trnH h) (1 - S) ((80 : Int) - f) ((80 : Int) - t) 0 p = movS b h S f t 0 p := by
  have hc' := trn_clean hc
  have hS' : (1 : Int) - S = 0 ∨ (1 : Int) - S = 1 := by omega
  have ef : at_ (trnB b) ((80 : Int) - f) = trnP (b.getD f 0) := by
    rw [at_in (by omega), show ((80 : Int) - f).toNat = 80 - f by omega, trn_get b (by omega), show 80 - (80 - f) = f by omega]
  have et : at_ (trnB b) ((80 : Int) - t) = trnP (b.getD t 0) := by
    rw [at_in (by omega), show ((80 : Int) - t).toNat = 80 - t by omega, trn_get b (by omega), show 80 - (80 - t) = t by omega]
  have em : chkM ((80 : Int) - f) ((80 : Int) - t) 0 p = chkM f t 0 p := by
    rw [chk0 p (by omega) (by omega), chk0 p (by omega) (by omega)]
    by_cases hft : f = t
    · rw [if_pos (by omega), if_pos (by omega)]
    · rw [if_neg (by omega), if_neg (by omega)]
  rw [mov0, mov0, em, ef, et, decide_eq_true (p := (1 : Int) - S = 0 ∨ (1 : Int) - S = 1) hS', decide_eq_true (p := S = 0 ∨ S = 1) hS,
    at_in (b := b) (q := (f : Int)) (by omega), at_in (b := b) (q := (t : Int)) (by omega), tn, tn, show ((80 : Int) - f).toNat = 80 - f by omega, show ((80 : Int) - t).toNat = 80 - t by omega, kd_val hc hf, kd_val hc ht]
  by_cases hs : sd (b.getD f 0) = S
  · have hk : kd (b.getD f 0) ≠ 0 := fun hk => by
      have := sd_none hk
      omega
    have e1 : decide (sd (trnP (b.getD f 0)) = 1 - S ∧ sd (trnP (b.getD t 0)) ≠ 1 - S ∧ kd (b.getD t 0) ≠ 8) = decide (sd (b.getD f 0) = S ∧ sd (b.getD t 0) ≠ S ∧ kd (b.getD t 0) ≠ 8) := by
      rw [decide_eq_decide, sd_val hc hf hS, Ne, Ne, sd_val hc ht hS]
    rw [e1, rch_trn hc hk hf ht]
    have e2 : mayS (trnP (b.getD f 0)) ((80 : Int) - f) ((80 : Int) - t) = mayS (b.getD f 0) f t := by
      unfold mayS
      rw [(trn_ks hk).1, (trn_ks hk).2, inZ_turn (sd_range hk) hf, inZ_turn (sd_range hk) ht]
    have e3 : mustS (trnP (b.getD f 0)) ((80 : Int) - t) = mustS (b.getD f 0) t := by
      unfold mustS
      rw [(trn_ks hk).1, dead_turn hk ht]
    rw [e2, e3]
  · have e1 : decide (sd (trnP (b.getD f 0)) = 1 - S ∧ sd (trnP (b.getD t 0)) ≠ 1 - S ∧ kd (b.getD t 0) ≠ 8) = false := decide_eq_false fun hh => hs ((sd_val hc hf hS).1 hh.1)
    have e2 : decide (sd (b.getD f 0) = S ∧ sd (b.getD t 0) ≠ S ∧ kd (b.getD t 0) ≠ 8) = false := decide_eq_false fun hh => hs hh.1
    rw [e1, e2]
    simp

theorem drop_turn {b h : List Int} (hc : Clean b) (hh : h.length = 16) {S : Int} (hS : S = 0 ∨ S = 1) {d : Int} (hd : 1 ≤ d ∧ d ≤ 7) {t : Nat} (ht : t < 81) :
    movS (trnB b) (trnH h) (1 - S) 0 ((80 : Int) - t) d false = movS b h S 0 t d false := by
  have hS' : (1 : Int) - S = 0 ∨ (1 : Int) - S = 1 := by omega
  have et : decide (at_ (trnB b) ((80 : Int) - t) = 0) = decide (at_ b t = 0) := by
    rw [at_in (by omega), at_in (by omega), show ((80 : Int) - t).toNat = 80 - t by omega, tn]
    have := trn_tk hc (i := 80 - t) (by omega)
    unfold tk at this
    rw [show 80 - (80 - t) = t by omega] at this
    simpa using this
  have hk : kd (16 * S + d) ≠ 0 ∧ trnP (16 * S + d) = 16 * (1 - S) + d := by
    have e : ∀ S ∈ [(0 : Int), 1], ∀ d ∈ [(1 : Int), 2, 3, 4, 5, 6, 7], kd (16 * S + d) ≠ 0 ∧ trnP (16 * S + d) = 16 * (1 - S) + d := by decide +kernel
    refine e S (by rcases hS with h | h <;> simp [h]) d ?_
    obtain h | h | h | h | h | h | h : d = 1 ∨ d = 2 ∨ d = 3 ∨ d = 4 ∨ d = 5 ∨ d = 6 ∨ d = 7 := by omega
    all_goals simp [h]
  rw [movD _ _ _ _ (show d ≠ 0 by omega), movD _ _ _ _ (show d ≠ 0 by omega), chkD (by omega) hd, chkD (by omega) hd, decide_eq_true (p := (1 : Int) - S = 0 ∨ (1 : Int) - S = 1) hS', decide_eq_true (p := S = 0 ∨ S = 1) hS, hd_turn hh hS (by omega), et, ← hk.2, dead_turn hk.1 ht]
  by_cases h1 : d = 1
  · subst h1
    rw [hk.2, show ((80 : Int) - t).toNat / 9 = 8 - t / 9 by omega, tn, nF_turn hc hS (by omega)]
  · rw [decide_eq_true (p := d ≠ 1) h1, Bool.true_or, Bool.true_or]

/-- A move turned about. -/
def trnM (m : List Int) : List Int := if m.getD 2 0 = 0 then [80 - m.getD 0 0, 80 - m.getD 1 0, m.getD 2 0, m.getD 3 0] else [0, 80 - m.getD 1 0, m.getD 2 0, m.getD 3 0]
theorem trnM_mem {b h : List Int} (hc : Clean b) (hh : h.length = 16) {S : Int} (hS : S = 0 ∨ S = 1) {m : List Int} (hm : m ∈ mvs b h S) : trnM m ∈ mvs (trnB b) (trnH h) (1 - S) := by
  obtain ⟨f, t, d, p, rfl, hok⟩ := mvs_mem hc hS hm
  have hbi : bi (p != 0) = p := by rcases hok.pp with h0 | h0 <;> rw [h0] <;> rfl
  have ht := hok.tr
  have hf := hok.fr
  have hd := hok.dr
  unfold trnM
  simp only [List.getD_cons_zero, List.getD_cons_succ]
  by_cases h0 : d = 0
  · subst h0
    rw [if_pos rfl, ← hbi]
    refine mem_mvs (trn_clean hc) (by omega) ?_
    have := mov_turn hc hh hS (f := f.toNat) (t := t.toNat) (by omega) (by omega) (p != 0)
    rw [show ((f.toNat : Nat) : Int) = f by omega, show ((t.toNat : Nat) : Int) = t by omega] at this
    rw [this]; exact hok.mov
  · obtain ⟨rfl, rfl, _, _⟩ := hok.drop h0
    rw [if_neg h0]
    have h1 := mem_mvs (h := trnH h) (S := 1 - S) (f := 0) (t := 80 - t) (d := d) (p := false) (trn_clean hc) (by omega) (by
      have := drop_turn hc hh hS (d := d) (by omega) (t := t.toNat) (by omega)
      rw [show ((t.toNat : Nat) : Int) = t by omega] at this
      rw [this]; exact hok.mov)
    exact h1
theorem trnM_inj {b h : List Int} (hc : Clean b) {S : Int} (hS : S = 0 ∨ S = 1) {m n : List Int} (hm : m ∈ mvs b h S) (hn : n ∈ mvs b h S) (he : trnM m = trnM n) : m = n := by
  obtain ⟨f, t, d, p, rfl, hok⟩ := mvs_mem hc hS hm
  obtain ⟨f', t', d', p', rfl, hok'⟩ := mvs_mem hc hS hn
  unfold trnM at he
  simp only [List.getD_cons_zero, List.getD_cons_succ] at he
  have e1 := hok.drop
  have e2 := hok'.drop
  by_cases h0 : d = 0 <;> by_cases h0' : d' = 0
  · rw [if_pos h0, if_pos h0'] at he
    simp only [List.cons.injEq, and_true] at he ⊢
    omega
  · rw [if_pos h0, if_neg h0'] at he
    simp only [List.cons.injEq, and_true] at he ⊢
    omega
  · rw [if_neg h0, if_pos h0'] at he
    simp only [List.cons.injEq, and_true] at he ⊢
    omega
  · rw [if_neg h0, if_neg h0'] at he
    have := e1 h0
    have := e2 h0'
    simp only [List.cons.injEq, and_true] at he ⊢
    omega

theorem trnB_trnB {b : List Int} (hc : Clean b) : trnB (trnB b) = b := by
  apply List.ext_getElem (by rw [trn_len, hc.len])
  intro j h1 h2
  rw [trn_len] at h1
  have h3 := at_i (b := trnB (trnB b)) (i := j) (by rw [trn_len]; exact h1)
  have h4 := at_i (b := b) (i := j) h2
  rw [← h3, ← h4, trn_get _ h1, trn_get _ (by omega), show 80 - (80 - j) = j by omega]
  rcases hc.ok j h1 with h | h
  · rw [h]; rfl
  · have e : ∀ n : Fin 32, kd ((n.val : Nat) : Int) ≠ 0 → trnP (trnP ((n.val : Nat) : Int)) = ((n.val : Nat) : Int) := by decide +kernel
    obtain ⟨q1, q2, _⟩ := kd_rng h
    obtain ⟨n, hn⟩ := fin32 (x := b.getD j 0) (by omega) q2
    rw [hn] at h ⊢
    exact e n h
theorem trnH_trnH {h : List Int} (hh : h.length = 16) : trnH (trnH h) = h := by
  unfold trnH
  have a : (h.drop 8).length = 8 := by simp; omega
  rw [List.drop_left' a, List.take_left' a]
  exact List.take_append_drop 8 h

theorem sub_len {α : Type} [DecidableEq α] : ∀ {l m : List α}, l.Nodup → (∀ x ∈ l, x ∈ m) → l.length ≤ m.length
  | [], m, _, _ => Nat.zero_le _
  | a :: l, m, hn, hs => by
    have ha := hs a (by simp)
    have := sub_len (l := l) (m := m.erase a) (List.nodup_cons.1 hn).2 fun x hx => by
      have hne : x ≠ a := fun h => (List.nodup_cons.1 hn).1 (h ▸ hx)
      exact (List.mem_erase_of_ne hne).2 (hs x (by simp [hx]))
    rw [List.length_erase_of_mem ha] at this
    have h2 : 0 < m.length := List.length_pos_of_mem ha
    simp only [List.length_cons]
    omega
theorem nodup_map {α β : Type} {f : α → β} : ∀ {l : List α}, l.Nodup → (∀ x ∈ l, ∀ y ∈ l, f x = f y → x = y) → (l.map f).Nodup
  | [], _, _ => List.nodup_nil
  | a :: l, hn, hi => by
    rw [List.map_cons, List.nodup_cons]
    refine ⟨fun hm => ?_, nodup_map (List.nodup_cons.1 hn).2 fun x hx y hy => hi x (by simp [hx]) y (by simp [hy])⟩
    obtain ⟨x, hx, he⟩ := List.mem_map.1 hm
    have := hi x (by simp [hx]) a (by simp) he
    subst this
    exact (List.nodup_cons.1 hn).1 hx
theorem turn_le {b h : List Int} (hc : Clean b) (hh : h.length = 16) {S : Int} (hS : S = 0 ∨ S = 1) : (mvs b h S).length ≤ (mvs (trnB b) (trnH h) (1 - S)).length := by
  have h1 : ((mvs b h S).map trnM).Nodup := nodup_map (mvs_nodup b h S) fun x hx y hy => trnM_inj hc hS hx hy
  have := sub_len h1 (m := mvs (trnB b) (trnH h) (1 - S)) fun x hx => by
    obtain ⟨m, hm, rfl⟩ := List.mem_map.1 hx
    exact trnM_mem hc hh hS hm
  rwa [List.length_map] at this
theorem turn_len {b h : List Int} (hc : Clean b) (hh : h.length = 16) {S : Int} (hS : S = 0 ∨ S = 1) : (mvs b h S).length = (mvs (trnB b) (trnH h) (1 - S)).length := by
  have h1 := turn_le hc hh hS
  have h2 := turn_le (h := trnH h) (S := 1 - S) (trn_clean hc) (by unfold trnH; simp; omega) (by omega)
  rw [trnB_trnB hc, trnH_trnH hh, show (1 : Int) - (1 - S) = S by omega] at h2
  omega

end Go.Kk.Pl
