/-
  Who attacks what, plainly: the program's answer and the reference's.
-/
import Derived.Test.YtaoifdkheaagpaaDoorKkRay2
namespace Go.Kk.Pl

/-! ### ways back -/

theorem back_all : ∀ (a c : Fin 81), (btw a.val c.val).all (fun s => (btw c.val a.val).contains s) = true := by decide +kernel
theorem btw_back {a c : Nat} (ha : a < 81) (hc : c < 81) {s : Nat} (hs : s ∈ btw a c) : s ∈ btw c a := by
  have := back_all ⟨a, ha⟩ ⟨c, hc⟩
  rw [List.all_eq_true] at this
  simpa using this s hs
theorem free_iff {a c : Nat} {t : Nat → Bool} : freeS a c t = true ↔ ∀ s ∈ btw a c, t s = false := by simp [freeS]
theorem free_back {a c : Nat} (ha : a < 81) (hc : c < 81) (t : Nat → Bool) : freeS a c t = freeS c a t := by
  rw [Bool.eq_iff_iff, free_iff, free_iff]
  exact ⟨fun h s hs => h s (btw_back hc ha hs), fun h s hs => h s (btw_back ha hc hs)⟩
theorem free_congr {a c : Nat} (ha : a < 81) (hc : c < 81) {t t' : Nat → Bool} (h : ∀ s, s < 81 → t s = t' s) : freeS a c t = freeS a c t' := by
  rw [Bool.eq_iff_iff, free_iff, free_iff]
  exact ⟨fun hh s hs => by rw [← h s (btw_mem ha hc hs)]; exact hh s hs, fun hh s hs => by rw [h s (btw_mem ha hc hs)]; exact hh s hs⟩
theorem rch_congr {x : Int} {a c : Nat} (ha : a < 81) (hc : c < 81) {t t' : Nat → Bool} (h : ∀ s, s < 81 → t s = t' s) : rch x a c t = rch x a c t' := by
  unfold rch; rw [free_congr ha hc h]

theorem sd_pc {s k : Int} (hs : s = 0 ∨ s = 1) (h1 : 1 ≤ k) (h2 : k ≤ 15) (h3 : k ≠ 13) : sd (pc s k) = s ∧ kd (pc s k) = k := by
  rw [pc_ok hs h1 h2 h3]
  have hk := kd_of hs h1 h2 h3
  refine ⟨?_, hk⟩
  unfold sd
  rw [hk, if_neg (by omega)]
  rcases hs with rfl | rfl
  · rw [if_pos (by omega)]
  · rw [if_neg (by omega)]
theorem stpK_neg (k d u : Int) : stpK k (-d) u ↔ stpK k d u := by
  unfold stpK
  exact or_congr (by omega) (or_congr (by omega) (or_congr (by omega) (or_congr (by omega) (or_congr (by omega) (or_congr (by omega) (by omega))))))
theorem slK_neg (k d u : Int) : slK k (-d) u ↔ slK k d u := by
  unfold slK
  exact or_congr (by omega) (or_congr (by omega) (by omega))
/-- A piece goes from here to there just if the other side's would from there to here. -/
theorem rch_turn {s k : Int} (hs : s = 0 ∨ s = 1) (h1 : 1 ≤ k) (h2 : k ≤ 15) (h3 : k ≠ 13) {a c : Nat} (ha : a < 81) (hc : c < 81) (t : Nat → Bool) :
    rch (pc (1 - s) k) a c t = rch (pc s k) c a t := by
  obtain ⟨e1, e2⟩ := sd_pc hs h1 h2 h3
  obtain ⟨e3, e4⟩ := sd_pc (s := 1 - s) (by omega) h1 h2 h3
  have hd : df a c = -df c a := by unfold df; omega
  have hr : dr a c = -dr c a := by unfold dr; omega
  have hu : upS (pc (1 - s) k) a c = upS (pc s k) c a := by
    unfold upS
    rw [e1, e3]
    rcases hs with rfl | rfl
    · rw [if_pos (by omega), if_neg (by omega)]; exact hr
    · rw [if_neg (by omega), if_pos (by omega), hr]; omega
  unfold rch stepB slideB
  rw [e2, e4, hu, free_back ha hc]
  have s1 : decide (stpK k (df a c) (upS (pc s k) c a)) = decide (stpK k (df c a) (upS (pc s k) c a)) := by
    rw [decide_eq_decide, hd]; exact stpK_neg _ _ _
  have s2 : decide (slK k (df a c) (upS (pc s k) c a)) = decide (slK k (df c a) (upS (pc s k) c a)) := by
    rw [decide_eq_decide, hd]; exact slK_neg _ _ _
  rw [s1, s2]
/-- A piece is that of its side and kind. -/
theorem pc_of {x : Int} (h : kd x ≠ 0) : x = pc (sd x) (kd x) := by
  obtain ⟨k0, k1, k2⟩ := kd_bounds x
  have hs := sd_range h
  rw [pc_ok hs (by omega) k1 k2]
  have hr := kd_range h
  unfold sd kd at *
  rw [if_neg h]
  split at h
  · omega
  · rename_i hh
    rw [if_neg hh]
    split <;> omega

/-! ### the program's -/

/-- Where a side's pieces stand that attack a square, of a kind from one on. -/
def onF (b : List Int) (q : Nat) (s : Int) (t : Nat → Bool) (i : Int) (c : Nat) : Bool := decide (sd (b.getD c 0) = s ∧ i ≤ kd (b.getD c 0)) && rch (b.getD c 0) c q t
theorem att_goes {b : List Int} (h : List Int) (S : Int) (sd' : List (List Int)) {s : Int} (hs : s = 0 ∨ s = 1) {q : Nat} (hq : q < 81) (t : Nat → Bool) (u v : Int) : ∀ (n : Nat) (k : Int), k = 16 - n → n ≤ 15 → ∀ (f : Nat → Bool) (F : Nat),
    attack_Onl5 (F + n + 1) q s k b h S (byOf b) sd' (sLo t) (sHi t) u v (sLo f) (sHi f) = some (b, h, S, byOf b, sd', u, v, sLo fun c => f c || onF b q s t k c, sHi fun c => f c || onF b q s t k c) := by
  intro n
  induction n with
  | zero =>
    intro k hk _ f F
    show attack_Onl5s (attack_Onl5 (F + 0)) _ _ _ _ _ _ _ _ _ _ _ _ _ _ = _
    unfold attack_Onl5s
    rw [b_nle (by omega)]
    have : (fun c => f c || onF b q s t k c) = f := by
      funext c
      have := (kd_bounds (b.getD c 0)).2.1
      unfold onF
      rw [decide_eq_false (by omega)]
      simp
    rw [this]
  | succ n ih =>
    intro k hk hn f F
    show attack_Onl5s (attack_Onl5 (F + n + 1)) _ _ _ _ _ _ _ _ _ _ _ _ _ _ = _
    unfold attack_Onl5s
    rw [b_le (by omega), w_s (n := 1 - s) (by omega) (by omega), of_gen, ob_some, w_s (n := k + 1) (by omega) (by omega)]
    by_cases h13 : k = 13
    · have hz : pc (1 - s) k = 0 := pc_none (by omega)
      rw [b_eq hz]
      refine (ih (k + 1) (by omega) (by omega) f F).trans ?_
      have : (fun c => f c || onF b q s t (k + 1) c) = fun c => f c || onF b q s t k c := by
        funext c
        have := (kd_bounds (b.getD c 0)).2.2
        unfold onF
        congr 2
        rw [decide_eq_decide]
        omega
      rw [this]
    · have hp := pc_ok (s := 1 - s) (k := k) (by omega) (by omega) (by omega) h13
      rw [b_neq (by rw [hp]; omega), rayOf_val _ hq, ob_some]
      simp only
      rw [ofB_val, ob_some]
      simp only
      rw [and_val, ob_some]
      simp only
      rw [or_val, ob_some]
      simp only
      refine (ih (k + 1) (by omega) (by omega) _ F).trans ?_
      obtain ⟨e1, e2⟩ := set_congr (f := fun c => (f c || (rch (pc (1 - s) k) q c t && pcs b (pc s k) c)) || onF b q s t (k + 1) c) (g := fun c => f c || onF b q s t k c) fun c hc => by
        rw [rch_turn hs (by omega) (by omega) h13 hq hc, Bool.or_assoc]
        congr 1
        obtain ⟨g1, g2⟩ := sd_pc hs (by omega) (by omega) h13
        have hne : pc s k ≠ 0 := by rw [pc_ok hs (by omega) (by omega) h13]; omega
        unfold onF pcs
        by_cases hx : b.getD c 0 = pc s k
        · rw [hx, g1, g2, decide_eq_true (show pc s k ≠ 0 ∧ pc s k = pc s k from ⟨hne, rfl⟩), decide_eq_false (by omega), decide_eq_true (by omega)]
          simp
        · rw [decide_eq_false (p := pc s k ≠ 0 ∧ b.getD c 0 = pc s k) (by omega), Bool.and_false, Bool.false_or]
          congr 1
          rw [decide_eq_decide]
          constructor
          · rintro ⟨h1, h2⟩; exact ⟨h1, by omega⟩
          · rintro ⟨h1, h2⟩
            refine ⟨h1, ?_⟩
            rcases Int.lt_or_eq_of_le h2 with h3 | h3
            · omega
            · exfalso
              apply hx
              have hk0 : kd (b.getD c 0) ≠ 0 := by omega
              have := pc_of hk0
              rw [h1, ← h3] at this
              exact this
      rw [e1, e2]

/-- Where a side's pieces stand that attack a square. -/
def onS (b : List Int) (q s : Int) (t : Nat → Bool) (c : Nat) : Bool := decide (0 ≤ q ∧ q < 81) && (decide (s = 0 ∨ s = 1) && (decide (sd (b.getD c 0) = s) && rch (b.getD c 0) c q.toNat t))
theorem onF_one (b : List Int) {s : Int} (hs : s = 0 ∨ s = 1) (q : Nat) (hq : q < 81) (t : Nat → Bool) : onF b q s t 1 = onS b q s t := by
  funext c
  unfold onF onS
  rw [decide_eq_true (show (0 : Int) ≤ q ∧ (q : Int) < 81 by omega), decide_eq_true hs, Bool.true_and, Bool.true_and]
  congr 1
  rw [decide_eq_decide]
  constructor
  · exact fun h => h.1
  · intro h
    refine ⟨h, ?_⟩
    have := (kd_bounds (b.getD c 0)).1
    rcases Int.lt_or_eq_of_le this with h1 | h1
    · omega
    · rw [sd_none h1.symm] at h; omega
theorem onP_val (b h : List Int) (S : Int) (sd' : List (List Int)) (q s : Int) (t : Nat → Bool) : attack_On q s (sLo t) (sHi t) b h S (byOf b) sd' = some (sLo (onS b q s t), sHi (onS b q s t)) := by
  have none : ¬ ((0 ≤ q ∧ q < 81) ∧ (s = 0 ∨ s = 1)) → onS b q s t = fun _ => false := by
    intro hn
    funext c
    unfold onS
    by_cases h1 : 0 ≤ q ∧ q < 81
    · rw [decide_eq_false (p := s = 0 ∨ s = 1) (fun h2 => hn ⟨h1, h2⟩)]; simp
    · rw [decide_eq_false h1]; simp
  unfold attack_On
  by_cases h0 : q < 0
  · rw [b_lt h0, none (by omega), sLo_false, sHi_false]
  rw [b_nlt h0]
  by_cases h1 : q ≥ 81
  · rw [b_ge h1, none (by omega), sLo_false, sHi_false]
  rw [b_nge h1]
  obtain ⟨a, rfl⟩ : ∃ a : Nat, q = a := ⟨q.toNat, by omega⟩
  obtain ⟨g, hg⟩ := many_eq 15 (by omega)
  have main : (s = 0 ∨ s = 1) → attack_Onl5 many a s 1 b h S (byOf b) sd' (sLo t) (sHi t) 0 0 0 0 = some (b, h, S, byOf b, sd', 0, 0, sLo (onS b a s t), sHi (onS b a s t)) := by
    intro hs
    have := att_goes (b := b) h S sd' hs (q := a) (by omega) t 0 0 15 1 (by omega) (by omega) (fun _ => false) g
    rw [← hg, sLo_false, sHi_false] at this
    rw [this, onF_one b hs a (by omega)]
    simp only [Bool.false_or]
  by_cases h2 : s = 0
  · rw [b_nne h2, main (.inl h2), ob_some]
  · rw [b_ne h2]
    by_cases h3 : s = 1
    · rw [b_nne h3, main (.inr h3), ob_some]
    · rw [b_ne h3, none (by omega), sLo_false, sHi_false]

/-- Where a side's king stands; -1: nowhere. -/
def kg (b : List Int) (s : Int) : Int := fst (pcs b (pc s 8))
/-- Who gives check to a side; is a side in check? -/
def chs (b : List Int) (s : Int) : Nat → Bool := onS b (kg b s) (1 - s) (tk b)
def inC (b : List Int) (s : Int) : Bool := !isE (chs b s)
theorem fst_range (f : Nat → Bool) : -1 ≤ fst f ∧ fst f < 81 := by
  unfold fst
  split
  · rename_i i hi
    have := List.mem_of_find?_eq_some hi
    rw [List.mem_range] at this
    omega
  · omega
theorem checkers_val {b : List Int} (hc : Clean b) (h : List Int) (S : Int) {s : Int} (hs : -10 ≤ s ∧ s ≤ 10) : attack_Checkers s b h S (byOf b) (sidesOf b) = some (sLo (chs b s), sHi (chs b s)) := by
  unfold attack_Checkers
  rw [kingB_val, ob_some, takenB_val hc, ob_some]
  simp only
  rw [w_s (by omega) (by omega), onP_val, ob_some]
  rfl
theorem inCheck_val {b : List Int} (hc : Clean b) (h : List Int) (S : Int) {s : Int} (hs : -10 ≤ s ∧ s ≤ 10) : attack_InCheck s b h S (byOf b) (sidesOf b) = some (inC b s) := by
  unfold attack_InCheck
  rw [checkers_val hc h S hs, ob_some]
  simp only
  rw [empty_val, ob_some]
  rfl
theorem chk_zero_clean {b h : List Int} {s : Int} (hl : b.length = 81) (hz : chkS b h s = 0) : Clean b ∧ (s = 0 ∨ s = 1) := by
  unfold chkS at hz
  split at hz
  · omega
  · rename_i hs
    split at hz
    · omega
    · rename_i hb
      exact ⟨bad_clean hl (by simpa using hb), by omega⟩
/-- The error's number of a position. -/
def atkS (b h : List Int) (s : Int) : Int := if chkS b h s ≠ 0 then chkS b h s else if inC b (1 - s) then 54 else 0
theorem attackCheck_val {b h : List Int} (hl : b.length = 81) (hf : Fits8 h) (s : Int) : attack_Check b h s = some (atkS b h s) := by
  unfold attack_Check atkS
  rw [check_full hl hf, ob_some]
  by_cases hz : chkS b h s = 0
  · obtain ⟨hc, hs⟩ := chk_zero_clean hl hz
    rw [b_nne hz, if_neg (by simpa using hz), new_full hl, ob_some, cl_id hc]
    simp only
    rw [w_s (by omega) (by omega), inCheck_val hc h s (by omega), ob_some]
    cases inC b (1 - s) <;> rfl
  · rw [b_ne hz, if_pos hz]

/-! ### the reference's -/

def tkL (b : List Int) (i : Nat) : List Bool := (List.range 81).map fun j => decide (j < i) && tk b j
theorem taken_goes (b h : List Int) (s : Int) (w : List Bool) : ∀ (n i : Nat), i + n = 81 → ∀ F, ref05_Takenl3 (F + n + 1) i b h s w (tkL b i) = some (w, tkL b 81) := by
  intro n
  induction n with
  | zero =>
    intro i hi F
    show ref05_Takenl3s (ref05_Takenl3 (F + 0)) _ _ _ _ _ _ = _
    unfold ref05_Takenl3s
    rw [b_nlt (by omega), show i = 81 by omega]
  | succ n ih =>
    intro i hi F
    show ref05_Takenl3s (ref05_Takenl3 (F + n + 1)) _ _ _ _ _ _ = _
    unfold ref05_Takenl3s
    have e : List.set (tkL b i) i (b.getD i 0 != 0) = tkL b (i + 1) := by
      unfold tkL
      rw [map_set]
      apply List.map_congr_left
      intro j _
      split
      · rename_i hj; subst hj
        rw [decide_eq_true (show j < j + 1 by omega), Bool.true_and]
        unfold tk
        rw [Bool.eq_iff_iff]; simp
      · rename_i hj
        congr 1
        rw [decide_eq_decide]; omega
    rw [b_lt (by omega), b_in (by omega) (by omega), b_in (by omega) (by omega), tn, e, w_s (by omega) (by omega)]
    exact ih (i + 1) (by omega) F
theorem tkL_zero (b : List Int) : tkL b 0 = List.replicate 81 false := by
  unfold tkL
  apply List.ext_getElem
  · simp
  · intro i h1 h2
    rw [List.getElem_map, List.getElem_replicate, decide_eq_false (by omega), Bool.false_and]
def takenL (b : List Int) : List Bool := tkL b 81
theorem taken_val (b h : List Int) (s : Int) : ref05_Taken b h s = some (takenL b) := by
  obtain ⟨g, hg⟩ := many_eq 81 (by omega)
  have := taken_goes b h s (List.replicate 81 false) 81 0 (by omega) g
  rw [← hg, tkL_zero] at this
  unfold ref05_Taken
  show ob (ref05_Takenl3 many 0 b h s (List.replicate 81 false) (List.replicate 81 false)) _ = _
  rw [show ref05_Takenl3 many 0 b h s (List.replicate 81 false) (List.replicate 81 false) = _ from this, ob_some]
  rfl
theorem takenL_get (b : List Int) {i : Nat} (h : i < 81) : (takenL b).getD i false = tk b i := by
  unfold takenL tkL
  rw [map_getD _ h, decide_eq_true h, Bool.true_and]
theorem reachT_val (b : List Int) (x : Int) {a c : Nat} (ha : a < 81) (hc : c < 81) : ref04_Reaches x a c (takenL b) = some (rch x a c (tk b)) := by
  rw [reach_val x ha hc, rch_congr ha hc fun s hs => takenL_get b hs]

theorem rking_goes (b h : List Int) (S : Int) {s : Int} (hs : s = 0 ∨ s = 1) : ∀ (n i : Nat), i + n = 81 → (∀ j, j < i → pcs b (pc s 8) j = false) → ∀ F, ref08_Kingl2 (F + n + 1) s i b h S = some (if kg b s = -1 then .inr () else .inl (kg b s)) := by
  have hp : pc s 8 = 16 * s + 8 := pc_ok hs (by omega) (by omega) (by omega)
  intro n
  induction n with
  | zero =>
    intro i hi hj F
    show ref08_Kingl2s (ref08_Kingl2 (F + 0)) _ _ _ _ _ = _
    unfold ref08_Kingl2s
    have : kg b s = -1 := fst_none fun j hj' => hj j (by omega)
    rw [b_nlt (by omega), if_pos this]
  | succ n ih =>
    intro i hi hj F
    show ref08_Kingl2s (ref08_Kingl2 (F + n + 1)) _ _ _ _ _ = _
    unfold ref08_Kingl2s
    rw [b_lt (by omega), b_in (by omega) (by omega), tn, c_8, w_s (n := 16 * s) (by omega) (by omega), w_s (n := 16 * s + 8) (by omega) (by omega), w_s (by omega) (by omega), ← hp]
    by_cases hx : b.getD i 0 = pc s 8
    · have hk : pcs b (pc s 8) i = true := by unfold pcs; rw [decide_eq_true]; exact ⟨by rw [hp]; omega, hx⟩
      have : kg b s = i := fst_some (by omega) hk hj
      rw [b_eq hx, this, if_neg (by omega)]
    · rw [b_neq hx]
      refine ih (i + 1) (by omega) (fun j hj' => ?_) F
      by_cases hji : j = i
      · subst hji; unfold pcs; rw [decide_eq_false]; exact fun hh => hx hh.2
      · exact hj j (by omega)
theorem rking_val (b h : List Int) (S : Int) {s : Int} (hs : s = 0 ∨ s = 1) : ref08_King b h S s = some (kg b s) := by
  obtain ⟨g, hg⟩ := many_eq 81 (by omega)
  have := rking_goes b h S hs 81 0 (by omega) (fun j hj => absurd hj (by omega)) g
  rw [← hg] at this
  unfold ref08_King
  rw [show ref08_Kingl2 many s 0 b h S = _ from this, ob_some]
  split
  · rename_i hk; rw [hk]; rfl
  · rfl

theorem rin_goes (b h : List Int) (S s : Int) (hs : s = 0 ∨ s = 1) (k : Nat) (hk : k < 81) : ∀ (n i : Nat), i + n = 81 → ∀ F,
    ref08_InCheckl6 (F + n + 1) s k i b h S (takenL b) = some (if (List.range' i n).any (onS b k (1 - s) (tk b)) then .inl true else .inr ()) := by
  intro n
  induction n with
  | zero =>
    intro i hi F
    show ref08_InCheckl6s (ref08_InCheckl6 (F + 0)) _ _ _ _ _ _ _ = _
    unfold ref08_InCheckl6s
    rw [b_nlt (by omega)]
    rfl
  | succ n ih =>
    intro i hi F
    show ref08_InCheckl6s (ref08_InCheckl6 (F + n + 1)) _ _ _ _ _ _ _ = _
    unfold ref08_InCheckl6s
    have hr := ih (i + 1) (by omega) F
    rw [b_lt (by omega), b_in (by omega) (by omega), tn, c_8, refSide_val, ob_some, w_s (n := 1 - s) (by omega) (by omega), w_s (by omega) (by omega), any_cons]
    have hon : onS b k (1 - s) (tk b) i = (decide (sd (b.getD i 0) = 1 - s) && rch (b.getD i 0) i k (tk b)) := by
      unfold onS
      rw [decide_eq_true (show (0 : Int) ≤ k ∧ (k : Int) < 81 by omega), decide_eq_true (show 1 - s = 0 ∨ 1 - s = 1 by omega), Bool.true_and, Bool.true_and, tn]
    rw [hon]
    by_cases hsd : sd (b.getD i 0) = 1 - s
    · rw [b_eq hsd, b_in (by omega) (by omega), reachT_val b _ (by omega) hk, ob_some, decide_eq_true hsd, Bool.true_and]
      cases rch (b.getD i 0) i k (tk b) with
      | true => rfl
      | false => rw [b_f, Bool.false_or]; exact hr
    · rw [b_neq hsd, decide_eq_false hsd, Bool.false_and, Bool.false_or]
      exact hr
theorem any_isE (f : Nat → Bool) : (List.range' 0 81).any f = !isE f := by
  unfold isE
  rw [range81', Bool.eq_iff_iff]
  simp only [List.any_eq_true, Bool.not_eq_true']
  rw [List.all_eq_false]
  simp
theorem rinCheck_val (b h : List Int) (S : Int) {s : Int} (hs : s = 0 ∨ s = 1) : ref08_InCheck b h S s = some (inC b s) := by
  unfold ref08_InCheck
  rw [taken_val, ob_some, rking_val b h S hs, ob_some]
  have hr := fst_range (pcs b (pc s 8))
  have hkg : kg b s = fst (pcs b (pc s 8)) := rfl
  by_cases hk : kg b s < 0
  · rw [b_lt hk]
    have : chs b s = fun _ => false := by
      funext c
      unfold chs onS
      rw [decide_eq_false (by omega), Bool.false_and]
    unfold inC
    rw [this, isE_false]
    rfl
  · obtain ⟨k, hkk⟩ : ∃ k : Nat, kg b s = k := ⟨(kg b s).toNat, by omega⟩
    obtain ⟨g, hg⟩ := many_eq 81 (by omega)
    have := rin_goes b h S s hs k (by omega) 81 0 (by omega) g
    rw [← hg, any_isE, ← hkk] at this
    rw [b_nlt hk, show ref08_InCheckl6 many s (kg b s) 0 b h S (takenL b) = _ from this, ob_some]
    unfold inC chs
    cases isE (onS b (kg b s) (1 - s) (tk b)) <;> rfl
theorem rattackCheck_val {b h : List Int} (hl : b.length = 81) (hf : Fits8 h) (s : Int) : ref08_Check b h s = some (atkS b h s) := by
  unfold ref08_Check atkS
  rw [refCheck_val hl hf, ob_some]
  by_cases hz : chkS b h s = 0
  · obtain ⟨hc, hs⟩ := chk_zero_clean hl hz
    rw [b_nne hz, if_neg (by simpa using hz), w_s (by omega) (by omega), rinCheck_val b h s (by omega), ob_some]
    cases inC b (1 - s) <;> rfl
  · rw [b_ne hz, if_pos hz]

/-- The squares of a set, from the first on. -/
theorem ron_goes (b h : List Int) (S s : Int) (hs : s = 0 ∨ s = 1) (q : Nat) (hq : q < 81) : ∀ (n i : Nat), i + n = 81 → ∀ F,
    ref08_Onl5 (F + n + 1) q s ((List.range i).filter (onS b q s (tk b))).length i b h S (takenL b) ((List.range i).filter (onS b q s (tk b))).length (((List.range i).filter (onS b q s (tk b))).map Int.ofNat) =
      some ((sq (onS b q s (tk b))).length, (sq (onS b q s (tk b))).length, sq (onS b q s (tk b))) := by
  intro n
  induction n with
  | zero =>
    intro i hi F
    show ref08_Onl5s (ref08_Onl5 (F + 0)) _ _ _ _ _ _ _ _ _ _ = _
    unfold ref08_Onl5s
    rw [b_nlt (by omega), show i = 81 by omega]
    unfold sq
    rw [List.length_map]
  | succ n ih =>
    intro i hi F
    show ref08_Onl5s (ref08_Onl5 (F + n + 1)) _ _ _ _ _ _ _ _ _ _ = _
    unfold ref08_Onl5s
    have hr := ih (i + 1) (by omega) F
    have hlen : ((List.range i).filter (onS b q s (tk b))).length ≤ 81 := Nat.le_trans (List.length_filter_le _ _) (by simp; omega)
    rw [b_lt (by omega), b_in (by omega) (by omega), tn, c_8, refSide_val, ob_some, w_s (by omega) (by omega)]
    have hon : onS b q s (tk b) i = (decide (sd (b.getD i 0) = s) && rch (b.getD i 0) i q (tk b)) := by
      unfold onS
      rw [decide_eq_true (show (0 : Int) ≤ q ∧ (q : Int) < 81 by omega), decide_eq_true hs, Bool.true_and, Bool.true_and, tn]
    rw [List.range_succ, List.filter_append] at hr
    by_cases hsd : sd (b.getD i 0) = s
    · rw [b_eq hsd, b_in (by omega) (by omega), reachT_val b _ (by omega) hq, ob_some]
      rw [decide_eq_true hsd, Bool.true_and] at hon
      cases hrc : rch (b.getD i 0) i q (tk b) with
      | true =>
        rw [b_t, br_true (by simp; omega), app_take (by simp)]
        rw [hrc] at hon
        rw [List.filter_cons_of_pos hon, List.filter_nil] at hr
        simpa using hr
      | false =>
        rw [b_f]
        rw [hrc] at hon
        rw [List.filter_cons_of_neg (by simp [hon]), List.filter_nil, List.append_nil] at hr
        exact hr
    · rw [b_neq hsd]
      rw [decide_eq_false hsd, Bool.false_and] at hon
      rw [List.filter_cons_of_neg (by simp [hon]), List.filter_nil, List.append_nil] at hr
      exact hr
theorem ron_val (b h : List Int) (S s : Int) (hs : s = 0 ∨ s = 1) (q : Int) : ref08_On b h S q s (takenL b) = some ((sq (onS b q s (tk b))).length, (sq (onS b q s (tk b))).length, sq (onS b q s (tk b))) := by
  have none : ¬ (0 ≤ q ∧ q < 81) → sq (onS b q s (tk b)) = [] := by
    intro hn
    have : onS b q s (tk b) = fun _ => false := by funext c; unfold onS; rw [decide_eq_false hn, Bool.false_and]
    rw [this]
    unfold sq
    simp
  unfold ref08_On
  by_cases h0 : q < 0
  · rw [b_lt h0, none (by omega)]; rfl
  rw [b_nlt h0]
  by_cases h1 : q > 80
  · rw [b_gt h1, none (by omega)]; rfl
  rw [b_ngt h1]
  obtain ⟨a, rfl⟩ : ∃ a : Nat, q = a := ⟨q.toNat, by omega⟩
  obtain ⟨g, hg⟩ := many_eq 81 (by omega)
  have := ron_goes b h S s hs a (by omega) 81 0 (by omega) g
  rw [← hg] at this
  rw [show ref08_Onl5 many a s 0 0 b h S (takenL b) 0 [] = _ from this, ob_some]

/-- A set of some squares. -/
def ofL (L : List Int) (c : Nat) : Bool := L.any fun q => only q c
theorem of_goes (L : List Int) (hl : L.length ≤ 1000) (N : Nat) (u v : Int) : ∀ (n i : Nat), i + n = L.length → ∀ (f : Nat → Bool) (F : Nat),
    set_Ofl3 (F + n + 1) L.length L.length i N L u v (sLo f) (sHi f) = some (N, L, u, v, sLo fun c => f c || ofL (L.drop i) c, sHi fun c => f c || ofL (L.drop i) c) := by
  intro n
  induction n with
  | zero =>
    intro i hi f F
    show set_Ofl3s (set_Ofl3 (F + 0)) _ _ _ _ _ _ _ _ _ = _
    unfold set_Ofl3s
    rw [b_nlt (by omega), List.drop_eq_nil_of_le (by omega)]
    have : (fun c => f c || ofL [] c) = f := by funext c; simp [ofL]
    rw [this]
  | succ n ih =>
    intro i hi f F
    show set_Ofl3s (set_Ofl3 (F + n + 1)) _ _ _ _ _ _ _ _ _ = _
    unfold set_Ofl3s
    have hil : i < L.length := by omega
    have hget : L.getD i 0 = L[i] := at_i hil
    rw [b_lt (by omega), b_in (by omega) (by omega), tn, hget, with_val, ob_some]
    simp only
    rw [w_s (by omega) (by omega)]
    refine (ih (i + 1) (by omega) _ F).trans ?_
    have hd : L.drop i = L[i] :: L.drop (i + 1) := List.drop_eq_getElem_cons hil
    have : (fun c => (f c || only L[i] c) || ofL (L.drop (i + 1)) c) = fun c => f c || ofL (L.drop i) c := by
      funext c
      rw [hd]
      unfold ofL
      rw [List.any_cons, Bool.or_assoc]
    rw [this]
theorem of_set (L : List Int) (hl : L.length ≤ 1000) (N : Nat) : set_Of L.length N L = some (sLo (ofL L), sHi (ofL L)) := by
  obtain ⟨g, hg⟩ := many_eq L.length (by omega)
  have := of_goes L hl N 0 0 L.length 0 (by omega) (fun _ => false) g
  rw [← hg, sLo_false, sHi_false] at this
  unfold set_Of
  rw [show set_Ofl3 many L.length (Int.ofNat L.length) 0 N L 0 0 0 0 = _ from this, ob_some]
  simp only [Bool.false_or, List.drop_zero]
theorem sq_len (f : Nat → Bool) : (sq f).length ≤ 81 := by
  unfold sq; rw [List.length_map]; exact Nat.le_trans (List.length_filter_le _ _) (by simp)
theorem ofL_sq (f : Nat → Bool) {c : Nat} (hc : c < 81) : ofL (sq f) c = f c := by
  unfold ofL sq only
  rw [Bool.eq_iff_iff, List.any_eq_true]
  constructor
  · rintro ⟨q, hq, hqc⟩
    obtain ⟨j, hj, rfl⟩ := List.mem_map.1 hq
    simp only [decide_eq_true_eq, Int.ofNat_eq_natCast] at hqc
    have : c = j := by omega
    subst this
    exact (List.mem_filter.1 hj).2
  · intro h
    exact ⟨Int.ofNat c, List.mem_map.2 ⟨c, List.mem_filter.2 ⟨by simpa using hc, h⟩, rfl⟩, by simp⟩
theorem of_sq (f : Nat → Bool) : set_Of (sq f).length (sq f).length (sq f) = some (sLo f, sHi f) := by
  rw [of_set _ (by have := sq_len f; omega)]
  obtain ⟨e1, e2⟩ := set_congr (f := ofL (sq f)) (g := f) fun c hc => ofL_sq f hc
  rw [e1, e2]

end Go.Kk.Pl
