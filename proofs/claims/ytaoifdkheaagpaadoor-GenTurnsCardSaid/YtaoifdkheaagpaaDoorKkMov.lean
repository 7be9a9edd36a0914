/-
  Moves, plainly: which can be made, which pieces can make; where may be dropped.
-/
import Derived.Test.YtaoifdkheaagpaaDoorKkAttLaw
namespace Go.Kk.Pl

/-! ### promoting -/

theorem refUp_val (k : Int) : ref02_Up k = some (up_ k) := by
  unfold ref02_Up up_
  by_cases h1 : k ≥ 1
  · rw [b_ge h1]
    by_cases h7 : k ≤ 7
    · rw [b_le h7]
      by_cases h5 : k = 5
      · rw [b_nne h5]; simp [h5]
      · rw [b_ne h5, w_s (by omega) (by omega), if_pos (by omega)]
    · rw [b_nle h7, if_neg (by omega)]
  · rw [b_nge h1, if_neg (by omega)]
/-- How many ranks lie ahead, of any number. -/
def farI (s q : Int) : Int := if 0 ≤ q ∧ q < 81 then farS s q.toNat else -1
theorem refFarI {s : Int} (hs : s = -1 ∨ s = 0 ∨ s = 1) (q : Int) : ref03_Far s q = some (farI s q) := by
  unfold farI
  by_cases h : 0 ≤ q ∧ q < 81
  · rw [if_pos h]
    have := refFar_val hs (q := q.toNat) (by omega)
    rwa [show ((q.toNat : Nat) : Int) = q by omega] at this
  · rw [if_neg h]
    unfold ref03_Far
    by_cases h0 : q < 0
    · rw [b_lt h0]
    · rw [b_nlt h0, b_gt (by omega)]
theorem stepFarI {s : Int} (hs : s = -1 ∨ s = 0 ∨ s = 1) (q : Int) : step_Far s q = some (farI s q) := by
  unfold farI
  by_cases h : 0 ≤ q ∧ q < 81
  · rw [if_pos h]
    have := stepFar_val hs (q := q.toNat) (by omega)
    rwa [show ((q.toNat : Nat) : Int) = q by omega] at this
  · rw [if_neg h]
    unfold step_Far
    by_cases h0 : q < 0
    · rw [b_lt h0]
    · rw [b_nlt h0, b_ge (by omega)]
def deadI (x q : Int) : Bool := decide (((kd x = 1 ∨ kd x = 2) ∧ farI (sd x) q = 0) ∨ (kd x = 3 ∧ (farI (sd x) q = 0 ∨ farI (sd x) q = 1)))
theorem deadI_nat (x : Int) {q : Nat} (hq : q < 81) : deadI x q = deadS x q := by
  unfold deadI deadS farI
  rw [if_pos (by omega), tn]
theorem stepDeadI (x q : Int) : step_Dead x q = some (deadI x q) := by
  unfold step_Dead
  rw [side_val, ob_some, stepFarI (sd_cases x), ob_some, kind_val, ob_some]
  unfold deadI
  generalize kd x = k
  generalize farI (sd x) q = n
  simp only [br_if, beq_iff_eq]
  repeat' split
  all_goals first
    | (rw [Option.some.injEq, Bool.eq_iff_iff]; simp; omega)
    | (simp; omega)
theorem refDeadI (x q : Int) : ref03_Dead x q = some (deadI x q) := by
  unfold ref03_Dead
  rw [refSide_val, ob_some, refFarI (sd_cases x), ob_some, refKind_val, ob_some]
  unfold deadI
  generalize kd x = k
  generalize farI (sd x) q = n
  simp only [br_if, beq_iff_eq]
  repeat' split
  all_goals first
    | (rw [Option.some.injEq, Bool.eq_iff_iff]; simp; omega)
    | (simp; omega)

def zoneS (s : Int) (i : Nat) : Bool := decide (0 ≤ farS s i ∧ farS s i ≤ 2)
theorem zone_all : ∀ s : Fin 3, step_Zone ((s.val : Int) - 1) = some (sLo (zoneS ((s.val : Int) - 1)), sHi (zoneS ((s.val : Int) - 1))) := by decide +kernel
theorem zone_val (x : Int) : step_Zone (sd x) = some (sLo (zoneS (sd x)), sHi (zoneS (sd x))) := by
  rcases sd_cases x with h | h | h <;> rw [h]
  · exact zone_all 0
  · exact zone_all 1
  · exact zone_all 2
def inZ (s q : Int) : Bool := decide (0 ≤ farI s q ∧ farI s q ≤ 2)
theorem has_zone (s q : Int) : has (zoneS s) q = inZ s q := by
  unfold has inZ farI zoneS
  by_cases h : 0 ≤ q ∧ q < 81
  · rw [if_pos h, decide_eq_true h.1, decide_eq_true h.2, Bool.true_and, Bool.true_and]
  · rw [if_neg h]
    by_cases h0 : 0 ≤ q
    · rw [decide_eq_false (p := q < 81) (by omega)]; simp
    · rw [decide_eq_false h0]; simp
/-- May a piece be promoted; must it be? -/
def mayS (x f t : Int) : Bool := decide (up_ (kd x) ≠ 0) && (inZ (sd x) f || inZ (sd x) t)
def mustS (x t : Int) : Bool := decide (up_ (kd x) ≠ 0) && deadI x t
theorem promotes_val (x f t : Int) : gen_Promotes x f t = some (mayS x f t, mustS x t) := by
  unfold gen_Promotes mayS mustS
  rw [kind_val, ob_some, up_val, ob_some]
  by_cases hu : up_ (kd x) = 0
  · rw [b_eq hu, decide_eq_false (by simpa using hu)]; rfl
  · rw [b_neq hu, side_val, ob_some, zone_val, ob_some]
    simp only
    rw [has_val, ob_some, has_zone, decide_eq_true hu]
    cases inZ (sd x) f with
    | true => rw [b_t, stepDeadI, ob_some]; rfl
    | false => rw [b_f, has_val, ob_some, has_zone, stepDeadI, ob_some]; rfl
theorem refMay_val (x f t : Int) : ref10_May x f t = some (mayS x f t) := by
  unfold ref10_May mayS
  rw [refKind_val, ob_some, refUp_val, ob_some]
  by_cases hu : up_ (kd x) = 0
  · rw [b_eq hu, decide_eq_false (by simpa using hu)]; rfl
  · rw [b_neq hu, refSide_val, ob_some, refFarI (sd_cases x), ob_some, ob_some, refFarI (sd_cases x), ob_some, decide_eq_true hu, Bool.true_and]
    unfold inZ
    by_cases h1 : farI (sd x) f ≥ 0
    · rw [b_ge h1]
      by_cases h2 : farI (sd x) f ≤ 2
      · rw [b_le h2, decide_eq_true (p := 0 ≤ farI (sd x) f ∧ farI (sd x) f ≤ 2) (by omega)]; rfl
      · rw [b_nle h2, decide_eq_false (p := 0 ≤ farI (sd x) f ∧ farI (sd x) f ≤ 2) (by omega), Bool.false_or]
        by_cases h3 : farI (sd x) t ≥ 0
        · rw [b_ge h3]; congr 1; rw [decide_eq_decide]; omega
        · rw [b_nge h3, decide_eq_false (by omega)]
    · rw [b_nge h1, decide_eq_false (p := 0 ≤ farI (sd x) f ∧ farI (sd x) f ≤ 2) (by omega), Bool.false_or]
      by_cases h3 : farI (sd x) t ≥ 0
      · rw [b_ge h3]; congr 1; rw [decide_eq_decide]; omega
      · rw [b_nge h3, decide_eq_false (by omega)]
theorem refMust_val (x t : Int) : ref10_Must x t = some (mustS x t) := by
  unfold ref10_Must mustS
  rw [refKind_val, ob_some, refUp_val, ob_some]
  by_cases hu : up_ (kd x) = 0
  · rw [b_nne hu, decide_eq_false (by simpa using hu)]; rfl
  · rw [b_ne hu, refDeadI, ob_some, decide_eq_true hu]; rfl

theorem lists_true : law10_lists = some true := by kernel_rfl
theorem genPromotes_true (x f t : Int) : law10_GenPromotes x f t = some true := by
  unfold law10_GenPromotes
  rw [lists_true, ob_some]
  simp only [Bool.not_true, b_f]
  rw [promotes_val, ob_some]
  simp only
  rw [refMay_val, ob_some, br_true (by simp), refMust_val, ob_some]
  simp

/-! ### moves that can be made -/

def chkM (f t d : Int) (p : Bool) : Int := if ¬ (0 ≤ t ∧ t < 81) then 1 else if d ≠ 0 then (if 1 ≤ d ∧ d ≤ 7 ∧ f = 0 ∧ p = false then 0 else 70) else if ¬ (0 ≤ f ∧ f < 81) then 1 else if f = t then 70 else 0
theorem refMCheck_val (f t d : Int) (p : Bool) : ref07_Check f t d p = some (chkM f t d p) := by
  unfold ref07_Check chkM
  by_cases h1 : t < 0
  · rw [b_lt h1, if_pos (by omega)]
  rw [b_nlt h1]
  by_cases h2 : t > 80
  · rw [b_gt h2, if_pos (by omega)]
  rw [b_ngt h2, if_neg (by omega)]
  by_cases hd : d = 0
  · rw [b_nne hd, if_neg (by simpa using hd)]
    by_cases h3 : f < 0
    · rw [b_lt h3, if_pos (by omega)]
    rw [b_nlt h3]
    by_cases h4 : f > 80
    · rw [b_gt h4, if_pos (by omega)]
    rw [b_ngt h4, if_neg (by omega)]
    by_cases h5 : f = t
    · rw [b_eq h5, if_pos h5]
    · rw [b_neq h5, if_neg h5]
  · rw [b_ne hd, if_pos hd]
    by_cases h3 : d < 1
    · rw [b_lt h3, if_neg (by omega)]
    rw [b_nlt h3]
    by_cases h4 : d > 7
    · rw [b_gt h4, if_neg (by omega)]
    rw [b_ngt h4]
    by_cases h5 : f = 0
    · rw [b_nne h5]
      cases p with
      | true => rw [b_t, if_neg (by simp)]
      | false => rw [b_f, if_pos ⟨by omega, by omega, h5, rfl⟩]
    · rw [b_ne h5, if_neg (by omega)]

/-- Can a move be made at all? -/
def canS (b h : List Int) (s f t d : Int) (p : Bool) : Bool := decide (chkM f t d p = 0) && (decide (s = 0 ∨ s = 1) &&
  if d ≠ 0 then decide (0 < hd_ h s d) && decide (at_ b t = 0)
  else decide (sd (at_ b f) = s ∧ sd (at_ b t) ≠ s ∧ kd (at_ b t) ≠ 8) && (!p || decide (up_ (kd (at_ b f)) ≠ 0)))
theorem chkM_zero {f t d : Int} {p : Bool} (h : chkM f t d p = 0) : (0 ≤ t ∧ t < 81) ∧ (d ≠ 0 → 1 ≤ d ∧ d ≤ 7 ∧ f = 0 ∧ p = false) ∧ (d = 0 → (0 ≤ f ∧ f < 81) ∧ f ≠ t) := by
  unfold chkM at h
  split at h
  · omega
  · rename_i ht
    split at h
    · rename_i hd
      split at h
      · rename_i h2; exact ⟨by omega, fun _ => h2, fun h3 => absurd h3 hd⟩
      · omega
    · rename_i hd
      split at h
      · omega
      · split at h
        · omega
        · exact ⟨by omega, fun h3 => absurd h3 hd, fun _ => ⟨by omega, by omega⟩⟩
theorem at_in {b : List Int} {q : Int} (h : 0 ≤ q ∧ q < 81) : at_ b q = b.getD q.toNat 0 := by unfold at_; rw [if_pos h]

theorem refCan_val (b h : List Int) (s f t d : Int) (p : Bool) : ref09_Can b h s f t d p = some (canS b h s f t d p) := by
  unfold ref09_Can canS
  rw [refMCheck_val, ob_some]
  by_cases hm : chkM f t d p = 0
  · obtain ⟨ht, hdr, hmv⟩ := chkM_zero hm
    rw [b_nne hm, decide_eq_true hm, Bool.true_and]
    have main : (s = 0 ∨ s = 1) → (br (inB t 81)
      (br (d != 0)
       (br (inB s 2)
        (br (inB d 8)
         (br (decide (List.getD h (Int.toNat s * 8 + Int.toNat d) 0 > 0))
          (some (conv IntKind.i8 IntKind.i64 (List.getD b (Int.toNat t) 0) == 0))
          (some (false)))
         (none))
        (none))
       (br (inB f 81)
        (ob (ref02_Side (conv IntKind.i8 IntKind.i64 (List.getD b (Int.toNat f) 0))) fun a8 =>
        br (a8 != s)
         (some (false))
         (ob (ref02_Side (conv IntKind.i8 IntKind.i64 (List.getD b (Int.toNat t) 0))) fun a9 =>
         br (a9 == s)
          (some (false))
          (ob (ref02_Kind (conv IntKind.i8 IntKind.i64 (List.getD b (Int.toNat t) 0))) fun a10 =>
          br (a10 == 8)
           (some (false))
           (br (!p)
            (some (true))
            (ob (ref02_Kind (conv IntKind.i8 IntKind.i64 (List.getD b (Int.toNat f) 0))) fun a11 =>
            ob (ref02_Up a11) fun a12 =>
            some (a12 != 0))))))
        (none)))
      (none) : Option Bool) = some (if d ≠ 0 then decide (0 < hd_ h s d) && decide (at_ b t = 0)
        else decide (sd (at_ b f) = s ∧ sd (at_ b t) ≠ s ∧ kd (at_ b t) ≠ 8) && (!p || decide (up_ (kd (at_ b f)) ≠ 0))) := by
      intro hs
      rw [b_in ht.1 (by omega)]
      by_cases hd : d = 0
      · obtain ⟨hf, _⟩ := hmv hd
        rw [b_nne hd, if_neg (by simpa using hd), b_in hf.1 (by omega), c_8, c_8, refSide_val, ob_some, ← at_in hf, ← at_in ht]
        by_cases h1 : sd (at_ b f) = s
        · rw [b_nne h1, refSide_val, ob_some]
          by_cases h2 : sd (at_ b t) = s
          · rw [b_eq h2, decide_eq_false (by omega)]; rfl
          · rw [b_neq h2, refKind_val, ob_some]
            by_cases h3 : kd (at_ b t) = 8
            · rw [b_eq h3, decide_eq_false (by omega)]; rfl
            · rw [b_neq h3, decide_eq_true (by omega), Bool.true_and]
              cases p with
              | false => rfl
              | true =>
                rw [Bool.not_true, b_f, refKind_val, ob_some, refUp_val, ob_some, Bool.false_or]
                congr 1
                rw [Bool.eq_iff_iff]; simp
        · rw [b_ne h1, decide_eq_false (by omega)]; rfl
      · obtain ⟨d1, d7, _, _⟩ := hdr hd
        rw [b_ne hd, if_pos hd, b_in (by omega) (by omega), b_in (by omega) (by omega), c_8, ← at_in ht]
        show br (decide (hd_ h s d > 0)) _ _ = _
        by_cases h1 : hd_ h s d > 0
        · rw [b_gt h1, decide_eq_true (p := 0 < hd_ h s d) h1, Bool.true_and]
          congr 1
        · rw [b_ngt h1, decide_eq_false (p := 0 < hd_ h s d) h1, Bool.false_and]
    by_cases h0 : s = 0
    · rw [b_nne h0, decide_eq_true (p := s = 0 ∨ s = 1) (.inl h0), Bool.true_and]; exact main (.inl h0)
    · rw [b_ne h0]
      by_cases h1 : s = 1
      · rw [b_nne h1, decide_eq_true (p := s = 0 ∨ s = 1) (.inr h1), Bool.true_and]; exact main (.inr h1)
      · rw [b_ne h1, decide_eq_false (p := s = 0 ∨ s = 1) (by omega), Bool.false_and]
  · rw [b_ne hm, decide_eq_false hm, Bool.false_and]

/-- Can the piece make this move? -/
def movS (b h : List Int) (s f t d : Int) (p : Bool) : Bool := canS b h s f t d p &&
  if d ≠ 0 then !deadI (16 * s + d) t && (decide (d ≠ 1) || decide (nF b (16 * s + d) (t.toNat / 9) = 0))
  else rch (at_ b f) f.toNat t.toNat (tk b) && if p = true then mayS (at_ b f) f t else !mustS (at_ b f) t
theorem refMoves_val (b h : List Int) (s f t d : Int) (p : Bool) : ref10_Moves b h s f t d p = some (movS b h s f t d p) := by
  unfold ref10_Moves movS
  rw [refCan_val, ob_some]
  cases hcan : canS b h s f t d p with
  | false => rfl
  | true =>
    rw [Bool.not_true, b_f, Bool.true_and]
    unfold canS at hcan
    simp only [Bool.and_eq_true, decide_eq_true_eq] at hcan
    obtain ⟨hm, hs, _⟩ := hcan
    obtain ⟨ht, hdr, hmv⟩ := chkM_zero hm
    by_cases hd : d = 0
    · obtain ⟨hf, _⟩ := hmv hd
      rw [b_nne hd, if_neg (by simpa using hd), b_in hf.1 (by omega), c_8, taken_val, ob_some, ← at_in hf]
      have := reachT_val b (at_ b f) (a := f.toNat) (c := t.toNat) (by omega) (by omega)
      rw [show ((f.toNat : Nat) : Int) = f by omega, show ((t.toNat : Nat) : Int) = t by omega] at this
      rw [this, ob_some]
      cases rch (at_ b f) f.toNat t.toNat (tk b) with
      | false => rfl
      | true =>
        rw [Bool.not_true, b_f, Bool.true_and]
        cases p with
        | true => rw [b_t, refMay_val, ob_some, if_pos rfl]
        | false => rw [b_f, refMust_val, ob_some, if_neg (by simp)]
    · obtain ⟨d1, d7, _, _⟩ := hdr hd
      rw [b_ne hd, if_pos hd, w_s (n := 16 * s) (by omega) (by omega), w_s (n := 16 * s + d) (by omega) (by omega), refDeadI, ob_some]
      cases deadI (16 * s + d) t with
      | true => rfl
      | false =>
        rw [Bool.not_false, b_t, Bool.true_and]
        by_cases h1 : d = 1
        · have htd : Int.tdiv t 9 = ((t.toNat / 9 : Nat) : Int) := by rw [Int.tdiv_eq_ediv_of_nonneg ht.1]; omega
          rw [b_nne h1, htd, w_s (n := ((t.toNat / 9 : Nat) : Int)) (by omega) (by omega), on_val b h s (16 * s + d) (t.toNat / 9) (by omega), ob_some, decide_eq_false (p := d ≠ 1) (by simpa using h1), Bool.false_or]
          congr 1
          rw [Bool.eq_iff_iff]; simp
        · rw [b_ne h1, decide_eq_true (p := d ≠ 1) h1, Bool.true_or]

/-! ### where may be dropped -/

theorem all_set : set_All = some (sLo fun _ => true, sHi fun _ => true) := by decide +kernel
theorem not_val (f : Nat → Bool) : set_Not (sLo f) (sHi f) = some (sLo fun i => !f i, sHi fun i => !f i) := by
  unfold set_Not
  rw [all_set, ob_some]
  simp only
  rw [minus_val, ob_some]
  simp only [Bool.true_and]

/-- May a kind be dropped on a square? -/
def fre1 (b : List Int) (s k : Int) (i : Nat) : Bool := !deadS (pc s k) i && (decide (k ≠ 1) || decide (nF b (pc s 1) (i / 9) = 0))
theorem cnt_isE (f : Nat → Bool) : isE f = decide (cntS f = 0) := by
  unfold isE cntS
  rw [Bool.eq_iff_iff, decide_eq_true_eq, List.countP_eq_zero, List.all_eq_true]
  simp
theorem free_goes2 {b : List Int} (h : List Int) (S : Int) (sd' : List (List Int)) {s k : Int} (hs : s = 0 ∨ s = 1) (L : List Int) (hL : ∀ q ∈ L, 0 ≤ q ∧ q < 81) (hl : L.length ≤ 1000) (N : Nat) (u v : Int) : ∀ (n i : Nat), i + n = L.length → ∀ (f : Nat → Bool) (F : Nat),
    gen_Freel6 (F + n + 1) s k (pc s k) L.length L.length i b h S (byOf b) sd' u v (sLo f) (sHi f) N L = some (b, h, S, byOf b, sd', u, v, sLo fun c => f c || ((L.drop i).any fun q => decide ((c : Int) = q) && fre1 b s k c), sHi fun c => f c || ((L.drop i).any fun q => decide ((c : Int) = q) && fre1 b s k c)) := by
  intro n
  induction n with
  | zero =>
    intro i hi f F
    show gen_Freel6s (gen_Freel6 (F + 0)) _ _ _ _ _ _ _ _ _ _ _ _ _ _ _ _ _ = _
    unfold gen_Freel6s
    rw [b_nlt (by omega), List.drop_eq_nil_of_le (by omega)]
    simp
  | succ n ih =>
    intro i hi f F
    show gen_Freel6s (gen_Freel6 (F + n + 1)) _ _ _ _ _ _ _ _ _ _ _ _ _ _ _ _ _ = _
    unfold gen_Freel6s
    have hil : i < L.length := by omega
    obtain ⟨q0, q1⟩ := hL L[i] (List.getElem_mem hil)
    have hget : L.getD i 0 = L[i] := at_i hil
    obtain ⟨q, hq⟩ : ∃ q : Nat, L[i] = q := ⟨L[i].toNat, by omega⟩
    have hd : L.drop i = L[i] :: L.drop (i + 1) := List.drop_eq_getElem_cons hil
    rw [b_lt (by omega), b_in (by omega) (by omega), tn, hget, hq, stepDead_val _ (by omega), ob_some, w_s (n := (i : Int) + 1) (by omega) (by omega)]
    have skip : fre1 b s k q = false → gen_Freel6 (F + n + 1) s k (pc s k) L.length L.length ((i : Int) + 1) b h S (byOf b) sd' u v (sLo f) (sHi f) N L =
        some (b, h, S, byOf b, sd', u, v, sLo fun c => f c || ((L.drop i).any fun q => decide ((c : Int) = q) && fre1 b s k c), sHi fun c => f c || ((L.drop i).any fun q => decide ((c : Int) = q) && fre1 b s k c)) := by
      intro hf
      refine (ih (i + 1) (by omega) f F).trans ?_
      have : (fun c => f c || ((L.drop (i + 1)).any fun q => decide ((c : Int) = q) && fre1 b s k c)) = fun c => f c || ((L.drop i).any fun q => decide ((c : Int) = q) && fre1 b s k c) := by
        funext c
        rw [hd, List.any_cons, hq]
        by_cases hcq : (c : Int) = q
        · have : c = q := by omega
          subst this
          rw [hf]; simp
        · rw [decide_eq_false hcq]; simp
      rw [this]
    have take : fre1 b s k q = true → (ob (set_With (sLo f) (sHi f) q) fun z => gen_Freel6 (F + n + 1) s k (pc s k) L.length L.length ((i : Int) + 1) b h S (byOf b) sd' u v z.1 z.2 N L) =
        some (b, h, S, byOf b, sd', u, v, sLo fun c => f c || ((L.drop i).any fun q => decide ((c : Int) = q) && fre1 b s k c), sHi fun c => f c || ((L.drop i).any fun q => decide ((c : Int) = q) && fre1 b s k c)) := by
      intro hf
      rw [with_val, ob_some]
      simp only
      refine (ih (i + 1) (by omega) _ F).trans ?_
      have : (fun c => (f c || only q c) || ((L.drop (i + 1)).any fun q => decide ((c : Int) = q) && fre1 b s k c)) = fun c => f c || ((L.drop i).any fun q => decide ((c : Int) = q) && fre1 b s k c) := by
        funext c
        rw [hd, List.any_cons, hq, Bool.or_assoc]
        congr 2
        unfold only
        by_cases hcq : (c : Int) = q
        · have : c = q := by omega
          subst this
          rw [hf]; simp
        · rw [decide_eq_false hcq]; simp
      rw [this]
    cases hdead : deadS (pc s k) q with
    | true => rw [b_t]; exact skip (by unfold fre1; rw [hdead]; rfl)
    | false =>
      rw [b_f]
      by_cases hk : k = 1
      · rw [b_eq hk, ofB_val, ob_some]
        simp only
        unfold set_File
        rw [tdiv9, w_s (by unfold fl; omega) (by unfold fl; omega), ob_some, show fl q = ((q / 9 : Nat) : Int) from rfl, inFile_val (by omega), ob_some]
        simp only
        rw [and_val, ob_some]
        simp only
        rw [empty_val, ob_some, cnt_isE, cnt_file b (by rw [pc_ok hs (by omega) (by omega) (by omega)]; omega) (by omega)]
        by_cases hn : nF b (pc s 1) (q / 9) = 0
        · rw [decide_eq_true hn, Bool.not_true, b_f]
          exact take (by unfold fre1; rw [hdead, decide_eq_true hn]; simp)
        · rw [decide_eq_false hn, Bool.not_false, b_t]
          exact skip (by unfold fre1; rw [hdead, decide_eq_false hn, decide_eq_false (p := k ≠ 1) (by simpa using hk)]; rfl)
      · rw [b_neq hk]
        exact take (by unfold fre1; rw [hdead, decide_eq_true (p := k ≠ 1) hk]; rfl)

/-- Where a side may drop a kind. -/
def freS (b : List Int) (s k : Int) (i : Nat) : Bool := decide ((s = 0 ∨ s = 1) ∧ 1 ≤ k ∧ k ≤ 7) && (!tk b i && fre1 b s k i)
theorem freeB_val {b : List Int} (hc : Clean b) (h : List Int) (S s k : Int) : gen_Free s k b h S (byOf b) (sidesOf b) = some (sLo (freS b s k), sHi (freS b s k)) := by
  have none : ¬ ((s = 0 ∨ s = 1) ∧ 1 ≤ k ∧ k ≤ 7) → freS b s k = fun _ => false := by
    intro hn; funext c; unfold freS; rw [decide_eq_false hn, Bool.false_and]
  unfold gen_Free
  rw [of_gen, ob_some]
  by_cases hz : pc s k = 0
  · have : ¬ ((s = 0 ∨ s = 1) ∧ 1 ≤ k ∧ k ≤ 7) := by
      rintro ⟨hs, h1, h7⟩
      rw [pc_ok hs h1 (by omega) (by omega)] at hz
      omega
    rw [b_eq hz, none this, sLo_false, sHi_false]
  · rw [b_neq hz]
    have hv : (s = 0 ∨ s = 1) ∧ 1 ≤ k ∧ k ≤ 15 ∧ k ≠ 13 := by
      unfold pc at hz
      split at hz
      · rename_i h; exact h
      · exact absurd rfl hz
    by_cases h8 : k ≥ 8
    · rw [b_ge h8, none (by omega), sLo_false, sHi_false]
    · rw [b_nge h8, takenB_val hc, ob_some]
      simp only
      rw [not_val, ob_some]
      simp only
      rw [squares_val, ob_some]
      simp only
      have hlen := sq_len fun i => !tk b i
      obtain ⟨g, hg⟩ := many_eq (sq fun i => !tk b i).length (by omega)
      have := free_goes2 (b := b) h S (sidesOf b) (k := k) hv.1 (sq fun i => !tk b i) (fun q hq => ⟨(sq_mem hq).1, (sq_mem hq).2.1⟩) (by omega) (sq fun i => !tk b i).length 0 0 (sq fun i => !tk b i).length 0 (by omega) (fun _ => false) g
      rw [← hg, sLo_false, sHi_false] at this
      rw [show gen_Freel6 many s k (pc s k) (sq fun i => !tk b i).length (Int.ofNat (sq fun i => !tk b i).length) 0 b h S (byOf b) (sidesOf b) 0 0 0 0 (sq fun i => !tk b i).length (sq fun i => !tk b i) = _ from this, ob_some]
      simp only [Bool.false_or, List.drop_zero]
      obtain ⟨e1, e2⟩ := set_congr (f := fun c => (sq fun i => !tk b i).any fun q => decide ((c : Int) = q) && fre1 b s k c) (g := freS b s k) fun c hcc => by
        unfold freS
        rw [decide_eq_true (p := (s = 0 ∨ s = 1) ∧ 1 ≤ k ∧ k ≤ 7) ⟨hv.1, hv.2.1, by omega⟩, Bool.true_and, Bool.eq_iff_iff, List.any_eq_true, Bool.and_eq_true]
        constructor
        · rintro ⟨q, hq, hh⟩
          rw [Bool.and_eq_true, decide_eq_true_eq] at hh
          have := (sq_mem hq).2.2
          rw [← hh.1, tn] at this
          exact ⟨this, hh.2⟩
        · rintro ⟨h1, h2⟩
          exact ⟨c, mem_sq hcc h1, by rw [h2]; simp⟩
      rw [e1, e2]

end Go.Kk.Pl
