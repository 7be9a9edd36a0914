/-
  The ways on which pieces slide, plainly: the program's sets.
-/
import Derived.Test.YtaoifdkheaagpaaDoorKkRay
namespace Go.Kk.Pl

/-- A way's squares from one on, as many at most. -/
def rayL (dx dy : Int) : Nat → Int → List Nat
  | 0, _ => []
  | n + 1, p => if p < 0 then [] else p.toNat :: rayL dx dy n (fromS dx dy p.toNat)
/-- Up to the first one that is taken, and with it. -/
def upto (t : Nat → Bool) : List Nat → Nat → Bool
  | [], _ => false
  | s :: L, c => decide (c = s) || (!t s && upto t L c)
/-- Does a way end within so many steps? -/
def ends (dx dy : Int) : Nat → Int → Bool
  | 0, p => decide (p < 0)
  | n + 1, p => decide (p < 0) || ends dx dy n (fromS dx dy p.toNat)

theorem fromS_range (dx dy : Int) (a : Nat) : -1 ≤ fromS dx dy a ∧ fromS dx dy a < 81 := by unfold fromS; split <;> omega

theorem way_goes {dx dy : Int} (h1 : -8 ≤ dx) (h2 : dx ≤ 8) (h3 : -8 ≤ dy) (h4 : dy ≤ 8) (t : Nat → Bool) (u v : Int) : ∀ (n : Nat) (p : Int), -1 ≤ p → p < 81 → ends dx dy n p = true → ∀ (f : Nat → Bool) (F : Nat),
    ray_Wayl5 (F + n + 1) p dx dy (sLo t) (sHi t) u v (sLo f) (sHi f) = some (u, v, sLo fun c => f c || upto t (rayL dx dy n p) c, sHi fun c => f c || upto t (rayL dx dy n p) c) := by
  intro n
  induction n with
  | zero =>
    intro p hp0 hp1 he f F
    show ray_Wayl5s (ray_Wayl5 (F + 0)) _ _ _ _ _ _ _ _ _ = _
    unfold ray_Wayl5s
    simp only [ends, decide_eq_true_eq] at he
    rw [b_nge (by omega)]
    have : (fun c => f c || upto t (rayL dx dy 0 p) c) = f := by funext c; simp [rayL, upto]
    rw [this]
  | succ n ih =>
    intro p hp0 hp1 he f F
    show ray_Wayl5s (ray_Wayl5 (F + n + 1)) _ _ _ _ _ _ _ _ _ = _
    unfold ray_Wayl5s
    by_cases hp : p < 0
    · rw [b_nge (by omega)]
      have : (fun c => f c || upto t (rayL dx dy (n + 1) p) c) = f := by funext c; simp [rayL, upto, hp]
      rw [this]
    · obtain ⟨q, rfl⟩ : ∃ q : Nat, p = q := ⟨p.toNat, by omega⟩
      have hq : q < 81 := by omega
      rw [b_ge (by omega), with_val, ob_some]
      simp only
      rw [has_val, ob_some]
      have hhas : has t q = t q := by unfold has; simp; intro _; omega
      have hL : rayL dx dy (n + 1) q = q :: rayL dx dy n (fromS dx dy q) := by simp [rayL]
      rw [hhas, hL]
      cases ht : t q with
      | true =>
        rw [b_t]
        obtain ⟨e1, e2⟩ := set_congr (f := fun i => f i || only q i) (g := fun c => f c || upto t (q :: rayL dx dy n (fromS dx dy q)) c) fun c hc => by
          unfold upto only
          rw [ht]
          have : decide ((c : Int) = (q : Int)) = decide (c = q) := by rw [decide_eq_decide]; omega
          rw [this]; simp
        rw [e1, e2]
      | false =>
        rw [b_f, from_val h1 h2 h3 h4 hq, ob_some]
        obtain ⟨r1, r2⟩ := fromS_range dx dy q
        have he' : ends dx dy n (fromS dx dy q) = true := by
          simp only [ends, Bool.or_eq_true, decide_eq_true_eq] at he
          rcases he with he | he
          · omega
          · simpa using he
        refine (ih _ r1 r2 he' _ F).trans ?_
        obtain ⟨e1, e2⟩ := set_congr (f := fun c => (f c || only q c) || upto t (rayL dx dy n (fromS dx dy q)) c) (g := fun c => f c || upto t (q :: rayL dx dy n (fromS dx dy q)) c) fun c hc => by
          unfold only
          have : decide ((c : Int) = (q : Int)) = decide (c = q) := by rw [decide_eq_decide]; omega
          rw [this]
          show _ = (f c || (decide (c = q) || (!t q && upto t (rayL dx dy n (fromS dx dy q)) c)))
          rw [ht]
          simp [Bool.or_assoc]
        rw [e1, e2]

/-- The way from a square on, in one of eight directions. -/
def wayL (dx dy : Int) (a : Nat) : List Nat := rayL dx dy 9 (fromS dx dy a)
theorem ends_all : ∀ (d : Fin 9) (a : Fin 81), (d.val = 4 ∨ ends ((d.val / 3 : Nat) - 1) ((d.val % 3 : Nat) - 1) 9 (fromS ((d.val / 3 : Nat) - 1) ((d.val % 3 : Nat) - 1) a.val) = true) := by decide +kernel
theorem way_val {dx dy : Int} (h1 : -1 ≤ dx) (h2 : dx ≤ 1) (h3 : -1 ≤ dy) (h4 : dy ≤ 1) (hne : ¬ (dx = 0 ∧ dy = 0)) {a : Nat} (ha : a < 81) (t : Nat → Bool) :
    ray_Way a dx dy (sLo t) (sHi t) = some (sLo (upto t (wayL dx dy a)), sHi (upto t (wayL dx dy a))) := by
  unfold ray_Way
  rw [br_false (by rw [Bool.and_eq_false_iff]; simp; omega), from_val (by omega) (by omega) (by omega) (by omega) ha, ob_some]
  obtain ⟨r1, r2⟩ := fromS_range dx dy a
  have he : ends dx dy 9 (fromS dx dy a) = true := by
    have := ends_all ⟨((dx + 1) * 3 + (dy + 1)).toNat, by omega⟩ ⟨a, ha⟩
    simp only at this
    rw [show (((((dx + 1) * 3 + (dy + 1)).toNat / 3 : Nat) : Int) - 1) = dx by omega, show (((((dx + 1) * 3 + (dy + 1)).toNat % 3 : Nat) : Int) - 1) = dy by omega] at this
    exact this.resolve_left (by omega)
  obtain ⟨g, hg⟩ := many_eq 9 (by omega)
  have := way_goes (by omega) (by omega) (by omega) (by omega) t 0 0 9 _ r1 r2 he (fun _ => false) g
  rw [← hg, sLo_false, sHi_false] at this
  rw [this, ob_some]
  simp only [Bool.false_or]
  rfl

/-- What lies so, told of the way. -/
def chkA (a c : Nat) : Bool := decide (lineS a c = 0) || ((wayL (sgn (df a c)) (sgn (dr a c)) a).take (btw a c).length == btw a c && ((wayL (sgn (df a c)) (sgn (dr a c)) a)[(btw a c).length]? == some c && !(btw a c).contains c))
def chkB (a : Nat) (dx dy : Int) : Bool := (wayL dx dy a).all fun c => decide (c < 81) && (decide (lineS a c ≠ 0) && (decide (sgn (df a c) = dx) && decide (sgn (dr a c) = dy)))
theorem chkA_all : ∀ (a c : Fin 81), chkA a.val c.val = true := by decide +kernel
theorem chkB_all : ∀ (d : Fin 9) (a : Fin 81), (d.val = 4 ∨ chkB a.val ((d.val / 3 : Nat) - 1) ((d.val % 3 : Nat) - 1) = true) := by decide +kernel

theorem upto_split (t : Nat → Bool) {c : Nat} : ∀ (P Q : List Nat), c ∉ P → upto t (P ++ c :: Q) c = P.all fun s => !t s
  | [], Q, _ => by simp [upto]
  | s :: P, Q, h => by
    simp only [List.mem_cons, not_or] at h
    show (decide (c = s) || (!t s && upto t (P ++ c :: Q) c)) = _
    rw [upto_split t P Q h.2, List.all_cons, show decide (c = s) = false by simpa using h.1, Bool.false_or]
theorem upto_none (t : Nat → Bool) {c : Nat} : ∀ (P : List Nat), c ∉ P → upto t P c = false
  | [], _ => rfl
  | s :: P, h => by
    simp only [List.mem_cons, not_or] at h
    show (decide (c = s) || (!t s && upto t P c)) = _
    rw [upto_none t P h.2, show decide (c = s) = false by simpa using h.1]; simp

/-- Does a square lie on a way? -/
def onW (dx dy : Int) (a c : Nat) : Bool := decide (lineS a c ≠ 0 ∧ sgn (df a c) = dx ∧ sgn (dr a c) = dy)
theorem upto_val {dx dy : Int} (h1 : -1 ≤ dx) (h2 : dx ≤ 1) (h3 : -1 ≤ dy) (h4 : dy ≤ 1) (hne : ¬ (dx = 0 ∧ dy = 0)) {a c : Nat} (ha : a < 81) (hc : c < 81) (t : Nat → Bool) :
    upto t (wayL dx dy a) c = (onW dx dy a c && freeS a c t) := by
  unfold onW
  by_cases h : lineS a c ≠ 0 ∧ sgn (df a c) = dx ∧ sgn (dr a c) = dy
  · obtain ⟨hl, rfl, rfl⟩ := h
    have := chkA_all ⟨a, ha⟩ ⟨c, hc⟩
    simp only [chkA, Bool.or_eq_true, decide_eq_true_eq, Bool.and_eq_true, beq_iff_eq, Bool.not_eq_true'] at this
    obtain ⟨e1, e2, e3⟩ := this.resolve_left hl
    have hlt : (btw a c).length < (wayL (sgn (df a c)) (sgn (dr a c)) a).length := getElem?_lt e2
    have hsp : wayL (sgn (df a c)) (sgn (dr a c)) a = btw a c ++ c :: (wayL (sgn (df a c)) (sgn (dr a c)) a).drop ((btw a c).length + 1) := by
      have := split_at e2
      rw [e1] at this
      exact this
    rw [hsp, upto_split t _ _ (by simpa using e3)]
    simp [hl, freeS]
  · have hn : c ∉ wayL dx dy a := by
      intro hm
      have := chkB_all ⟨((dx + 1) * 3 + (dy + 1)).toNat, by omega⟩ ⟨a, ha⟩
      simp only at this
      rw [show (((((dx + 1) * 3 + (dy + 1)).toNat / 3 : Nat) : Int) - 1) = dx by omega, show (((((dx + 1) * 3 + (dy + 1)).toNat % 3 : Nat) : Int) - 1) = dy by omega] at this
      have := this.resolve_left (by omega)
      unfold chkB at this
      rw [List.all_eq_true] at this
      have := this c hm
      simp only [Bool.and_eq_true, decide_eq_true_eq] at this
      exact h ⟨this.2.1, this.2.2.1, this.2.2.2⟩
    rw [upto_none t _ hn]
    rw [decide_eq_false h, Bool.false_and]

/-! ### a piece's ways -/

def rdirL (k : Int) : List (List Int) := if k = 2 then [[0, -1]] else if k = 6 ∨ k = 14 then [[-1, -1], [1, -1], [-1, 1], [1, 1]] else if k = 7 ∨ k = 15 then [[0, -1], [-1, 0], [1, 0], [0, 1]] else []
theorem rdirs_val (k : Int) : ray_Dirs k = some ((rdirL k).length, (rdirL k).length, rdirL k) := by
  unfold ray_Dirs rdirL
  by_cases h2 : k = 2
  · rw [b_eq h2, if_pos h2]; rfl
  rw [b_neq h2, if_neg h2]
  by_cases h6 : k = 6
  · rw [b_eq h6, if_pos (.inl h6)]; rfl
  rw [b_neq h6]
  by_cases h14 : k = 14
  · rw [b_eq h14, if_pos (.inr h14)]; rfl
  rw [b_neq h14, if_neg (by omega)]
  by_cases h7 : k = 7
  · rw [b_eq h7, if_pos (.inl h7)]; rfl
  rw [b_neq h7]
  by_cases h15 : k = 15
  · rw [b_eq h15, if_pos (.inr h15)]; rfl
  rw [b_neq h15, if_neg (by omega)]; rfl
theorem rdirL_ok (k : Int) : (rdirL k).length ≤ 8 ∧ ∀ r ∈ rdirL k, r.length ≤ 2 ∧ -1 ≤ dx_ r ∧ dx_ r ≤ 1 ∧ -1 ≤ dy_ r ∧ dy_ r ≤ 1 ∧ ¬ (dx_ r = 0 ∧ dy_ r = 0) := by
  have h1 : ∀ r ∈ [[0, -1]], (r : List Int).length ≤ 2 ∧ -1 ≤ dx_ r ∧ dx_ r ≤ 1 ∧ -1 ≤ dy_ r ∧ dy_ r ≤ 1 ∧ ¬ (dx_ r = 0 ∧ dy_ r = 0) := by decide
  have h2 : ∀ r ∈ [[-1, -1], [1, -1], [-1, 1], [1, 1]], (r : List Int).length ≤ 2 ∧ -1 ≤ dx_ r ∧ dx_ r ≤ 1 ∧ -1 ≤ dy_ r ∧ dy_ r ≤ 1 ∧ ¬ (dx_ r = 0 ∧ dy_ r = 0) := by decide
  have h3 : ∀ r ∈ [[0, -1], [-1, 0], [1, 0], [0, 1]], (r : List Int).length ≤ 2 ∧ -1 ≤ dx_ r ∧ dx_ r ≤ 1 ∧ -1 ≤ dy_ r ∧ dy_ r ≤ 1 ∧ ¬ (dx_ r = 0 ∧ dy_ r = 0) := by decide
  unfold rdirL
  split
  · exact ⟨by decide, h1⟩
  · split
    · exact ⟨by decide, h2⟩
    · split
      · exact ⟨by decide, h3⟩
      · exact ⟨by decide, fun r hr => by cases hr⟩

def anyW (x : Int) (L : List (List Int)) (a c : Nat) : Bool := L.any fun r => onW (sg x * dx_ r) (sg x * dy_ r) a c
theorem rayOf_goes {x : Int} {a : Nat} (ha : a < 81) (t : Nat → Bool) (L : List (List Int)) (hlen : L.length ≤ 8) (hr : ∀ r ∈ L, r.length ≤ 2 ∧ -1 ≤ dx_ r ∧ dx_ r ≤ 1 ∧ -1 ≤ dy_ r ∧ dy_ r ≤ 1 ∧ ¬ (dx_ r = 0 ∧ dy_ r = 0)) (N : Nat) (u v : Int) :
    ∀ (n i : Nat), i + n = L.length → ∀ (f : Nat → Bool) (F : Nat), ray_Ofl3 (F + n + 1) x a L.length (Int.ofNat L.length) i (sLo t) (sHi t) u v (sLo f) (sHi f) N L =
      some (u, v, sLo fun c => f c || (anyW x (L.drop i) a c && freeS a c t), sHi fun c => f c || (anyW x (L.drop i) a c && freeS a c t)) := by
  intro n
  induction n with
  | zero =>
    intro i hi f F
    show ray_Ofl3s (ray_Ofl3 (F + 0)) _ _ _ _ _ _ _ _ _ _ _ _ _ = _
    unfold ray_Ofl3s
    rw [b_nlt (by simp; omega), List.drop_eq_nil_of_le (by omega)]
    have : (fun c => f c || (anyW x [] a c && freeS a c t)) = f := by funext c; simp [anyW]
    rw [this]
  | succ n ih =>
    intro i hi f F
    show ray_Ofl3s (ray_Ofl3 (F + n + 1)) _ _ _ _ _ _ _ _ _ _ _ _ _ = _
    unfold ray_Ofl3s
    have hil : i < L.length := by omega
    have hget : L.getD i [] = L[i] := by rw [List.getD_eq_getElem?_getD, List.getElem?_eq_getElem hil]; rfl
    obtain ⟨r0, r1, r2, r3, r4, r5⟩ := hr L[i] (List.getElem_mem hil)
    have ht : List.take 2 L[i] = L[i] := List.take_of_length_le r0
    have hs := sg_cases x
    have c1 : -1 ≤ sg x * dx_ L[i] ∧ sg x * dx_ L[i] ≤ 1 ∧ -1 ≤ sg x * dy_ L[i] ∧ sg x * dy_ L[i] ≤ 1 ∧ ¬ (sg x * dx_ L[i] = 0 ∧ sg x * dy_ L[i] = 0) := by
      rcases hs with h | h <;> rw [h] <;> omega
    rw [b_lt (by simp; omega), b_in (by omega) (by omega), tn, hget, ht, side_val, ob_some]
    show ob (step_Dir_Turn (dx_ L[i]) (dy_ L[i]) (sd x)) _ = _
    rw [turn_val (by omega), ob_some]
    simp only
    rw [way_val c1.1 c1.2.1 c1.2.2.1 c1.2.2.2.1 c1.2.2.2.2 ha, ob_some]
    simp only
    rw [or_val, ob_some]
    simp only
    rw [w_s (by omega) (by omega)]
    refine (ih (i + 1) (by omega) _ F).trans ?_
    have hd : L.drop i = L[i] :: L.drop (i + 1) := List.drop_eq_getElem_cons hil
    obtain ⟨e1, e2⟩ := set_congr (f := fun c => (f c || upto t (wayL (sg x * dx_ L[i]) (sg x * dy_ L[i]) a) c) || (anyW x (L.drop (i + 1)) a c && freeS a c t)) (g := fun c => f c || (anyW x (L.drop i) a c && freeS a c t)) fun c hc => by
      rw [upto_val c1.1 c1.2.1 c1.2.2.1 c1.2.2.2.1 c1.2.2.2.2 ha hc, hd]
      unfold anyW
      rw [List.any_cons, Bool.and_or_distrib_right, Bool.or_assoc]
    rw [e1, e2]

/-- Do two distances lie straight or aslant? -/
def lieS (d e : Int) : Prop := ¬ (d = 0 ∧ e = 0) ∧ (d = 0 ∨ e = 0 ∨ d = e ∨ d = -e)
instance (d e : Int) : Decidable (lieS d e) := by unfold lieS; infer_instance
theorem line_lie (a c : Nat) : lineS a c ≠ 0 ↔ lieS (df a c) (dr a c) := by
  unfold lieS lineS
  by_cases hac : a = c
  · subst hac
    have := geo_self a
    simp [this.1, this.2]
  · have : ¬ (df a c = 0 ∧ dr a c = 0) := fun h => hac (geo_eq h.1 h.2)
    rw [if_neg hac]
    split
    · rename_i h; constructor
      · intro _; exact ⟨this, by omega⟩
      · intro _; omega
    · split
      · constructor
        · intro _; exact ⟨this, by omega⟩
        · intro _; omega
      · constructor
        · intro h; omega
        · rintro ⟨_, h⟩; omega
theorem anyW_all : ∀ (k : Fin 16) (d e : Fin 17), (rdirL ((k.val : Nat) : Int)).any (fun r => decide (lieS ((d.val : Int) - 8) ((e.val : Int) - 8) ∧ sgn ((d.val : Int) - 8) = dx_ r ∧ sgn ((e.val : Int) - 8) = dy_ r)) = decide (slK ((k.val : Nat) : Int) ((d.val : Int) - 8) (-((e.val : Int) - 8))) := by decide +kernel
theorem anyW_sym : ∀ (k : Fin 16) (d e : Fin 17), (rdirL ((k.val : Nat) : Int)).any (fun r => decide (lieS ((d.val : Int) - 8) ((e.val : Int) - 8) ∧ sgn ((d.val : Int) - 8) = -(dx_ r) ∧ sgn ((e.val : Int) - 8) = -(dy_ r))) = decide (slK ((k.val : Nat) : Int) ((d.val : Int) - 8) ((e.val : Int) - 8)) := by decide +kernel
theorem anyW_val (x : Int) {a c : Nat} (ha : a < 81) (hc : c < 81) : anyW x (rdirL (kd x)) a c = slideB x a c := by
  obtain ⟨k0, k1, _⟩ := kd_bounds x
  have hr := upS_range (x := x) ha hc
  have hl := line_lie a c
  unfold slideB anyW onW sg upS
  by_cases hs : sd x = 1
  · simp only [hs, if_true]
    have := anyW_sym ⟨(kd x).toNat, by omega⟩ ⟨(df a c + 8).toNat, by omega⟩ ⟨(dr a c + 8).toNat, by omega⟩
    simp only [show (((kd x).toNat : Nat) : Int) = kd x by omega, show (((df a c + 8).toNat : Nat) : Int) - 8 = df a c by omega, show (((dr a c + 8).toNat : Nat) : Int) - 8 = dr a c by omega] at this
    rw [← this]
    congr 1
    funext r
    rw [decide_eq_decide, hl]
    constructor <;> (rintro ⟨h1, h2, h3⟩; refine ⟨h1, ?_, ?_⟩ <;> omega)
  · simp only [hs, if_false]
    have := anyW_all ⟨(kd x).toNat, by omega⟩ ⟨(df a c + 8).toNat, by omega⟩ ⟨(dr a c + 8).toNat, by omega⟩
    simp only [show (((kd x).toNat : Nat) : Int) = kd x by omega, show (((df a c + 8).toNat : Nat) : Int) - 8 = df a c by omega, show (((dr a c + 8).toNat : Nat) : Int) - 8 = dr a c by omega] at this
    rw [← this]
    congr 1
    funext r
    rw [decide_eq_decide, hl]
    constructor <;> (rintro ⟨h1, h2, h3⟩; refine ⟨h1, ?_, ?_⟩ <;> omega)

/-- The squares to which a piece goes. -/
theorem rayOf_val (x : Int) {a : Nat} (ha : a < 81) (t : Nat → Bool) : ray_Of x a (sLo t) (sHi t) = some (sLo (fun c => rch x a c t), sHi fun c => rch x a c t) := by
  obtain ⟨hlen, hrs⟩ := rdirL_ok (kd x)
  obtain ⟨g, hg⟩ := many_eq (rdirL (kd x)).length (by omega)
  have := rayOf_goes (x := x) ha t (rdirL (kd x)) hlen hrs (rdirL (kd x)).length 0 0 (rdirL (kd x)).length 0 (by omega) (stepB x a) g
  rw [← hg] at this
  unfold ray_Of
  rw [stepOf_val x ha, ob_some]
  simp only
  rw [kind_val, ob_some, rdirs_val, ob_some]
  simp only
  rw [show ray_Ofl3 many x a (rdirL (kd x)).length (Int.ofNat (rdirL (kd x)).length) 0 (sLo t) (sHi t) 0 0 (sLo (stepB x a)) (sHi (stepB x a)) (rdirL (kd x)).length (rdirL (kd x)) = _ from this, ob_some]
  simp only
  obtain ⟨e1, e2⟩ := set_congr (f := fun c => stepB x a c || (anyW x (List.drop 0 (rdirL (kd x))) a c && freeS a c t)) (g := fun c => rch x a c t) fun c hc => by
    rw [List.drop_zero, anyW_val x ha hc]
    rfl
  rw [e1, e2]

end Go.Kk.Pl
