/- What the program's functions come to, told plainly: the texts of this project that this claim leans on, cut down to what is used. -/
import Derived.Test.YtaoifdkheaagpaaDoorKkU1
namespace Go.Kk.Pl
def rayL (dx dy : Int) : Nat → Int → List Nat
  | 0, _ => []
  | n + 1, p => if p < 0 then [] else p.toNat :: rayL dx dy n (fromS dx dy p.toNat)
def upto (t : Nat → Bool) : List Nat → Nat → Bool
  | [], _ => false
  | s :: L, c => decide (c = s) || (!t s && upto t L c)
def ends (dx dy : Int) : Nat → Int → Bool
  | 0, p => decide (p < 0)
  | n + 1, p => decide (p < 0) || ends dx dy n (fromS dx dy p.toNat)
theorem fromS_range (dx dy : Int) (a : Nat) : -1 ≤ fromS dx dy a ∧ fromS dx dy a < 81 := by unfold fromS; split <;> omega
theorem way_goes {dx dy : Int} (h1 : -8 ≤ dx) (h2 : dx ≤ 8) (h3 : -8 ≤ dy) (h4 : dy ≤ 8) (t : Nat → Bool) (u v : Int) : ∀ (n : Nat) (p : Int), -1 ≤ p → p < 81 → ends dx dy n p = true → ∀ (f : Nat → Bool) (F : Nat),
    ray_Wayl5 (F + n + 1) p dx dy (sLo t) (sHi t) u v (sLo f) (sHi f) = some (u, v, sLo fun c => f c || upto t (rayL dx dy n p) c, sHi fun c => f c || upto t (rayL dx dy n p) c) := by
  intro n
  induction n with
  | zero =>
    intro p hp0 hp1 he f F
    show ray_Wayl5s (ray_Wayl5 (F + 0)) _ _ _ _ _ _ _ _ _ = _
    unfold ray_Wayl5s
    simp only [ends, decide_eq_true_eq] at he
    rw [b_nge (by omega)]
    have : (fun c => f c || upto t (rayL dx dy 0 p) c) = f := by funext c; simp [rayL, upto]
    rw [this]
  | succ n ih =>
    intro p hp0 hp1 he f F
    show ray_Wayl5s (ray_Wayl5 (F + n + 1)) _ _ _ _ _ _ _ _ _ = _
    unfold ray_Wayl5s
    by_cases hp : p < 0
    · rw [b_nge (by omega)]
      have : (fun c => f c || upto t (rayL dx dy (n + 1) p) c) = f := by funext c; simp [rayL, upto, hp]
      rw [this]
    · obtain ⟨q, rfl⟩ : ∃ q : Nat, p = q := ⟨p.toNat, by omega⟩
      have hq : q < 81 := by omega
      rw [b_ge (by omega), with_val, ob_some]
      simp only
      rw [has_val, ob_some]
      have hhas : has t q = t q := by unfold has; simp; intro _; omega
      have hL : rayL dx dy (n + 1) q = q :: rayL dx dy n (fromS dx dy q) := by simp [rayL]
      rw [hhas, hL]
      cases ht : t q with
      | true =>
        rw [b_t]
        obtain ⟨e1, e2⟩ := set_congr (f := fun i => f i || only q i) (g := fun c => f c || upto t (q :: rayL dx dy n (fromS dx dy q)) c) fun c hc => by
          unfold upto only
          rw [ht]
          have : decide ((c : Int) = (q : Int)) = decide (c = q) := by rw [decide_eq_decide]; omega
          rw [this]; simp
        rw [e1, e2]
      | false =>
        rw [b_f, from_val h1 h2 h3 h4 hq, ob_some]
        obtain ⟨r1, r2⟩ := fromS_range dx dy q
        have he' : ends dx dy n (fromS dx dy q) = true := by
          simp only [ends, Bool.or_eq_true, decide_eq_true_eq] at he
          rcases he with he | he
          · omega
          · simpa using he
        refine (ih _ r1 r2 he' _ F).trans ?_
        obtain ⟨e1, e2⟩ := set_congr (f := fun c => (f c || only q c) || upto t (rayL dx dy n (fromS dx dy q)) c) (g := fun c => f c || upto t (q :: rayL dx dy n (fromS dx dy q)) c) fun c hc => by
          unfold only
          have : decide ((c : Int) = (q : Int)) = decide (c = q) := by rw [decide_eq_decide]; omega
          rw [this]
          show _ = (f c || (decide (c = q) || (!t q && upto t (rayL dx dy n (fromS dx dy q)) c)))
          rw [ht]
          simp [Bool.or_assoc]
        rw [e1, e2]
def wayL (dx dy : Int) (a : Nat) : List Nat := rayL dx dy 9 (fromS dx dy a)
theorem ends_all : ∀ (d : Fin 9) (a : Fin 81), (d.val = 4 ∨ ends ((d.val / 3 : Nat) - 1) ((d.val % 3 : Nat) - 1) 9 (fromS ((d.val / 3 : Nat) - 1) ((d.val % 3 : Nat) - 1) a.val) = true) := by decide +kernel
theorem way_val {dx dy : Int} (h1 : -1 ≤ dx) (h2 : dx ≤ 1) (h3 : -1 ≤ dy) (h4 : dy ≤ 1) (hne : ¬ (dx = 0 ∧ dy = 0)) {a : Nat} (ha : a < 81) (t : Nat → Bool) :
    ray_Way a dx dy (sLo t) (sHi t) = some (sLo (upto t (wayL dx dy a)), sHi (upto t (wayL dx dy a))) := by
  unfold ray_Way
  rw [br_false (by rw [Bool.and_eq_false_iff]; simp; omega), from_val (by omega) (by omega) (by omega) (by omega) ha, ob_some]
  obtain ⟨r1, r2⟩ := fromS_range dx dy a
  have he : ends dx dy 9 (fromS dx dy a) = true := by
    have := ends_all ⟨((dx + 1) * 3 + (dy + 1)).toNat, by omega⟩ ⟨a, ha⟩
    simp only at this
    rw [show (((((dx + 1) * 3 + (dy + 1)).toNat / 3 : Nat) : Int) - 1) = dx by omega, show (((((dx + 1) * 3 + (dy + 1)).toNat % 3 : Nat) : Int) - 1) = dy by omega] at this
    exact this.resolve_left (by omega)
  obtain ⟨g, hg⟩ := many_eq 9 (by omega)
  have := way_goes (by omega) (by omega) (by omega) (by omega) t 0 0 9 _ r1 r2 he (fun _ => false) g
  rw [← hg, sLo_false, sHi_false] at this
  rw [this, ob_some]
  simp only [Bool.false_or]
  rfl
def chkA (a c : Nat) : Bool := decide (lineS a c = 0) || ((wayL (sgn (df a c)) (sgn (dr a c)) a).take (btw a c).length == btw a c && ((wayL (sgn (df a c)) (sgn (dr a c)) a)[(btw a c).length]? == some c && !(btw a c).contains c))
def chkB (a : Nat) (dx dy : Int) : Bool := (wayL dx dy a).all fun c => decide (c < 81) && (decide (lineS a c ≠ 0) && (decide (sgn (df a c) = dx) && decide (sgn (dr a c) = dy)))
theorem chkA_all : ∀ (a c : Fin 81), chkA a.val c.val = true := by decide +kernel
theorem chkB_all : ∀ (d : Fin 9) (a : Fin 81), (d.val = 4 ∨ chkB a.val ((d.val / 3 : Nat) - 1) ((d.val % 3 : Nat) - 1) = true) := by decide +kernel
theorem upto_split (t : Nat → Bool) {c : Nat} : ∀ (P Q : List Nat), c ∉ P → upto t (P ++ c :: Q) c = P.all fun s => !t s
  | [], Q, _ => by simp [upto]
  | s :: P, Q, h => by
    simp only [List.mem_cons, not_or] at h
    show (decide (c = s) || (!t s && upto t (P ++ c :: Q) c)) = _
    rw [upto_split t P Q h.2, List.all_cons, show decide (c = s) = false by simpa using h.1, Bool.false_or]
theorem upto_none (t : Nat → Bool) {c : Nat} : ∀ (P : List Nat), c ∉ P → upto t P c = false
  | [], _ => rfl
  | s :: P, h => by
    simp only [List.mem_cons, not_or] at h
    show (decide (c = s) || (!t s && upto t P c)) = _
    rw [upto_none t P h.2, show decide (c = s) = false by simpa using h.1]; simp
def onW (dx dy : Int) (a c : Nat) : Bool := decide (lineS a c ≠ 0 ∧ sgn (df a c) = dx ∧ sgn (dr a c) = dy)
theorem upto_val {dx dy : Int} (h1 : -1 ≤ dx) (h2 : dx ≤ 1) (h3 : -1 ≤ dy) (h4 : dy ≤ 1) (hne : ¬ (dx = 0 ∧ dy = 0)) {a c : Nat} (ha : a < 81) (hc : c < 81) (t : Nat → Bool) :
    upto t (wayL dx dy a) c = (onW dx dy a c && freeS a c t) := by
  unfold onW
  by_cases h : lineS a c ≠ 0 ∧ sgn (df a c) = dx ∧ sgn (dr a c) = dy
  · obtain ⟨hl, rfl, rfl⟩ := h
    have := chkA_all ⟨a, ha⟩ ⟨c, hc⟩
    simp only [chkA, Bool.or_eq_true, decide_eq_true_eq, Bool.and_eq_true, beq_iff_eq, Bool.not_eq_true'] at this
    obtain ⟨e1, e2, e3⟩ := this.resolve_left hl
    have hlt : (btw a c).length < (wayL (sgn (df a c)) (sgn (dr a c)) a).length := getElem?_lt e2
    have hsp : wayL (sgn (df a c)) (sgn (dr a c)) a = btw a c ++ c :: (wayL (sgn (df a c)) (sgn (dr a c)) a).drop ((btw a c).length + 1) := by
      have := split_at e2
      rw [e1] at this
      exact this
    rw [hsp, upto_split t _ _ (by simpa using e3)]
    simp [hl, freeS]
  · have hn : c ∉ wayL dx dy a := by
      intro hm
      have := chkB_all ⟨((dx + 1) * 3 + (dy + 1)).toNat, by omega⟩ ⟨a, ha⟩
      simp only at this
      rw [show (((((dx + 1) * 3 + (dy + 1)).toNat / 3 : Nat) : Int) - 1) = dx by omega, show (((((dx + 1) * 3 + (dy + 1)).toNat % 3 : Nat) : Int) - 1) = dy by omega] at this
      have := this.resolve_left (by omega)
      unfold chkB at this
      rw [List.all_eq_true] at this
      have := this c hm
      simp only [Bool.and_eq_true, decide_eq_true_eq] at this
      exact h ⟨this.2.1, this.2.2.1, this.2.2.2⟩
    rw [upto_none t _ hn]
    rw [decide_eq_false h, Bool.false_and]
def rdirL (k : Int) : List (List Int) := if k = 2 then [[0, -1]] else if k = 6 ∨ k = 14 then [[-1, -1], [1, -1], [-1, 1], [1, 1]] else if k = 7 ∨ k = 15 then [[0, -1], [-1, 0], [1, 0], [0, 1]] else []
theorem rdirs_val (k : Int) : ray_Dirs k = some ((rdirL k).length, (rdirL k).length, rdirL k) := by
  unfold ray_Dirs rdirL
  by_cases h2 : k = 2
  · rw [b_eq h2, if_pos h2]; rfl
  rw [b_neq h2, if_neg h2]
  by_cases h6 : k = 6
  · rw [b_eq h6, if_pos (.inl h6)]; rfl
  rw [b_neq h6]
  by_cases h14 : k = 14
  · rw [b_eq h14, if_pos (.inr h14)]; rfl
  rw [b_neq h14, if_neg (by omega)]
  by_cases h7 : k = 7
  · rw [b_eq h7, if_pos (.inl h7)]; rfl
  rw [b_neq h7]
  by_cases h15 : k = 15
  · rw [b_eq h15, if_pos (.inr h15)]; rfl
  rw [b_neq h15, if_neg (by omega)]; rfl
theorem rdirL_ok (k : Int) : (rdirL k).length ≤ 8 ∧ ∀ r ∈ rdirL k, r.length ≤ 2 ∧ -1 ≤ dx_ r ∧ dx_ r ≤ 1 ∧ -1 ≤ dy_ r ∧ dy_ r ≤ 1 ∧ ¬ (dx_ r = 0 ∧ dy_ r = 0) := by
  have h1 : ∀ r ∈ [[0, -1]], (r : List Int).length ≤ 2 ∧ -1 ≤ dx_ r ∧ dx_ r ≤ 1 ∧ -1 ≤ dy_ r ∧ dy_ r ≤ 1 ∧ ¬ (dx_ r = 0 ∧ dy_ r = 0) := by decide
  have h2 : ∀ r ∈ [[-1, -1], [1, -1], [-1, 1], [1, 1]], (r : List Int).length ≤ 2 ∧ -1 ≤ dx_ r ∧ dx_ r ≤ 1 ∧ -1 ≤ dy_ r ∧ dy_ r ≤ 1 ∧ ¬ (dx_ r = 0 ∧ dy_ r = 0) := by decide
  have h3 : ∀ r ∈ [[0, -1], [-1, 0], [1, 0], [0, 1]], (r : List Int).length ≤ 2 ∧ -1 ≤ dx_ r ∧ dx_ r ≤ 1 ∧ -1 ≤ dy_ r ∧ dy_ r ≤ 1 ∧ ¬ (dx_ r = 0 ∧ dy_ r = 0) := by decide
  unfold rdirL
  split
  · exact ⟨by decide, h1⟩
  · split
    · exact ⟨by decide, h2⟩
    · split
      · exact ⟨by decide, h3⟩
      · exact ⟨by decide, fun r hr => by cases hr⟩
def anyW (x : Int) (L : List (List Int)) (a c : Nat) : Bool := L.any fun r => onW (sg x * dx_ r) (sg x * dy_ r) a c
theorem rayOf_goes {x : Int} {a : Nat} (ha : a < 81) (t : Nat → Bool) (L : List (List Int)) (hlen : L.length ≤ 8) (hr : ∀ r ∈ L, r.length ≤ 2 ∧ -1 ≤ dx_ r ∧ dx_ r ≤ 1 ∧ -1 ≤ dy_ r ∧ dy_ r ≤ 1 ∧ ¬ (dx_ r = 0 ∧ dy_ r = 0)) (N : Nat) (u v : Int) :
    ∀ (n i : Nat), i + n = L.length → ∀ (f : Nat → Bool) (F : Nat), ray_Ofl3 (F + n + 1) x a L.length (Int.ofNat L.length) i (sLo t) (sHi t) u v (sLo f) (sHi f) N L =
      some (u, v, sLo fun c => f c || (anyW x (L.drop i) a c && freeS a c t), sHi fun c => f c || (anyW x (L.drop i) a c && freeS a c t)) := by
  intro n
  induction n with
  | zero =>
    intro i hi f F
    show ray_Ofl3s (ray_Ofl3 (F + 0)) _ _ _ _ _ _ _ _ _ _ _ _ _ = _
    unfold ray_Ofl3s
    rw [b_nlt (by simp; omega), List.drop_eq_nil_of_le (by omega)]
    have : (fun c => f c || (anyW x [] a c && freeS a c t)) = f := by funext c; simp [anyW]
    rw [this]
  | succ n ih =>
    intro i hi f F
    show ray_Ofl3s (ray_Ofl3 (F + n + 1)) _ _ _ _ _ _ _ _ _ _ _ _ _ = _
    unfold ray_Ofl3s
    have hil : i < L.length := by omega
    have hget : L.getD i [] = L[i] := by rw [List.getD_eq_getElem?_getD, List.getElem?_eq_getElem hil]; rfl
    obtain ⟨r0, r1, r2, r3, r4, r5⟩ := hr L[i] (List.getElem_mem hil)
    have ht : List.take 2 L[i] = L[i] := List.take_of_length_le r0
    have hs := sg_cases x
    have c1 : -1 ≤ sg x * dx_ L[i] ∧ sg x * dx_ L[i] ≤ 1 ∧ -1 ≤ sg x * dy_ L[i] ∧ sg x * dy_ L[i] ≤ 1 ∧ ¬ (sg x * dx_ L[i] = 0 ∧ sg x * dy_ L[i] = 0) := by
      rcases hs with h | h <;> rw [h] <;> omega
    rw [b_lt (by simp; omega), b_in (by omega) (by omega), tn, hget, ht, side_val, ob_some]
    show ob (step_Dir_Turn (dx_ L[i]) (dy_ L[i]) (sd x)) _ = _
    rw [turn_val (by omega), ob_some]
    simp only
    rw [way_val c1.1 c1.2.1 c1.2.2.1 c1.2.2.2.1 c1.2.2.2.2 ha, ob_some]
    simp only
    rw [or_val, ob_some]
    simp only
    rw [w_s (by omega) (by omega)]
    refine (ih (i + 1) (by omega) _ F).trans ?_
    have hd : L.drop i = L[i] :: L.drop (i + 1) := List.drop_eq_getElem_cons hil
    obtain ⟨e1, e2⟩ := set_congr (f := fun c => (f c || upto t (wayL (sg x * dx_ L[i]) (sg x * dy_ L[i]) a) c) || (anyW x (L.drop (i + 1)) a c && freeS a c t)) (g := fun c => f c || (anyW x (L.drop i) a c && freeS a c t)) fun c hc => by
      rw [upto_val c1.1 c1.2.1 c1.2.2.1 c1.2.2.2.1 c1.2.2.2.2 ha hc, hd]
      unfold anyW
      rw [List.any_cons, Bool.and_or_distrib_right, Bool.or_assoc]
    rw [e1, e2]
def lieS (d e : Int) : Prop := ¬ (d = 0 ∧ e = 0) ∧ (d = 0 ∨ e = 0 ∨ d = e ∨ d = -e)
instance (d e : Int) : Decidable (lieS d e) := by unfold lieS; infer_instance
theorem line_lie (a c : Nat) : lineS a c ≠ 0 ↔ lieS (df a c) (dr a c) := by
  unfold lieS lineS
  by_cases hac : a = c
  · subst hac
    have := geo_self a
    simp [this.1, this.2]
  · have : ¬ (df a c = 0 ∧ dr a c = 0) := fun h => hac (geo_eq h.1 h.2)
    rw [if_neg hac]
    split
    · rename_i h; constructor
      · intro _; exact ⟨this, by omega⟩
      · intro _; omega
    · split
      · constructor
        · intro _; exact ⟨this, by omega⟩
        · intro _; omega
      · constructor
        · intro h; omega
        · rintro ⟨_, h⟩; omega
theorem anyW_all : ∀ (k : Fin 16) (d e : Fin 17), (rdirL ((k.val : Nat) : Int)).any (fun r => decide (lieS ((d.val : Int) - 8) ((e.val : Int) - 8) ∧ sgn ((d.val : Int) - 8) = dx_ r ∧ sgn ((e.val : Int) - 8) = dy_ r)) = decide (slK ((k.val : Nat) : Int) ((d.val : Int) - 8) (-((e.val : Int) - 8))) := by decide +kernel
theorem anyW_sym : ∀ (k : Fin 16) (d e : Fin 17), (rdirL ((k.val : Nat) : Int)).any (fun r => decide (lieS ((d.val : Int) - 8) ((e.val : Int) - 8) ∧ sgn ((d.val : Int) - 8) = -(dx_ r) ∧ sgn ((e.val : Int) - 8) = -(dy_ r))) = decide (slK ((k.val : Nat) : Int) ((d.val : Int) - 8) ((e.val : Int) - 8)) := by decide +kernel
theorem anyW_val (x : Int) {a c : Nat} (ha : a < 81) (hc : c < 81) : anyW x (rdirL (kd x)) a c = slideB x a c := by
  obtain ⟨k0, k1, _⟩ := kd_bounds x
  have hr := upS_range (x := x) ha hc
  have hl := line_lie a c
  unfold slideB anyW onW sg upS
  by_cases hs : sd x = 1
  · simp only [hs, if_true]
    have := anyW_sym ⟨(kd x).toNat, by omega⟩ ⟨(df a c + 8).toNat, by omega⟩ ⟨(dr a c + 8).toNat, by omega⟩
    simp only [show (((kd x).toNat : Nat) : Int) = kd x by omega, show (((df a c + 8).toNat : Nat) : Int) - 8 = df a c by omega, show (((dr a c + 8).toNat : Nat) : Int) - 8 = dr a c by omega] at this
    rw [← this]
    congr 1
    funext r
    rw [decide_eq_decide, hl]
    constructor <;> (rintro ⟨h1, h2, h3⟩; refine ⟨h1, ?_, ?_⟩ <;> omega)
  · simp only [hs, if_false]
    have := anyW_all ⟨(kd x).toNat, by omega⟩ ⟨(df a c + 8).toNat, by omega⟩ ⟨(dr a c + 8).toNat, by omega⟩
    simp only [show (((kd x).toNat : Nat) : Int) = kd x by omega, show (((df a c + 8).toNat : Nat) : Int) - 8 = df a c by omega, show (((dr a c + 8).toNat : Nat) : Int) - 8 = dr a c by omega] at this
    rw [← this]
    congr 1
    funext r
    rw [decide_eq_decide, hl]
    constructor <;> (rintro ⟨h1, h2, h3⟩; refine ⟨h1, ?_, ?_⟩ <;> omega)
theorem rayOf_val (x : Int) {a : Nat} (ha : a < 81) (t : Nat → Bool) : ray_Of x a (sLo t) (sHi t) = some (sLo (fun c => rch x a c t), sHi fun c => rch x a c t) := by
  obtain ⟨hlen, hrs⟩ := rdirL_ok (kd x)
  obtain ⟨g, hg⟩ := many_eq (rdirL (kd x)).length (by omega)
  have := rayOf_goes (x := x) ha t (rdirL (kd x)) hlen hrs (rdirL (kd x)).length 0 0 (rdirL (kd x)).length 0 (by omega) (stepB x a) g
  rw [← hg] at this
  unfold ray_Of
  rw [stepOf_val x ha, ob_some]
  simp only
  rw [kind_val, ob_some, rdirs_val, ob_some]
  simp only
  rw [show ray_Ofl3 many x a (rdirL (kd x)).length (Int.ofNat (rdirL (kd x)).length) 0 (sLo t) (sHi t) 0 0 (sLo (stepB x a)) (sHi (stepB x a)) (rdirL (kd x)).length (rdirL (kd x)) = _ from this, ob_some]
  simp only
  obtain ⟨e1, e2⟩ := set_congr (f := fun c => stepB x a c || (anyW x (List.drop 0 (rdirL (kd x))) a c && freeS a c t)) (g := fun c => rch x a c t) fun c hc => by
    rw [List.drop_zero, anyW_val x ha hc]
    rfl
  rw [e1, e2]
end Go.Kk.Pl
namespace Go.Kk.Pl
theorem back_all : ∀ (a c : Fin 81), (btw a.val c.val).all (fun s => (btw c.val a.val).contains s) = true := by decide +kernel
theorem btw_back {a c : Nat} (ha : a < 81) (hc : c < 81) {s : Nat} (hs : s ∈ btw a c) : s ∈ btw c a := by
  have := back_all ⟨a, ha⟩ ⟨c, hc⟩
  rw [List.all_eq_true] at this
  simpa using this s hs
theorem free_iff {a c : Nat} {t : Nat → Bool} : freeS a c t = true ↔ ∀ s ∈ btw a c, t s = false := by simp [freeS]
theorem free_back {a c : Nat} (ha : a < 81) (hc : c < 81) (t : Nat → Bool) : freeS a c t = freeS c a t := by
  rw [Bool.eq_iff_iff, free_iff, free_iff]
  exact ⟨fun h s hs => h s (btw_back hc ha hs), fun h s hs => h s (btw_back ha hc hs)⟩
theorem free_congr {a c : Nat} (ha : a < 81) (hc : c < 81) {t t' : Nat → Bool} (h : ∀ s, s < 81 → t s = t' s) : freeS a c t = freeS a c t' := by
  rw [Bool.eq_iff_iff, free_iff, free_iff]
  exact ⟨fun hh s hs => by rw [← h s (btw_mem ha hc hs)]; exact hh s hs, fun hh s hs => by rw [h s (btw_mem ha hc hs)]; exact hh s hs⟩
theorem rch_congr {x : Int} {a c : Nat} (ha : a < 81) (hc : c < 81) {t t' : Nat → Bool} (h : ∀ s, s < 81 → t s = t' s) : rch x a c t = rch x a c t' := by
  unfold rch; rw [free_congr ha hc h]
theorem sd_pc {s k : Int} (hs : s = 0 ∨ s = 1) (h1 : 1 ≤ k) (h2 : k ≤ 15) (h3 : k ≠ 13) : sd (pc s k) = s ∧ kd (pc s k) = k := by
  rw [pc_ok hs h1 h2 h3]
  have hk := kd_of hs h1 h2 h3
  refine ⟨?_, hk⟩
  unfold sd
  rw [hk, if_neg (by omega)]
  rcases hs with rfl | rfl
  · rw [if_pos (by omega)]
  · rw [if_neg (by omega)]
theorem stpK_neg (k d u : Int) : stpK k (-d) u ↔ stpK k d u := by
  unfold stpK
  exact or_congr (by omega) (or_congr (by omega) (or_congr (by omega) (or_congr (by omega) (or_congr (by omega) (or_congr (by omega) (by omega))))))
theorem slK_neg (k d u : Int) : slK k (-d) u ↔ slK k d u := by
  unfold slK
  exact or_congr (by omega) (or_congr (by omega) (by omega))
theorem rch_turn {s k : Int} (hs : s = 0 ∨ s = 1) (h1 : 1 ≤ k) (h2 : k ≤ 15) (h3 : k ≠ 13) {a c : Nat} (ha : a < 81) (hc : c < 81) (t : Nat → Bool) :
    rch (pc (1 - s) k) a c t = rch (pc s k) c a t := by
  obtain ⟨e1, e2⟩ := sd_pc hs h1 h2 h3
  obtain ⟨e3, e4⟩ := sd_pc (s := 1 - s) (by omega) h1 h2 h3
  have hd : df a c = -df c a := by unfold df; omega
  have hr : dr a c = -dr c a := by unfold dr; omega
  have hu : upS (pc (1 - s) k) a c = upS (pc s k) c a := by
    unfold upS
    rw [e1, e3]
    rcases hs with rfl | rfl
    · rw [if_pos (by omega), if_neg (by omega)]; exact hr
    · rw [if_neg (by omega), if_pos (by omega), hr]; omega
  unfold rch stepB slideB
  rw [e2, e4, hu, free_back ha hc]
  have s1 : decide (stpK k (df a c) (upS (pc s k) c a)) = decide (stpK k (df c a) (upS (pc s k) c a)) := by
    rw [decide_eq_decide, hd]; exact stpK_neg _ _ _
  have s2 : decide (slK k (df a c) (upS (pc s k) c a)) = decide (slK k (df c a) (upS (pc s k) c a)) := by
    rw [decide_eq_decide, hd]; exact slK_neg _ _ _
  rw [s1, s2]
theorem pc_of {x : Int} (h : kd x ≠ 0) : x = pc (sd x) (kd x) := by
  obtain ⟨k0, k1, k2⟩ := kd_bounds x
  have hs := sd_range h
  rw [pc_ok hs (by omega) k1 k2]
  have hr := kd_range h
  unfold sd kd at *
  rw [if_neg h]
  split at h
  · omega
  · rename_i hh
    rw [if_neg hh]
    split <;> omega
def onF (b : List Int) (q : Nat) (s : Int) (t : Nat → Bool) (i : Int) (c : Nat) : Bool := decide (sd (b.getD c 0) = s ∧ i ≤ kd (b.getD c 0)) && rch (b.getD c 0) c q t
theorem att_goes {b : List Int} (h : List Int) (S : Int) (sd' : List (List Int)) {s : Int} (hs : s = 0 ∨ s = 1) {q : Nat} (hq : q < 81) (t : Nat → Bool) (u v : Int) : ∀ (n : Nat) (k : Int), k = 16 - n → n ≤ 15 → ∀ (f : Nat → Bool) (F : Nat),
    attack_Onl5 (F + n + 1) q s k b h S (byOf b) sd' (sLo t) (sHi t) u v (sLo f) (sHi f) = some (b, h, S, byOf b, sd', u, v, sLo fun c => f c || onF b q s t k c, sHi fun c => f c || onF b q s t k c) := by
  intro n
  induction n with
  | zero =>
    intro k hk _ f F
    show attack_Onl5s (attack_Onl5 (F + 0)) _ _ _ _ _ _ _ _ _ _ _ _ _ _ = _
    unfold attack_Onl5s
    rw [b_nle (by omega)]
    have : (fun c => f c || onF b q s t k c) = f := by
      funext c
      have := (kd_bounds (b.getD c 0)).2.1
      unfold onF
      rw [decide_eq_false (by omega)]
      simp
    rw [this]
  | succ n ih =>
    intro k hk hn f F
    show attack_Onl5s (attack_Onl5 (F + n + 1)) _ _ _ _ _ _ _ _ _ _ _ _ _ _ = _
    unfold attack_Onl5s
    rw [b_le (by omega), w_s (n := 1 - s) (by omega) (by omega), of_gen, ob_some, w_s (n := k + 1) (by omega) (by omega)]
    by_cases h13 : k = 13
    · have hz : pc (1 - s) k = 0 := pc_none (by omega)
      rw [b_eq hz]
      refine (ih (k + 1) (by omega) (by omega) f F).trans ?_
      have : (fun c => f c || onF b q s t (k + 1) c) = fun c => f c || onF b q s t k c := by
        funext c
        have := (kd_bounds (b.getD c 0)).2.2
        unfold onF
        congr 2
        rw [decide_eq_decide]
        omega
      rw [this]
    · have hp := pc_ok (s := 1 - s) (k := k) (by omega) (by omega) (by omega) h13
      rw [b_neq (by rw [hp]; omega), rayOf_val _ hq, ob_some]
      simp only
      rw [ofB_val, ob_some]
      simp only
      rw [and_val, ob_some]
      simp only
      rw [or_val, ob_some]
      simp only
      refine (ih (k + 1) (by omega) (by omega) _ F).trans ?_
      obtain ⟨e1, e2⟩ := set_congr (f := fun c => (f c || (rch (pc (1 - s) k) q c t && pcs b (pc s k) c)) || onF b q s t (k + 1) c) (g := fun c => f c || onF b q s t k c) fun c hc => by
        rw [rch_turn hs (by omega) (by omega) h13 hq hc, Bool.or_assoc]
        congr 1
        obtain ⟨g1, g2⟩ := sd_pc hs (by omega) (by omega) h13
        have hne : pc s k ≠ 0 := by rw [pc_ok hs (by omega) (by omega) h13]; omega
        unfold onF pcs
        by_cases hx : b.getD c 0 = pc s k
        · rw [hx, g1, g2, decide_eq_true (show pc s k ≠ 0 ∧ pc s k = pc s k from ⟨hne, rfl⟩), decide_eq_false (by omega), decide_eq_true (by omega)]
          simp
        · rw [decide_eq_false (p := pc s k ≠ 0 ∧ b.getD c 0 = pc s k) (by omega), Bool.and_false, Bool.false_or]
          congr 1
          rw [decide_eq_decide]
          constructor
          · rintro ⟨h1, h2⟩; exact ⟨h1, by omega⟩
          · rintro ⟨h1, h2⟩
            refine ⟨h1, ?_⟩
            rcases Int.lt_or_eq_of_le h2 with h3 | h3
            · omega
            · exfalso
              apply hx
              have hk0 : kd (b.getD c 0) ≠ 0 := by omega
              have := pc_of hk0
              rw [h1, ← h3] at this
              exact this
      rw [e1, e2]
def onS (b : List Int) (q s : Int) (t : Nat → Bool) (c : Nat) : Bool := decide (0 ≤ q ∧ q < 81) && (decide (s = 0 ∨ s = 1) && (decide (sd (b.getD c 0) = s) && rch (b.getD c 0) c q.toNat t))
theorem onF_one (b : List Int) {s : Int} (hs : s = 0 ∨ s = 1) (q : Nat) (hq : q < 81) (t : Nat → Bool) : onF b q s t 1 = onS b q s t := by
  funext c
  unfold onF onS
  rw [decide_eq_true (show (0 : Int) ≤ q ∧ (q : Int) < 81 by omega), decide_eq_true hs, Bool.true_and, Bool.true_and]
  congr 1
  rw [decide_eq_decide]
  constructor
  · exact fun h => h.1
  · intro h
    refine ⟨h, ?_⟩
    have := (kd_bounds (b.getD c 0)).1
    rcases Int.lt_or_eq_of_le this with h1 | h1
    · omega
    · rw [sd_none h1.symm] at h; omega
theorem onP_val (b h : List Int) (S : Int) (sd' : List (List Int)) (q s : Int) (t : Nat → Bool) : attack_On q s (sLo t) (sHi t) b h S (byOf b) sd' = some (sLo (onS b q s t), sHi (onS b q s t)) := by
  have none : ¬ ((0 ≤ q ∧ q < 81) ∧ (s = 0 ∨ s = 1)) → onS b q s t = fun _ => false := by
    intro hn
    funext c
    unfold onS
    by_cases h1 : 0 ≤ q ∧ q < 81
    · rw [decide_eq_false (p := s = 0 ∨ s = 1) (fun h2 => hn ⟨h1, h2⟩)]; simp
    · rw [decide_eq_false h1]; simp
  unfold attack_On
  by_cases h0 : q < 0
  · rw [b_lt h0, none (by omega), sLo_false, sHi_false]
  rw [b_nlt h0]
  by_cases h1 : q ≥ 81
  · rw [b_ge h1, none (by omega), sLo_false, sHi_false]
  rw [b_nge h1]
  obtain ⟨a, rfl⟩ : ∃ a : Nat, q = a := ⟨q.toNat, by omega⟩
  obtain ⟨g, hg⟩ := many_eq 15 (by omega)
  have main : (s = 0 ∨ s = 1) → attack_Onl5 many a s 1 b h S (byOf b) sd' (sLo t) (sHi t) 0 0 0 0 = some (b, h, S, byOf b, sd', 0, 0, sLo (onS b a s t), sHi (onS b a s t)) := by
    intro hs
    have := att_goes (b := b) h S sd' hs (q := a) (by omega) t 0 0 15 1 (by omega) (by omega) (fun _ => false) g
    rw [← hg, sLo_false, sHi_false] at this
    rw [this, onF_one b hs a (by omega)]
    simp only [Bool.false_or]
  by_cases h2 : s = 0
  · rw [b_nne h2, main (.inl h2), ob_some]
  · rw [b_ne h2]
    by_cases h3 : s = 1
    · rw [b_nne h3, main (.inr h3), ob_some]
    · rw [b_ne h3, none (by omega), sLo_false, sHi_false]
def kg (b : List Int) (s : Int) : Int := fst (pcs b (pc s 8))
def chs (b : List Int) (s : Int) : Nat → Bool := onS b (kg b s) (1 - s) (tk b)
theorem fst_range (f : Nat → Bool) : -1 ≤ fst f ∧ fst f < 81 := by
  unfold fst
  split
  · rename_i i hi
    have := List.mem_of_find?_eq_some hi
    rw [List.mem_range] at this
    omega
  · omega
theorem checkers_val {b : List Int} (hc : Clean b) (h : List Int) (S : Int) {s : Int} (hs : -10 ≤ s ∧ s ≤ 10) : attack_Checkers s b h S (byOf b) (sidesOf b) = some (sLo (chs b s), sHi (chs b s)) := by
  unfold attack_Checkers
  rw [kingB_val, ob_some, takenB_val hc, ob_some]
  simp only
  rw [w_s (by omega) (by omega), onP_val, ob_some]
  rfl
theorem chk_zero_clean {b h : List Int} {s : Int} (hl : b.length = 81) (hz : chkS b h s = 0) : Clean b ∧ (s = 0 ∨ s = 1) := by
  unfold chkS at hz
  split at hz
  · omega
  · rename_i hs
    split at hz
    · omega
    · rename_i hb
      exact ⟨bad_clean hl (by simpa using hb), by omega⟩
def tkL (b : List Int) (i : Nat) : List Bool := (List.range 81).map fun j => decide (j < i) && tk b j
theorem taken_goes (b h : List Int) (s : Int) (w : List Bool) : ∀ (n i : Nat), i + n = 81 → ∀ F, ref05_Takenl3 (F + n + 1) i b h s w (tkL b i) = some (w, tkL b 81) := by
  intro n
  induction n with
  | zero =>
    intro i hi F
    show ref05_Takenl3s (ref05_Takenl3 (F + 0)) _ _ _ _ _ _ = _
    unfold ref05_Takenl3s
    rw [b_nlt (by omega), show i = 81 by omega]
  | succ n ih =>
    intro i hi F
    show ref05_Takenl3s (ref05_Takenl3 (F + n + 1)) _ _ _ _ _ _ = _
    unfold ref05_Takenl3s
    have e : List.set (tkL b i) i (b.getD i 0 != 0) = tkL b (i + 1) := by
      unfold tkL
      rw [map_set]
      apply List.map_congr_left
      intro j _
      split
      · rename_i hj; subst hj
        rw [decide_eq_true (show j < j + 1 by omega), Bool.true_and]
        unfold tk
        rw [Bool.eq_iff_iff]; simp
      · rename_i hj
        congr 1
        rw [decide_eq_decide]; omega
    rw [b_lt (by omega), b_in (by omega) (by omega), b_in (by omega) (by omega), tn, e, w_s (by omega) (by omega)]
    exact ih (i + 1) (by omega) F
theorem tkL_zero (b : List Int) : tkL b 0 = List.replicate 81 false := by
  unfold tkL
  apply List.ext_getElem
  · simp
  · intro i h1 h2
    rw [List.getElem_map, List.getElem_replicate, decide_eq_false (by omega), Bool.false_and]
def takenL (b : List Int) : List Bool := tkL b 81
theorem taken_val (b h : List Int) (s : Int) : ref05_Taken b h s = some (takenL b) := by
  obtain ⟨g, hg⟩ := many_eq 81 (by omega)
  have := taken_goes b h s (List.replicate 81 false) 81 0 (by omega) g
  rw [← hg, tkL_zero] at this
  unfold ref05_Taken
  show ob (ref05_Takenl3 many 0 b h s (List.replicate 81 false) (List.replicate 81 false)) _ = _
  rw [show ref05_Takenl3 many 0 b h s (List.replicate 81 false) (List.replicate 81 false) = _ from this, ob_some]
  rfl
theorem takenL_get (b : List Int) {i : Nat} (h : i < 81) : (takenL b).getD i false = tk b i := by
  unfold takenL tkL
  rw [map_getD _ h, decide_eq_true h, Bool.true_and]
theorem reachT_val (b : List Int) (x : Int) {a c : Nat} (ha : a < 81) (hc : c < 81) : ref04_Reaches x a c (takenL b) = some (rch x a c (tk b)) := by
  rw [reach_val x ha hc, rch_congr ha hc fun s hs => takenL_get b hs]
theorem rking_goes (b h : List Int) (S : Int) {s : Int} (hs : s = 0 ∨ s = 1) : ∀ (n i : Nat), i + n = 81 → (∀ j, j < i → pcs b (pc s 8) j = false) → ∀ F, ref08_Kingl2 (F + n + 1) s i b h S = some (if kg b s = -1 then .inr () else .inl (kg b s)) := by
  have hp : pc s 8 = 16 * s + 8 := pc_ok hs (by omega) (by omega) (by omega)
  intro n
  induction n with
  | zero =>
    intro i hi hj F
    show ref08_Kingl2s (ref08_Kingl2 (F + 0)) _ _ _ _ _ = _
    unfold ref08_Kingl2s
    have : kg b s = -1 := fst_none fun j hj' => hj j (by omega)
    rw [b_nlt (by omega), if_pos this]
  | succ n ih =>
    intro i hi hj F
    show ref08_Kingl2s (ref08_Kingl2 (F + n + 1)) _ _ _ _ _ = _
    unfold ref08_Kingl2s
    rw [b_lt (by omega), b_in (by omega) (by omega), tn, c_8, w_s (n := 16 * s) (by omega) (by omega), w_s (n := 16 * s + 8) (by omega) (by omega), w_s (by omega) (by omega), ← hp]
    by_cases hx : b.getD i 0 = pc s 8
    · have hk : pcs b (pc s 8) i = true := by unfold pcs; rw [decide_eq_true]; exact ⟨by rw [hp]; omega, hx⟩
      have : kg b s = i := fst_some (by omega) hk hj
      rw [b_eq hx, this, if_neg (by omega)]
    · rw [b_neq hx]
      refine ih (i + 1) (by omega) (fun j hj' => ?_) F
      by_cases hji : j = i
      · subst hji; unfold pcs; rw [decide_eq_false]; exact fun hh => hx hh.2
      · exact hj j (by omega)
theorem rking_val (b h : List Int) (S : Int) {s : Int} (hs : s = 0 ∨ s = 1) : ref08_King b h S s = some (kg b s) := by
  obtain ⟨g, hg⟩ := many_eq 81 (by omega)
  have := rking_goes b h S hs 81 0 (by omega) (fun j hj => absurd hj (by omega)) g
  rw [← hg] at this
  unfold ref08_King
  rw [show ref08_Kingl2 many s 0 b h S = _ from this, ob_some]
  split
  · rename_i hk; rw [hk]; rfl
  · rfl
theorem ron_goes (b h : List Int) (S s : Int) (hs : s = 0 ∨ s = 1) (q : Nat) (hq : q < 81) : ∀ (n i : Nat), i + n = 81 → ∀ F,
    ref08_Onl5 (F + n + 1) q s ((List.range i).filter (onS b q s (tk b))).length i b h S (takenL b) ((List.range i).filter (onS b q s (tk b))).length (((List.range i).filter (onS b q s (tk b))).map Int.ofNat) =
      some ((sq (onS b q s (tk b))).length, (sq (onS b q s (tk b))).length, sq (onS b q s (tk b))) := by
  intro n
  induction n with
  | zero =>
    intro i hi F
    show ref08_Onl5s (ref08_Onl5 (F + 0)) _ _ _ _ _ _ _ _ _ _ = _
    unfold ref08_Onl5s
    rw [b_nlt (by omega), show i = 81 by omega]
    unfold sq
    rw [List.length_map]
  | succ n ih =>
    intro i hi F
    show ref08_Onl5s (ref08_Onl5 (F + n + 1)) _ _ _ _ _ _ _ _ _ _ = _
    unfold ref08_Onl5s
    have hr := ih (i + 1) (by omega) F
    have hlen : ((List.range i).filter (onS b q s (tk b))).length ≤ 81 := Nat.le_trans (List.length_filter_le _ _) (by simp; omega)
    rw [b_lt (by omega), b_in (by omega) (by omega), tn, c_8, refSide_val, ob_some, w_s (by omega) (by omega)]
    have hon : onS b q s (tk b) i = (decide (sd (b.getD i 0) = s) && rch (b.getD i 0) i q (tk b)) := by
      unfold onS
      rw [decide_eq_true (show (0 : Int) ≤ q ∧ (q : Int) < 81 by omega), decide_eq_true hs, Bool.true_and, Bool.true_and, tn]
    rw [List.range_succ, List.filter_append] at hr
    by_cases hsd : sd (b.getD i 0) = s
    · rw [b_eq hsd, b_in (by omega) (by omega), reachT_val b _ (by omega) hq, ob_some]
      rw [decide_eq_true hsd, Bool.true_and] at hon
      cases hrc : rch (b.getD i 0) i q (tk b) with
      | true =>
        rw [b_t, br_true (by simp; omega), app_take (by simp)]
        rw [hrc] at hon
        rw [List.filter_cons_of_pos hon, List.filter_nil] at hr
        simpa using hr
      | false =>
        rw [b_f]
        rw [hrc] at hon
        rw [List.filter_cons_of_neg (by simp [hon]), List.filter_nil, List.append_nil] at hr
        exact hr
    · rw [b_neq hsd]
      rw [decide_eq_false hsd, Bool.false_and] at hon
      rw [List.filter_cons_of_neg (by simp [hon]), List.filter_nil, List.append_nil] at hr
      exact hr
theorem ron_val (b h : List Int) (S s : Int) (hs : s = 0 ∨ s = 1) (q : Int) : ref08_On b h S q s (takenL b) = some ((sq (onS b q s (tk b))).length, (sq (onS b q s (tk b))).length, sq (onS b q s (tk b))) := by
  have none : ¬ (0 ≤ q ∧ q < 81) → sq (onS b q s (tk b)) = [] := by
    intro hn
    have : onS b q s (tk b) = fun _ => false := by funext c; unfold onS; rw [decide_eq_false hn, Bool.false_and]
    rw [this]
    unfold sq
    simp
  unfold ref08_On
  by_cases h0 : q < 0
  · rw [b_lt h0, none (by omega)]; rfl
  rw [b_nlt h0]
  by_cases h1 : q > 80
  · rw [b_gt h1, none (by omega)]; rfl
  rw [b_ngt h1]
  obtain ⟨a, rfl⟩ : ∃ a : Nat, q = a := ⟨q.toNat, by omega⟩
  obtain ⟨g, hg⟩ := many_eq 81 (by omega)
  have := ron_goes b h S s hs a (by omega) 81 0 (by omega) g
  rw [← hg] at this
  rw [show ref08_Onl5 many a s 0 0 b h S (takenL b) 0 [] = _ from this, ob_some]
def ofL (L : List Int) (c : Nat) : Bool := L.any fun q => only q c
theorem of_goes (L : List Int) (hl : L.length ≤ 1000) (N : Nat) (u v : Int) : ∀ (n i : Nat), i + n = L.length → ∀ (f : Nat → Bool) (F : Nat),
    set_Ofl3 (F + n + 1) L.length L.length i N L u v (sLo f) (sHi f) = some (N, L, u, v, sLo fun c => f c || ofL (L.drop i) c, sHi fun c => f c || ofL (L.drop i) c) := by
  intro n
  induction n with
  | zero =>
    intro i hi f F
    show set_Ofl3s (set_Ofl3 (F + 0)) _ _ _ _ _ _ _ _ _ = _
    unfold set_Ofl3s
    rw [b_nlt (by omega), List.drop_eq_nil_of_le (by omega)]
    have : (fun c => f c || ofL [] c) = f := by funext c; simp [ofL]
    rw [this]
  | succ n ih =>
    intro i hi f F
    show set_Ofl3s (set_Ofl3 (F + n + 1)) _ _ _ _ _ _ _ _ _ = _
    unfold set_Ofl3s
    have hil : i < L.length := by omega
    have hget : L.getD i 0 = L[i] := at_i hil
    rw [b_lt (by omega), b_in (by omega) (by omega), tn, hget, with_val, ob_some]
    simp only
    rw [w_s (by omega) (by omega)]
    refine (ih (i + 1) (by omega) _ F).trans ?_
    have hd : L.drop i = L[i] :: L.drop (i + 1) := List.drop_eq_getElem_cons hil
    have : (fun c => (f c || only L[i] c) || ofL (L.drop (i + 1)) c) = fun c => f c || ofL (L.drop i) c := by
      funext c
      rw [hd]
      unfold ofL
      rw [List.any_cons, Bool.or_assoc]
    rw [this]
theorem of_set (L : List Int) (hl : L.length ≤ 1000) (N : Nat) : set_Of L.length N L = some (sLo (ofL L), sHi (ofL L)) := by
  obtain ⟨g, hg⟩ := many_eq L.length (by omega)
  have := of_goes L hl N 0 0 L.length 0 (by omega) (fun _ => false) g
  rw [← hg, sLo_false, sHi_false] at this
  unfold set_Of
  rw [show set_Ofl3 many L.length (Int.ofNat L.length) 0 N L 0 0 0 0 = _ from this, ob_some]
  simp only [Bool.false_or, List.drop_zero]
theorem sq_len (f : Nat → Bool) : (sq f).length ≤ 81 := by
  unfold sq; rw [List.length_map]; exact Nat.le_trans (List.length_filter_le _ _) (by simp)
theorem ofL_sq (f : Nat → Bool) {c : Nat} (hc : c < 81) : ofL (sq f) c = f c := by
  unfold ofL sq only
  rw [Bool.eq_iff_iff, List.any_eq_true]
  constructor
  · rintro ⟨q, hq, hqc⟩
    obtain ⟨j, hj, rfl⟩ := List.mem_map.1 hq
    simp only [decide_eq_true_eq, Int.ofNat_eq_natCast] at hqc
    have : c = j := by omega
    subst this
    exact (List.mem_filter.1 hj).2
  · intro h
    exact ⟨Int.ofNat c, List.mem_map.2 ⟨c, List.mem_filter.2 ⟨by simpa using hc, h⟩, rfl⟩, by simp⟩
theorem of_sq (f : Nat → Bool) : set_Of (sq f).length (sq f).length (sq f) = some (sLo f, sHi f) := by
  rw [of_set _ (by have := sq_len f; omega)]
  obtain ⟨e1, e2⟩ := set_congr (f := ofL (sq f)) (g := f) fun c hc => ofL_sq f hc
  rw [e1, e2]
end Go.Kk.Pl
namespace Go.Kk.Pl
theorem attacks_true : law08_attacks = some true := by kernel_rfl
theorem sq_mem {f : Nat → Bool} {q : Int} (h : q ∈ sq f) : 0 ≤ q ∧ q < 81 ∧ f q.toNat = true := by
  unfold sq at h
  obtain ⟨j, hj, rfl⟩ := List.mem_map.1 h
  obtain ⟨h1, h2⟩ := List.mem_filter.1 hj
  rw [List.mem_range] at h1
  refine ⟨by simp, by simp only [Int.ofNat_eq_natCast]; omega, by simpa using h2⟩
theorem mem_sq {f : Nat → Bool} {q : Nat} (hq : q < 81) (h : f q = true) : (q : Int) ∈ sq f := by
  unfold sq
  exact List.mem_map.2 ⟨q, List.mem_filter.2 ⟨by simpa using hq, h⟩, rfl⟩
end Go.Kk.Pl
namespace Go.Kk.Pl
theorem upto_pre (t : Nat → Bool) {c : Nat} (ht : t c = true) {i : Nat} : ∀ (P Q : List Nat), (∀ s ∈ P, t s = false) → upto t (P ++ c :: Q) i = (P.contains i || decide (i = c))
  | [], Q, _ => by
    show (decide (i = c) || (!t c && upto t Q i)) = _
    rw [ht]; simp
  | s :: P, Q, h => by
    show (decide (i = s) || (!t s && upto t (P ++ c :: Q) i)) = _
    rw [h s List.mem_cons_self, Bool.not_false, Bool.true_and, upto_pre t ht P Q (fun s hs => h s (List.mem_cons_of_mem _ hs)), List.contains_cons, Bool.or_assoc]
    congr 1
theorem onW_btw {dx dy : Int} {a c : Nat} (ha : a < 81) (hc : c < 81) (h : onW dx dy a c = true) (i : Nat) : (upto (only c) (wayL dx dy a) i && !only c i) = (btw a c).contains i := by
  obtain ⟨hl, rfl, rfl⟩ := of_decide_eq_true h
  have := chkA_all ⟨a, ha⟩ ⟨c, hc⟩
  simp only [chkA, Bool.or_eq_true, decide_eq_true_eq, Bool.and_eq_true, beq_iff_eq, Bool.not_eq_true'] at this
  obtain ⟨e1, e2, e3⟩ := this.resolve_left hl
  have hsp : wayL (sgn (df a c)) (sgn (dr a c)) a = btw a c ++ c :: (wayL (sgn (df a c)) (sgn (dr a c)) a).drop ((btw a c).length + 1) := by
    have := split_at e2
    rw [e1] at this
    exact this
  have hn : c ∉ btw a c := by simpa using e3
  rw [hsp, upto_pre (only c) (by unfold only; simp) _ _ (fun s hs => by
    unfold only
    rw [decide_eq_false_iff_not]
    intro e
    have : s = c := by omega
    exact hn (this ▸ hs))]
  unfold only
  by_cases hi : i = c
  · subst hi
    rw [e3]; simp
  · rw [decide_eq_false hi, decide_eq_false (p := (i : Int) = c) (by omega)]; simp
theorem onW_has {dx dy : Int} (h1 : -1 ≤ dx) (h2 : dx ≤ 1) (h3 : -1 ≤ dy) (h4 : dy ≤ 1) (hne : ¬ (dx = 0 ∧ dy = 0)) {a c : Nat} (ha : a < 81) (hc : c < 81) : upto (only c) (wayL dx dy a) c = onW dx dy a c := by
  rw [upto_val h1 h2 h3 h4 hne ha hc]
  cases h : onW dx dy a c with
  | false => rfl
  | true =>
    rw [Bool.true_and, free_iff]
    intro s hs
    unfold only
    rw [decide_eq_false_iff_not]
    intro e
    have hsc : s = c := by omega
    obtain ⟨hl, _, _⟩ := of_decide_eq_true h
    have := chkA_all ⟨a, ha⟩ ⟨c, hc⟩
    simp only [chkA, Bool.or_eq_true, decide_eq_true_eq, Bool.and_eq_true, beq_iff_eq, Bool.not_eq_true'] at this
    have := (this.resolve_left hl).2.2
    rw [← hsc] at this
    have h2 : (btw a s).contains s = true := List.contains_iff_mem.mpr (hsc ▸ hs)
    rw [this] at h2
    cases h2
def allW : List (List Int) := [[-1, -1], [1, -1], [-1, 1], [1, 1], [0, -1], [-1, 0], [1, 0], [0, 1]]
theorem allW_any {a c : Nat} : (allW.any fun r => onW (dx_ r) (dy_ r) a c) = decide (lineS a c ≠ 0) := by
  unfold allW onW dx_ dy_
  by_cases h : lineS a c = 0
  · simp [h]
  · have hl := (line_lie a c).mp h
    have hx : sgn (df a c) = -1 ∨ sgn (df a c) = 0 ∨ sgn (df a c) = 1 := by unfold sgn; split <;> (try split) <;> omega
    have hy : sgn (dr a c) = -1 ∨ sgn (dr a c) = 0 ∨ sgn (dr a c) = 1 := by unfold sgn; split <;> (try split) <;> omega
    have hn : ¬ (sgn (df a c) = 0 ∧ sgn (dr a c) = 0) := by
      unfold lieS at hl
      unfold sgn
      split <;> split <;> (try split) <;> (try split) <;> omega
    rcases hx with hx | hx | hx <;> rcases hy with hy | hy | hy <;> simp [hx, hy, h] at hn ⊢
theorem between_goes2 {a c : Nat} (ha : a < 81) (hc : c < 81) (N : Nat) : ∀ (n i : Nat), i + n = 8 → ∀ F,
    ray_Between_v2l2 (F + n + 1) a c 8 8 i 0 0 N allW = some (if (allW.drop i).any (fun r => onW (dx_ r) (dy_ r) a c) then .inl (sLo (fun i => (btw a c).contains i), sHi (fun i => (btw a c).contains i)) else .inr (0, 0)) := by
  intro n
  induction n with
  | zero =>
    intro i hi F
    show ray_Between_v2l2s (ray_Between_v2l2 (F + 0)) _ _ _ _ _ _ _ _ _ = _
    unfold ray_Between_v2l2s
    rw [b_nlt (by omega), List.drop_eq_nil_of_le (by show 8 ≤ i; omega)]
    rfl
  | succ n ih =>
    intro i hi F
    show ray_Between_v2l2s (ray_Between_v2l2 (F + n + 1)) _ _ _ _ _ _ _ _ _ = _
    unfold ray_Between_v2l2s
    obtain ⟨r, hget, hdr, e1, e2, g1, g2, g3, g4, g5⟩ : ∃ r, allW.getD i [] = r ∧ allW.drop i = r :: allW.drop (i + 1) ∧ List.headD (List.take 2 r) 0 = dx_ r ∧ List.headD (List.tail (List.take 2 r)) 0 = dy_ r ∧ -1 ≤ dx_ r ∧ dx_ r ≤ 1 ∧ -1 ≤ dy_ r ∧ dy_ r ≤ 1 ∧ ¬ (dx_ r = 0 ∧ dy_ r = 0) := by
      have : ∀ j : Fin 8, allW.drop j.val = allW.getD j.val [] :: allW.drop (j.val + 1) ∧ List.headD (List.take 2 (allW.getD j.val [])) 0 = dx_ (allW.getD j.val []) ∧ List.headD (List.tail (List.take 2 (allW.getD j.val []))) 0 = dy_ (allW.getD j.val []) ∧ -1 ≤ dx_ (allW.getD j.val []) ∧ dx_ (allW.getD j.val []) ≤ 1 ∧ -1 ≤ dy_ (allW.getD j.val []) ∧ dy_ (allW.getD j.val []) ≤ 1 ∧ ¬ (dx_ (allW.getD j.val []) = 0 ∧ dy_ (allW.getD j.val []) = 0) := by decide
      exact ⟨_, rfl, this ⟨i, by omega⟩⟩
    have ho : ofL [(c : Int)] = only c := by
      funext j; unfold ofL; simp
    have hof : set_Of 1 1 [(c : Int)] = some (sLo (only c), sHi (only c)) := by
      have := of_set [(c : Int)] (by simp) 1
      rw [ho] at this
      exact this
    have hh : ∀ g : Nat → Bool, has g (c : Int) = g c := by
      intro g; unfold has; rw [decide_eq_true (by omega), decide_eq_true (by omega), tn]; rfl
    rw [b_lt (by omega), b_in (by omega) (by omega), tn, hget, e1, e2, hof, ob_some]
    simp only
    rw [way_val g1 g2 g3 g4 g5 ha, ob_some]
    simp only
    rw [has_val, ob_some, hh, onW_has g1 g2 g3 g4 g5 ha hc, hdr, List.any_cons]
    cases hon : onW (dx_ r) (dy_ r) a c with
    | true =>
      rw [b_t, without_val, ob_some, Bool.true_or, if_pos rfl]
      have : (fun i => upto (only c) (wayL (dx_ r) (dy_ r) a) i && !only c i) = fun i => (btw a c).contains i := by
        funext j; exact onW_btw ha hc hon j
      rw [this]
    | false =>
      rw [b_f, Bool.false_or, w_s (n := (i : Int) + 1) (by omega) (by omega)]
      exact ih (i + 1) (by omega) F
theorem rayBetween_val {a c : Nat} (ha : a < 81) (hc : c < 81) : ray_Between_v2 a c = some (sLo (fun i => (btw a c).contains i), sHi (fun i => (btw a c).contains i)) := by
  unfold ray_Between_v2
  rw [rdirs_val, ob_some]
  simp only
  rw [rdirs_val, ob_some]
  simp only
  obtain ⟨g, hg⟩ := many_eq 8 (by omega)
  have := between_goes2 ha hc ((rdirL 6).length + (rdirL 7).length) 8 0 (by omega) g
  rw [← hg, List.drop_zero, allW_any] at this
  have e8 : (rdirL 6).length + (rdirL 7).length = 8 := by decide
  have eL : List.append (List.take (rdirL 6).length (rdirL 6)) (List.take (rdirL 7).length (rdirL 7)) = allW := by decide
  rw [eL, e8] at *
  rw [br_true (by decide), show ray_Between_v2l2 many a c 8 (Int.ofNat 8) 0 0 0 8 allW = _ from this, ob_some]
  by_cases h : lineS a c = 0
  · rw [decide_eq_false (p := lineS a c ≠ 0) (by simpa using h), if_neg (by simp), sw_inr]
    have : btw a c = [] := by unfold btw; rw [if_pos h]
    rw [this]
    simp only [List.contains_nil]
    rw [sLo_false, sHi_false]
  · rw [decide_eq_true (p := lineS a c ≠ 0) h, if_pos rfl, sw_inl]
end Go.Kk.Pl
namespace Go.Kk.Pl
def farI (s q : Int) : Int := if 0 ≤ q ∧ q < 81 then farS s q.toNat else -1
def deadI (x q : Int) : Bool := decide (((kd x = 1 ∨ kd x = 2) ∧ farI (sd x) q = 0) ∨ (kd x = 3 ∧ (farI (sd x) q = 0 ∨ farI (sd x) q = 1)))
def inZ (s q : Int) : Bool := decide (0 ≤ farI s q ∧ farI s q ≤ 2)
def mayS (x f t : Int) : Bool := decide (up_ (kd x) ≠ 0) && (inZ (sd x) f || inZ (sd x) t)
def mustS (x t : Int) : Bool := decide (up_ (kd x) ≠ 0) && deadI x t
def chkM (f t d : Int) (p : Bool) : Int := if ¬ (0 ≤ t ∧ t < 81) then 1 else if d ≠ 0 then (if 1 ≤ d ∧ d ≤ 7 ∧ f = 0 ∧ p = false then 0 else 70) else if ¬ (0 ≤ f ∧ f < 81) then 1 else if f = t then 70 else 0
def canS (b h : List Int) (s f t d : Int) (p : Bool) : Bool := decide (chkM f t d p = 0) && (decide (s = 0 ∨ s = 1) &&
  if d ≠ 0 then decide (0 < hd_ h s d) && decide (at_ b t = 0)
  else decide (sd (at_ b f) = s ∧ sd (at_ b t) ≠ s ∧ kd (at_ b t) ≠ 8) && (!p || decide (up_ (kd (at_ b f)) ≠ 0)))
theorem at_in {b : List Int} {q : Int} (h : 0 ≤ q ∧ q < 81) : at_ b q = b.getD q.toNat 0 := by unfold at_; rw [if_pos h]
def movS (b h : List Int) (s f t d : Int) (p : Bool) : Bool := canS b h s f t d p &&
  if d ≠ 0 then !deadI (16 * s + d) t && (decide (d ≠ 1) || decide (nF b (16 * s + d) (t.toNat / 9) = 0))
  else rch (at_ b f) f.toNat t.toNat (tk b) && if p = true then mayS (at_ b f) f t else !mustS (at_ b f) t
theorem cnt_isE (f : Nat → Bool) : isE f = decide (cntS f = 0) := by
  unfold isE cntS
  rw [Bool.eq_iff_iff, decide_eq_true_eq, List.countP_eq_zero, List.all_eq_true]
  simp
end Go.Kk.Pl
namespace Go.Kk.Pl
end Go.Kk.Pl
namespace Go.Kk.Pl
def one2 (x f t : Int) : List (List Int) := (if mustS x t then [] else [[f, t, 0, 0]]) ++ (if mayS x f t then [[f, t, 0, 1]] else [])
def kgs (b : List Int) (c : Nat) : Bool := pcs b (pc 0 8) c || pcs b (pc 1 8) c
def goesS (b : List Int) (S : Int) (G : Nat → Bool) (f : Nat) (c : Nat) : Bool := ((rch (b.getD f 0) f c (tk b) && !sdP b S c) && !kgs b c) && G c
def mvsF (b : List Int) (S : Int) (G : Nat → Bool) (f : Int) : List (List Int) := (sq (goesS b S G f.toNat)).flatMap (one2 (b.getD f.toNat 0) f)
def mvsB (b : List Int) (S : Int) (G : Nat → Bool) : List (List Int) := (sq (sdP b S)).flatMap (mvsF b S G)
end Go.Kk.Pl
namespace Go.Kk.Pl
end Go.Kk.Pl
namespace Go.Kk.Pl
theorem hd1 (m : List Int) : List.headD (List.tail (List.take 4 m)) 0 = m.getD 1 0 := by
  rcases m with _ | ⟨a, _ | ⟨b, m⟩⟩ <;> rfl
theorem hd2 (m : List Int) : List.headD (List.tail (List.tail (List.take 4 m))) 0 = m.getD 2 0 := by
  rcases m with _ | ⟨a, _ | ⟨b, _ | ⟨c, m⟩⟩⟩ <;> rfl
end Go.Kk.Pl
namespace Go.Kk.Pl
theorem getM_put (es : List (List Int × List Int)) (r v r' d : List Int) : getM (putM es r v) r' d = if r' = r then v else getM es r' d := by
  induction es with
  | nil =>
    by_cases h : r' = r
    · subst h; simp [putM, getM]
    · have : (r == r') = false := by simpa using fun hh => h hh.symm
      simp [putM, getM, this, h]
  | cons x es ih =>
    obtain ⟨k, u⟩ := x
    by_cases hk : k = r
    · subst hk
      by_cases h : r' = k
      · subst h; simp [putM, getM]
      · have : (k == r') = false := by simpa using fun hh => h hh.symm
        simp [putM, getM, this, h]
    · have e1 : (k == r) = false := by simpa using hk
      by_cases hk' : k = r'
      · subst hk'
        simp [putM, getM, e1, hk]
      · have e2 : (k == r') = false := by simpa using hk'
        simp only [putM, e1, cond_false, getM, e2, ih]
theorem hasM_put (es : List (List Int × List Int)) (r v r' : List Int) : hasM (putM es r v) r' = (decide (r' = r) || hasM es r') := by
  induction es with
  | nil =>
    by_cases h : r' = r
    · subst h; simp [putM, hasM]
    · have : (r == r') = false := by simpa using fun hh => h hh.symm
      simp [putM, hasM, this, h]
  | cons x es ih =>
    obtain ⟨k, u⟩ := x
    by_cases hk : k = r
    · subst hk
      by_cases h : r' = k
      · subst h; simp [putM, hasM]
      · have : (k == r') = false := by simpa using fun hh => h hh.symm
        simp [putM, hasM, this, h]
    · have e1 : (k == r) = false := by simpa using hk
      by_cases hk' : k = r'
      · subst hk'
        simp [putM, hasM, e1]
      · have e2 : (k == r') = false := by simpa using hk'
        simp only [putM, e1, cond_false, hasM, e2, ih, Bool.false_or]
structure MvOK (b h : List Int) (S f t d p : Int) : Prop where
  pp : p = 0 ∨ p = 1
  mov : movS b h S f t d (p != 0) = true
  tr : 0 ≤ t ∧ t < 81
  fr : 0 ≤ f ∧ f < 81
  dr : 0 ≤ d ∧ d ≤ 7
  drop : d ≠ 0 → f = 0 ∧ p = 0 ∧ 0 < hd_ h S d ∧ at_ b t = 0
end Go.Kk.Pl
namespace Go.Kk.Pl
theorem step_small {x : Int} {a c : Nat} (h : stepB x a c = true) : -1 ≤ df a c ∧ df a c ≤ 1 ∧ -2 ≤ dr a c ∧ dr a c ≤ 2 ∧ (dr a c = 2 ∨ dr a c = -2 → df a c = 1 ∨ df a c = -1) ∧ ¬ (df a c = 0 ∧ dr a c = 0) := by
  have h := of_decide_eq_true h
  unfold stpK at h
  have : upS x a c = dr a c ∨ upS x a c = - dr a c := by unfold upS; split <;> simp
  omega
theorem step_btw {x : Int} {a c : Nat} (h : stepB x a c = true) : btw a c = [] := by
  have hs := step_small h
  unfold btw
  by_cases hl : lineS a c = 0
  · rw [if_pos hl]
  · rw [if_neg hl]
    have hl := (line_lie a c).mp hl
    unfold lieS at hl
    have : mx a c ≤ 1 := by
      unfold mx
      split <;> omega
    rw [show mx a c - 1 = 0 by omega]
    rfl
theorem btw_way {k c f : Nat} (hk : k < 81) (hc : c < 81) (h : f ∈ btw c k) : f < 81 ∧ f ≠ k ∧ f ≠ c ∧ ∃ n : Nat, (wayL (sgn (df k f)) (sgn (dr k f)) k)[n]? = some c ∧ ∀ i, (i ∈ btw c k ↔ i ∈ (wayL (sgn (df k f)) (sgn (dr k f)) k).take n) := by
  have hf : f ∈ btw k c := btw_back hc hk h
  have hl : lineS k c ≠ 0 := by intro h0; unfold btw at hf; rw [if_pos h0] at hf; cases hf
  have := chkA_all ⟨k, hk⟩ ⟨c, hc⟩
  simp only [chkA, Bool.or_eq_true, decide_eq_true_eq, Bool.and_eq_true, beq_iff_eq, Bool.not_eq_true'] at this
  obtain ⟨e1, e2, e3⟩ := this.resolve_left hl
  have hW : f ∈ wayL (sgn (df k c)) (sgn (dr k c)) k := List.mem_of_mem_take (by rw [e1]; exact hf)
  have hli := (line_lie k c).mp hl
  have sx : -1 ≤ sgn (df k c) ∧ sgn (df k c) ≤ 1 := by unfold sgn; split <;> (try split) <;> omega
  have sy : -1 ≤ sgn (dr k c) ∧ sgn (dr k c) ≤ 1 := by unfold sgn; split <;> (try split) <;> omega
  have sn : ¬ (sgn (df k c) = 0 ∧ sgn (dr k c) = 0) := by
    unfold lieS at hli
    unfold sgn
    split <;> split <;> (try split) <;> (try split) <;> omega
  have hB := chkB_all ⟨((sgn (df k c) + 1) * 3 + (sgn (dr k c) + 1)).toNat, by omega⟩ ⟨k, hk⟩
  simp only at hB
  rw [show (((((sgn (df k c) + 1) * 3 + (sgn (dr k c) + 1)).toNat / 3 : Nat) : Int) - 1) = sgn (df k c) by omega, show (((((sgn (df k c) + 1) * 3 + (sgn (dr k c) + 1)).toNat % 3 : Nat) : Int) - 1) = sgn (dr k c) by omega] at hB
  have hB := hB.resolve_left (by omega)
  unfold chkB at hB
  rw [List.all_eq_true] at hB
  have hB := hB f hW
  simp only [Bool.and_eq_true, decide_eq_true_eq] at hB
  obtain ⟨b1, b2, b3, b4⟩ := hB
  refine ⟨b1, ?_, ?_, (btw k c).length, ?_, ?_⟩
  · rintro rfl
    exact b2 (by unfold lineS; rw [if_pos rfl])
  · rintro rfl
    rw [List.contains_iff_mem.mpr hf] at e3
    cases e3
  · rw [b3, b4]; exact e2
  · intro i
    rw [b3, b4, e1]
    exact ⟨btw_back hc hk, btw_back hk hc⟩
theorem btw_two {k c c' f : Nat} (hk : k < 81) (hc : c < 81) (hc' : c' < 81) (h : f ∈ btw c k) (h' : f ∈ btw c' k) (hne : c ≠ c') : c ∈ btw c' k ∨ c' ∈ btw c k := by
  obtain ⟨_, _, _, n, e, m⟩ := btw_way hk hc h
  obtain ⟨_, _, _, n', e', m'⟩ := btw_way hk hc' h'
  rcases Nat.lt_trichotomy n n' with hn | hn | hn
  · left
    rw [m', List.mem_iff_getElem?]
    exact ⟨n, by rw [List.getElem?_take, if_pos hn]; exact e⟩
  · subst hn
    rw [e] at e'
    exact absurd (Option.some.inj e') hne
  · right
    rw [m, List.mem_iff_getElem?]
    exact ⟨n', by rw [List.getElem?_take, if_pos hn]; exact e'⟩
def enm (b : List Int) (s : Int) (c : Nat) : Bool := decide (sd (b.getD c 0) = 1 - s)
def atk (b : List Int) (s : Int) (k c : Nat) : Bool := enm b s c && rch (b.getD c 0) c k (tk b)
def pinB (b : List Int) (s : Int) (k f c : Nat) : Bool := enm b s c && (slideB (b.getD c 0) c k && ((btw c k).contains f && (tk b f && (decide (sd (b.getD f 0) = s) && (btw c k).all fun i => i == f || !tk b i))))
theorem pin_iff {b : List Int} {s : Int} {k f c : Nat} : pinB b s k f c = true ↔ enm b s c = true ∧ slideB (b.getD c 0) c k = true ∧ f ∈ btw c k ∧ tk b f = true ∧ sd (b.getD f 0) = s ∧ ∀ i ∈ btw c k, i ≠ f → tk b i = false := by
  unfold pinB
  simp only [Bool.and_eq_true, decide_eq_true_eq, List.all_eq_true, Bool.or_eq_true, beq_iff_eq, Bool.not_eq_true', List.contains_iff_mem]
  constructor
  · rintro ⟨h1, h2, h3, h4, h5, h6⟩
    exact ⟨h1, h2, h3, h4, h5, fun i hi hn => (h6 i hi).resolve_left hn⟩
  · rintro ⟨h1, h2, h3, h4, h5, h6⟩
    exact ⟨h1, h2, h3, h4, h5, fun i hi => by by_cases hn : i = f; exact .inl hn; exact .inr (h6 i hi hn)⟩
theorem enm_tk {b : List Int} {s : Int} (hs : s = 0 ∨ s = 1) {c : Nat} (h : enm b s c = true) : tk b c = true := by
  have h := of_decide_eq_true h
  unfold tk
  rw [decide_eq_true_eq]
  intro h0
  rw [h0, sd_zero] at h
  omega
theorem pin_one {b : List Int} {s : Int} (hs : s = 0 ∨ s = 1) {k f c c' : Nat} (hk : k < 81) (hc : c < 81) (hc' : c' < 81) (h : pinB b s k f c = true) (h' : pinB b s k f c' = true) : c = c' := by
  apply Classical.byContradiction
  intro hne
  rw [pin_iff] at h h'
  rcases btw_two hk hc hc' h.2.2.1 h'.2.2.1 hne with hm | hm
  · have := h'.2.2.2.2.2 c hm (fun e => (btw_way hk hc h.2.2.1).2.2.1 e.symm)
    rw [enm_tk hs h.1] at this
    cases this
  · have := h.2.2.2.2.2 c' hm (fun e => (btw_way hk hc' h'.2.2.1).2.2.1 e.symm)
    rw [enm_tk hs h'.1] at this
    cases this
theorem pin_sq {b : List Int} {s : Int} {k f f' c : Nat} (h : pinB b s k f c = true) (h' : pinB b s k f' c = true) : f = f' := by
  apply Classical.byContradiction
  intro hne
  rw [pin_iff] at h h'
  have := h'.2.2.2.2.2 f h.2.2.1 hne
  rw [h.2.2.2.1] at this
  cases this
theorem rch_iff {x : Int} {a c : Nat} {t : Nat → Bool} : rch x a c t = true ↔ stepB x a c = true ∨ (slideB x a c = true ∧ ∀ i ∈ btw a c, t i = false) := by
  unfold rch
  rw [Bool.or_eq_true, Bool.and_eq_true, free_iff]
end Go.Kk.Pl
namespace Go.Kk.Pl
theorem cntS_congr {f g : Nat → Bool} (h : ∀ i, i < 81 → f i = g i) : cntS f = cntS g := by
  unfold cntS
  apply List.countP_congr
  intro i hi
  rw [h i (List.mem_range.mp hi)]
theorem cnt_only : ∀ f : Fin 81, cntS (only ((f.val : Nat) : Int)) = 1 := by decide +kernel
theorem cnt_one {g : Nat → Bool} : cntS g = 1 ↔ ∃ f, f < 81 ∧ ∀ i, i < 81 → (g i = true ↔ i = f) := by
  constructor
  · intro h
    unfold cntS at h
    rw [List.countP_eq_length_filter] at h
    obtain ⟨f, hf⟩ := List.length_eq_one_iff.mp h
    have hm : ∀ i, i ∈ (List.range 81).filter g ↔ i = f := by rw [hf]; simp
    refine ⟨f, ?_, fun i hi => ?_⟩
    · have := (hm f).mpr rfl
      rw [List.mem_filter, List.mem_range] at this
      exact this.1
    · rw [← hm i, List.mem_filter, List.mem_range]
      exact ⟨fun h => ⟨hi, h⟩, fun h => h.2⟩
  · rintro ⟨f, hf, h⟩
    rw [← cnt_only ⟨f, hf⟩]
    apply cntS_congr
    intro i hi
    unfold only
    rw [Bool.eq_iff_iff, h i hi, decide_eq_true_eq]
    simp only
    omega
theorem fst_one {g : Nat → Bool} {f : Nat} (hf : f < 81) (h : ∀ i, i < 81 → (g i = true ↔ i = f)) : fst g = f := by
  apply fst_some hf ((h f hf).mpr rfl)
  intro i hi
  cases hg : g i with
  | false => rfl
  | true => exact absurd ((h i (by omega)).mp hg) (by omega)
def wayP (k c : Nat) (i : Nat) : Bool := (btw c k).contains i || only c i
def pinF (b : List Int) (s : Int) (k c : Nat) : Option Nat := (List.range 81).find? fun f => pinB b s k f c
theorem pinF_some {b : List Int} {s : Int} {k c f : Nat} (h : pinB b s k f c = true) (hf : f < 81) : pinF b s k c = some f := by
  unfold pinF
  cases hp : (List.range 81).find? fun f => pinB b s k f c with
  | none =>
    rw [List.find?_eq_none] at hp
    exact absurd h (hp f (List.mem_range.mpr hf))
  | some f' =>
    have := List.find?_some hp
    rw [pin_sq this h]
theorem pinF_none {b : List Int} {s : Int} {k c : Nat} (h : ∀ f, f < 81 → pinB b s k f c = false) : pinF b s k c = none := by
  unfold pinF
  rw [List.find?_eq_none]
  intro f hf
  rw [h f (List.mem_range.mp hf)]
  simp
def PinsI (b : List Int) (s : Int) (k : Nat) (P : Nat → Bool) (es : List (List Int × List Int)) : Prop :=
  ∀ f : Nat, f < 81 → (hasM es [(f : Int)] = true ↔ ∃ c, c < 81 ∧ P c = true ∧ pinB b s k f c = true) ∧ ∀ c, c < 81 → P c = true → pinB b s k f c = true → getM es [(f : Int)] [0, 0] = prS (wayP k c)
theorem pin_step {b : List Int} (hcl : Clean b) (h : List Int) (S : Int) {s : Int} (hs : s = 0 ∨ s = 1) {k : Nat} (hk : k < 81) (x2 : Nat) (x3 x4 : Int) (x14 : Nat) (x15 : List Int) (N : Nat) (L : List Int) {i : Nat} (hi : i < L.length) (hl : L.length ≤ 1000) {c : Nat} (hc : c < 81) (hq : L[i] = (c : Int)) (he : enm b s c = true)
    (es : List (List Int × List Int)) (R : Int → Int → Nat → Int → Int → Nat → Int → Int → List Int → List Int → Int → List (List Int) → List (List Int) → List (List Int × List Int) → Nat → List Int → Nat → List Int → Option (Int × Int × Nat × Int × Int × List Int × List Int × Int × List (List Int) × List (List Int) × List (List Int × List Int) × Nat × List Int)) :
    attack_Pinned_v2l9s R s k x2 x3 x4 L.length L.length i b h S (byOf b) (sidesOf b) es x14 x15 N L =
      R s k x2 x3 x4 L.length L.length ((i + 1 : Nat) : Int) b h S (byOf b) (sidesOf b) (match pinF b s k c with | none => es | some f => putM es [(f : Int)] (prS (wayP k c))) x14 x15 N L := by
  unfold attack_Pinned_v2l9s
  have hget : L.getD i 0 = L[i] := at_i hi
  rw [b_lt (by omega), b_in (by omega) (by omega), tn, hget, hq, rayBetween_val hc hk, ob_some]
  simp only
  rw [takenB_val hcl, ob_some]
  simp only
  rw [and_val, ob_some]
  simp only
  rw [count_set, ob_some, w_s (n := (i : Int) + 1) (by omega) (by omega)]
  have inm : ∀ f, f < 81 → pinB b s k f c = true → ∀ i, i < 81 → (((btw c k).contains i && tk b i) = true ↔ i = f) := by
    intro f _ hp i _
    rw [pin_iff] at hp
    rw [Bool.and_eq_true, List.contains_iff_mem]
    constructor
    · rintro ⟨h1, h2⟩
      apply Classical.byContradiction
      intro hn
      rw [hp.2.2.2.2.2 i h1 hn] at h2; cases h2
    · rintro rfl; exact ⟨hp.2.2.1, hp.2.2.2.1⟩
  by_cases h1 : ((cntS fun i => (btw c k).contains i && tk b i : Nat) : Int) = 1
  · rw [b_nne h1]
    obtain ⟨f, hf, hm⟩ := cnt_one.mp (by omega : (cntS fun i => (btw c k).contains i && tk b i) = 1)
    have only_f : ∀ f', f' < 81 → pinB b s k f' c = true → f' = f := fun f' hf' hp => (hm f' hf').mp ((inm f' hf' hp f' hf').mpr rfl)
    have none' : pinB b s k f c = false → pinF b s k c = none := by
      intro h0
      apply pinF_none
      intro f' hf'
      cases hp : pinB b s k f' c with
      | false => rfl
      | true => rw [only_f f' hf' hp, h0] at hp; cases hp
    have hmf := (hm f hf).mpr rfl
    rw [Bool.and_eq_true, List.contains_iff_mem] at hmf
    rw [piecesB_val, ob_some]
    simp only
    rw [and_val, ob_some]
    simp only
    rw [empty_val, ob_some]
    by_cases hsd : sd (b.getD f 0) = s
    · have hE0 : isE (fun i => ((btw c k).contains i && tk b i) && sdP b s i) = false := by
        cases hE : isE (fun i => ((btw c k).contains i && tk b i) && sdP b s i) with
        | false => rfl
        | true =>
          have := isE_iff.mp hE f hf
          rw [(hm f hf).mpr rfl] at this
          unfold sdP sds at this
          rw [decide_eq_true hs, decide_eq_true hsd] at this
          cases this
      rw [hE0, b_f]
      rw [first_val, ob_some, at_val, ob_some, at_in (by omega), tn]
      rw [fst_one hf hm, ob_some]
      simp only
      rw [without_val, ob_some]
      simp only
      rw [rayOf_val _ hc, ob_some]
      simp only
      rw [has_val, ob_some]
      have hh : ∀ g : Nat → Bool, has g (k : Int) = g k := by
        intro g; unfold has; rw [decide_eq_true (by omega), decide_eq_true (by omega), tn]; rfl
      rw [hh]
      cases hr1 : rch (b.getD c 0) c k (fun i => tk b i && !only f i) with
      | false =>
        rw [Bool.not_false, b_t, none' ?_]
        · rfl
        · cases hp : pinB b s k f c with
          | false => rfl
          | true =>
            rw [pin_iff] at hp
            rw [← hr1, rch_iff.mpr (.inr ⟨hp.2.1, ?_⟩)]
            intro i hi
            by_cases hif : i = f
            · subst hif; unfold only; simp
            · rw [hp.2.2.2.2.2 i hi hif]; rfl
      | true =>
        rw [Bool.not_true, b_f, ob_some, ob_some]
        simp only
        rw [rayOf_val _ hc, ob_some]
        simp only
        rw [has_val, ob_some, hh]
        cases hr2 : rch (b.getD c 0) c k (tk b) with
        | true =>
          rw [b_t, none' ?_]
          · rfl
          · cases hp : pinB b s k f c with
            | false => rfl
            | true =>
              rw [pin_iff] at hp
              rcases rch_iff.mp hr2 with hr | hr
              · rw [step_btw hr] at hmf; cases hmf.1
              · rw [hr.2 f hmf.1] at hmf; cases hmf.2
        | false =>
          have hn : ¬ (stepB (b.getD c 0) c k = true ∨ (slideB (b.getD c 0) c k = true ∧ ∀ i ∈ btw c k, tk b i = false)) := by
            rw [← rch_iff, hr2]; simp
          simp only [not_or] at hn
          have hp : pinB b s k f c = true := by
            rw [pin_iff]
            refine ⟨he, ((rch_iff.mp hr1).resolve_left hn.1).1, hmf.1, hmf.2, hsd, fun i hi hif => ?_⟩
            cases htk : tk b i with
            | false => rfl
            | true =>
              exact absurd ((hm i (btw_mem hc hk hi)).mp (by rw [Bool.and_eq_true, List.contains_iff_mem]; exact ⟨hi, htk⟩)) hif
          rw [b_f, with_val, ob_some, pinF_some hp hf]
          rfl
    · have hE0 : isE (fun i => ((btw c k).contains i && tk b i) && sdP b s i) = true := by
        rw [isE_iff]
        intro i hi
        cases hx : ((btw c k).contains i && tk b i) with
        | false => rfl
        | true =>
          rw [(hm i hi).mp hx]
          unfold sdP sds
          rw [decide_eq_false hsd]; simp
      rw [hE0, b_t, none' ?_]
      · rfl
      · cases hp : pinB b s k f c with
        | false => rfl
        | true => exact absurd (pin_iff.mp hp).2.2.2.2.1 hsd
  · rw [b_ne h1, pinF_none ?_]
    · rfl
    · intro f hf
      cases hp : pinB b s k f c with
      | false => rfl
      | true =>
        have := cnt_one.mpr ⟨f, hf, inm f hf hp⟩
        omega
theorem pin_add {b : List Int} {s : Int} (hs : s = 0 ∨ s = 1) {k : Nat} (hk : k < 81) {P : Nat → Bool} {es : List (List Int × List Int)} (hP : PinsI b s k P es) {c : Nat} (hc : c < 81) :
    PinsI b s k (fun i => P i || decide (i = c)) (match pinF b s k c with | none => es | some f => putM es [(f : Int)] (prS (wayP k c))) := by
  cases hp : pinF b s k c with
  | none =>
    unfold pinF at hp
    rw [List.find?_eq_none] at hp
    intro f hf
    have hno := hp f (List.mem_range.mpr hf)
    obtain ⟨h1, h2⟩ := hP f hf
    refine ⟨?_, ?_⟩
    · rw [h1]
      constructor
      · rintro ⟨c', a, a', a''⟩; exact ⟨c', a, by simp [a'], a''⟩
      · rintro ⟨c', a, a', a''⟩
        rw [Bool.or_eq_true, decide_eq_true_eq] at a'
        rcases a' with a' | rfl
        · exact ⟨c', a, a', a''⟩
        · exact absurd a'' hno
    · intro c' a a' a''
      rw [Bool.or_eq_true, decide_eq_true_eq] at a'
      rcases a' with a' | rfl
      · exact h2 c' a a' a''
      · exact absurd a'' hno
  | some g =>
    have hg := List.find?_some (show (List.range 81).find? (fun f => pinB b s k f c) = some g from hp)
    have hg' : g < 81 := List.mem_range.mp (List.mem_of_find?_eq_some (show (List.range 81).find? (fun f => pinB b s k f c) = some g from hp))
    intro f hf
    obtain ⟨h1, h2⟩ := hP f hf
    simp only
    rw [hasM_put, getM_put]
    by_cases hfg : f = g
    · subst hfg
      rw [decide_eq_true rfl, if_pos rfl]
      refine ⟨⟨fun _ => ⟨c, hc, by simp, hg⟩, fun _ => rfl⟩, fun c' a _ a'' => ?_⟩
      rw [pin_one hs hk hc a hg a'']
    · have hne : ¬ ([(f : Int)] = [(g : Int)]) := by
        intro e
        have := List.cons.inj e
        omega
      rw [decide_eq_false hne, if_neg hne, Bool.false_or]
      have hno : ¬ pinB b s k f c = true := fun hp' => hfg (pin_sq hp' hg)
      refine ⟨?_, ?_⟩
      · rw [h1]
        constructor
        · rintro ⟨c', a, a', a''⟩; exact ⟨c', a, by simp [a'], a''⟩
        · rintro ⟨c', a, a', a''⟩
          rw [Bool.or_eq_true, decide_eq_true_eq] at a'
          rcases a' with a' | rfl
          · exact ⟨c', a, a', a''⟩
          · exact absurd a'' hno
      · intro c' a a' a''
        rw [Bool.or_eq_true, decide_eq_true_eq] at a'
        rcases a' with a' | rfl
        · exact h2 c' a a' a''
        · exact absurd a'' hno
theorem pinsI_congr {b : List Int} {s : Int} {k : Nat} {P Q : Nat → Bool} {es : List (List Int × List Int)} (h : ∀ i, i < 81 → P i = Q i) (hP : PinsI b s k P es) : PinsI b s k Q es := by
  intro f hf
  obtain ⟨h1, h2⟩ := hP f hf
  refine ⟨?_, fun c hc hq => h2 c hc (by rw [h c hc]; exact hq)⟩
  rw [h1]
  constructor
  · rintro ⟨c, a, a', a''⟩; exact ⟨c, a, by rw [← h c a]; exact a', a''⟩
  · rintro ⟨c, a, a', a''⟩; exact ⟨c, a, by rw [h c a]; exact a', a''⟩
theorem pin_goes {b : List Int} (hcl : Clean b) (h : List Int) (S : Int) {s : Int} (hs : s = 0 ∨ s = 1) {k : Nat} (hk : k < 81) (x2 : Nat) (x3 x4 : Int) (x14 : Nat) (x15 : List Int) (N : Nat) (L : List Int) (hl : L.length ≤ 1000) (hL : ∀ q ∈ L, 0 ≤ q ∧ q < 81 ∧ enm b s q.toNat = true) : ∀ (n i : Nat), i + n = L.length → ∀ (P : Nat → Bool) (es : List (List Int × List Int)), PinsI b s k P es →
    ∃ es', (∀ F, attack_Pinned_v2l9 (F + n + 1) s k x2 x3 x4 L.length L.length i b h S (byOf b) (sidesOf b) es x14 x15 N L = some (s, (k : Int), x2, x3, x4, b, h, S, byOf b, sidesOf b, es', x14, x15)) ∧ PinsI b s k (fun c => P c || (L.drop i).contains (c : Int)) es' := by
  intro n
  induction n with
  | zero =>
    intro i hi P es hP
    refine ⟨es, fun F => ?_, ?_⟩
    · show attack_Pinned_v2l9s (attack_Pinned_v2l9 (F + 0)) _ _ _ _ _ _ _ _ _ _ _ _ _ _ _ _ _ _ = _
      unfold attack_Pinned_v2l9s
      rw [b_nlt (by omega)]
    · rw [List.drop_eq_nil_of_le (by omega)]
      exact pinsI_congr (fun i _ => by simp) hP
  | succ n ih =>
    intro i hi P es hP
    have hil : i < L.length := by omega
    obtain ⟨q0, q1, q2⟩ := hL L[i] (List.getElem_mem hil)
    obtain ⟨c, hc⟩ : ∃ c : Nat, L[i] = c := ⟨L[i].toNat, by omega⟩
    rw [hc] at q0 q1 q2
    obtain ⟨es', h1, h2⟩ := ih (i + 1) (by omega) _ _ (pin_add hs hk hP (c := c) (by omega))
    refine ⟨es', fun F => ?_, pinsI_congr (fun j _ => ?_) h2⟩
    · show attack_Pinned_v2l9s (attack_Pinned_v2l9 (F + n + 1)) _ _ _ _ _ _ _ _ _ _ _ _ _ _ _ _ _ _ = _
      rw [pin_step hcl h S hs hk x2 x3 x4 x14 x15 N L hil hl (by omega) hc q2]
      exact h1 F
    · rw [List.drop_eq_getElem_cons hil, List.contains_cons, hc, Bool.or_assoc]
      congr 2
      rw [Bool.eq_iff_iff, decide_eq_true_eq, beq_iff_eq]
      omega
def kindsP : List Int := [2, 6, 7, 14, 15]
theorem kind_goes {b : List Int} (hcl : Clean b) (h : List Int) (S : Int) {s : Int} (hs : s = 0 ∨ s = 1) {k : Nat} (hk : k < 81) : ∀ (n i : Nat), i + n = 5 → ∀ (P : Nat → Bool) (es : List (List Int × List Int)), PinsI b s k P es →
    ∃ es', (∀ F, attack_Pinned_v2l6 (F + n + 1) s k 5 5 i b h S (byOf b) (sidesOf b) es 5 kindsP = some (b, h, S, byOf b, sidesOf b, es')) ∧ PinsI b s k (fun c => P c || (kindsP.drop i).any fun x => pcs b (pc (1 - s) x) c) es' := by
  intro n
  induction n with
  | zero =>
    intro i hi P es hP
    refine ⟨es, fun F => ?_, ?_⟩
    · show attack_Pinned_v2l6s (attack_Pinned_v2l6 (F + 0)) _ _ _ _ _ _ _ _ _ _ _ _ _ = _
      unfold attack_Pinned_v2l6s
      rw [b_nlt (by omega)]
    · rw [List.drop_eq_nil_of_le (by show 5 ≤ i; omega)]
      exact pinsI_congr (fun i _ => by simp) hP
  | succ n ih =>
    intro i hi P es hP
    have hil : i < kindsP.length := by show i < 5; omega
    obtain ⟨x, hx, hget, hdr⟩ : ∃ x, (x = 2 ∨ x = 6 ∨ x = 7 ∨ x = 14 ∨ x = 15) ∧ kindsP.getD i 0 = x ∧ kindsP.drop i = x :: kindsP.drop (i + 1) := by
      have : ∀ j : Fin 5, (kindsP.getD j.val 0 = 2 ∨ kindsP.getD j.val 0 = 6 ∨ kindsP.getD j.val 0 = 7 ∨ kindsP.getD j.val 0 = 14 ∨ kindsP.getD j.val 0 = 15) ∧ kindsP.drop j.val = kindsP.getD j.val 0 :: kindsP.drop (j.val + 1) := by decide
      have := this ⟨i, hil⟩
      exact ⟨kindsP.getD i 0, this.1, rfl, this.2⟩
    obtain ⟨es1, h1, h2⟩ := pin_goes hcl h S hs hk 5 5 i 5 kindsP (sq (pcs b (pc (1 - s) x))).length (sq (pcs b (pc (1 - s) x))) (by have := sq_len (pcs b (pc (1 - s) x)); omega) (by
      intro q hq
      obtain ⟨a, a', a''⟩ := sq_mem hq
      refine ⟨a, a', ?_⟩
      have := of_decide_eq_true a''
      unfold enm
      rw [this.2, (sd_pc (s := 1 - s) (by omega) (k := x) (by omega) (by omega) (by omega)).1]
      simp) (sq (pcs b (pc (1 - s) x))).length 0 (by omega) P es hP
    obtain ⟨es', h3, h4⟩ := ih (i + 1) (by omega) _ _ h2
    obtain ⟨g, hg⟩ := many_eq (sq (pcs b (pc (1 - s) x))).length (by have := sq_len (pcs b (pc (1 - s) x)); omega)
    refine ⟨es', fun F => ?_, pinsI_congr (fun j hj => ?_) h4⟩
    · show attack_Pinned_v2l6s (attack_Pinned_v2l6 (F + n + 1)) _ _ _ _ _ _ _ _ _ _ _ _ _ = _
      unfold attack_Pinned_v2l6s
      rw [b_lt (by omega), b_in (by omega) (by omega), tn, hget, w_s (n := 1 - s) (by omega) (by omega), ofB_val, ob_some]
      simp only
      rw [squares_val, ob_some]
      simp only
      have := h1 g
      rw [← hg] at this
      rw [show attack_Pinned_v2l9 many s k 5 5 i (sq (pcs b (pc (1 - s) x))).length (Int.ofNat (sq (pcs b (pc (1 - s) x))).length) 0 b h S (byOf b) (sidesOf b) es 5 kindsP (sq (pcs b (pc (1 - s) x))).length (sq (pcs b (pc (1 - s) x))) = _ from this, ob_some]
      simp only
      rw [w_s (n := (i : Int) + 1) (by omega) (by omega)]
      exact h3 F
    · rw [hdr, List.any_cons, List.drop_zero, ← Bool.or_assoc]
      congr 2
      cases hp : pcs b (pc (1 - s) x) j with
      | true => rw [List.contains_iff_mem.mpr (mem_sq hj hp)]
      | false =>
        cases hcn : (sq (pcs b (pc (1 - s) x))).contains (j : Int) with
        | false => rfl
        | true =>
          have := (sq_mem (List.contains_iff_mem.mp hcn)).2.2
          rw [tn, hp] at this
          cases this
theorem slide_kind {b : List Int} {s : Int} (_hs : s = 0 ∨ s = 1) {c k : Nat} (he : enm b s c = true) (h : slideB (b.getD c 0) c k = true) : (kindsP.any fun x => pcs b (pc (1 - s) x) c) = true := by
  have he := of_decide_eq_true he
  have h := of_decide_eq_true h
  have hk : kd (b.getD c 0) = 2 ∨ kd (b.getD c 0) = 6 ∨ kd (b.getD c 0) = 7 ∨ kd (b.getD c 0) = 14 ∨ kd (b.getD c 0) = 15 := by
    unfold slK at h; omega
  have hx := pc_of (x := b.getD c 0) (by omega)
  rw [List.any_eq_true]
  refine ⟨kd (b.getD c 0), ?_, ?_⟩
  · unfold kindsP
    rcases hk with h | h | h | h | h <;> rw [h] <;> simp
  · unfold pcs
    rw [decide_eq_true_eq, ← he, ← hx]
    refine ⟨fun h0 => ?_, rfl⟩
    rw [h0, kd_zero] at hk
    omega
theorem pinned_val {b : List Int} (hcl : Clean b) (h : List Int) (S : Int) {s : Int} (hs : s = 0 ∨ s = 1) : ∃ es, attack_Pinned_v2 s b h S (byOf b) (sidesOf b) = some es ∧
    (kg b s < 0 → es = []) ∧ (0 ≤ kg b s → PinsI b s (kg b s).toNat (fun c => enm b s c && (kindsP.any fun x => pcs b (pc (1 - s) x) c)) es) := by
  have hr := fst_range (pcs b (pc s 8))
  unfold attack_Pinned_v2
  rw [kingB_val, show fst (pcs b (pc s 8)) = kg b s from rfl, ob_some]
  by_cases hk : kg b s < 0
  · rw [b_lt hk]
    exact ⟨[], rfl, fun _ => rfl, fun h => by omega⟩
  · rw [b_nlt hk]
    have hk1 : kg b s < 81 := hr.2
    obtain ⟨k, hkk⟩ : ∃ k : Nat, kg b s = k := ⟨(kg b s).toNat, by omega⟩
    rw [hkk]
    have h0 : PinsI b s k (fun _ => false) [] := by
      intro f hf
      exact ⟨⟨fun h => (by cases h), fun ⟨_, _, h, _⟩ => (by cases h)⟩, fun _ _ h => (by cases h)⟩
    obtain ⟨es, h1, h2⟩ := kind_goes hcl h S hs (k := k) (by omega) 5 0 rfl _ [] h0
    obtain ⟨g, hg⟩ := many_eq 5 (by omega)
    have := h1 g
    rw [← hg] at this
    refine ⟨es, ?_, fun h => by omega, fun _ => ?_⟩
    · rw [show attack_Pinned_v2l6 many s k 5 5 0 b h S (byOf b) (sidesOf b) [] 5 [2, 6, 7, 14, 15] = _ from this, ob_some]
    · rw [tn]
      refine pinsI_congr (fun i _ => ?_) h2
      rw [List.drop_zero, Bool.false_or]
      cases ha : (kindsP.any fun x => pcs b (pc (1 - s) x) i) with
      | false => simp
      | true =>
        rw [List.any_eq_true] at ha
        obtain ⟨x, hx, hp⟩ := ha
        have := of_decide_eq_true hp
        unfold kindsP at hx
        have hx' : x = 2 ∨ x = 6 ∨ x = 7 ∨ x = 14 ∨ x = 15 := by simpa using hx
        unfold enm
        rw [this.2, (sd_pc (s := 1 - s) (by omega) (k := x) (by omega) (by omega) (by omega)).1]
        simp
end Go.Kk.Pl
namespace Go.Kk.Pl
def laid (b : List Int) (s f d : Int) (p : Bool) : Int := if d ≠ 0 then 16 * s + d else if p = true then 16 * s + up_ (kd (at_ b f)) else at_ b f
def was (b : List Int) (s f d : Int) : Int := if d ≠ 0 then 16 * s + d else at_ b f
end Go.Kk.Pl
namespace Go.Kk.Pl
end Go.Kk.Pl
namespace Go.Kk.Pl
end Go.Kk.Pl
namespace Go.Kk.Pl
def KS (b : List Int) (s : Int) (k : Nat) : Prop := k < 81 ∧ ∀ i, i < 81 → (b.getD i 0 = pc s 8 ↔ i = k)
theorem pc8 {s : Int} (hs : s = 0 ∨ s = 1) : pc s 8 = 16 * s + 8 := pc_ok hs (by omega) (by omega) (by omega)
theorem KS.kg {b : List Int} {s : Int} {k : Nat} (hs : s = 0 ∨ s = 1) (h : KS b s k) : kg b s = k := by
  apply fst_one h.1
  intro i hi
  unfold pcs
  rw [decide_eq_true_eq, h.2 i hi, pc8 hs]
  exact ⟨fun h => h.2, fun h => ⟨by omega, h⟩⟩
theorem ks_of {b h : List Int} {s' : Int} (hz : chkS b h s' = 0) {s : Int} (hs : s = 0 ∨ s = 1) : ∃ k, KS b s k := by
  have hn : nP b 8 = 1 ∧ nP b 24 = 1 := by
    unfold chkS at hz
    split at hz
    · omega
    · split at hz
      · omega
      · split at hz
        · omega
        · split at hz
          · omega
          · rename_i h; simpa using h
  have : nP b (pc s 8) = 1 := by
    rw [pc8 hs]
    rcases hs with rfl | rfl
    · exact hn.1
    · exact hn.2
  obtain ⟨k, hk, h⟩ := cnt_one.mp (show cntS (fun i => b.getD i 0 == pc s 8) = 1 from this)
  exact ⟨k, hk, fun i hi => by rw [← h i hi, beq_iff_eq]⟩
theorem KS.sd {b : List Int} {s : Int} {k : Nat} (hs : s = 0 ∨ s = 1) (h : KS b s k) : sd (b.getD k 0) = s ∧ kd (b.getD k 0) = 8 := by
  rw [(h.2 k h.1).mpr rfl]
  exact sd_pc hs (by omega) (by omega) (by omega)
theorem chs_atk {b : List Int} {s : Int} (hs : s = 0 ∨ s = 1) {k : Nat} (hk : kg b s = k) (h81 : k < 81) (c : Nat) : chs b s c = atk b s k c := by
  unfold chs onS atk enm
  rw [hk, decide_eq_true (by omega), decide_eq_true (by omega), tn]
  rfl
def ontoS (b : List Int) (s : Int) (t : Nat) : Bool := (List.range 81).all fun c => !chs b s c || wayP (kg b s).toNat c t
def pinOK (b : List Int) (s : Int) (f t : Nat) : Bool := (List.range 81).all fun c => !pinB b s (kg b s).toNat f c || wayP (kg b s).toNat c t
def stB (b : List Int) (s : Int) (f t : Nat) : Bool := if (f : Int) = kg b s then isE (onS b t (1 - s) (fun i => tk b i && !only f i)) else ontoS b s t && pinOK b s f t
theorem wayP_iff {k c t : Nat} : wayP k c t = true ↔ t = c ∨ t ∈ btw c k := by
  unfold wayP only
  rw [Bool.or_eq_true, List.contains_iff_mem, decide_eq_true_eq]
  constructor
  · rintro (h | h)
    · exact .inr h
    · exact .inl (by omega)
  · rintro (h | h)
    · exact .inr (by omega)
    · exact .inl h
end Go.Kk.Pl
namespace Go.Kk.Pl
def T_ (_ : Nat) : Bool := true
theorem pinned_ks {b : List Int} (hcl : Clean b) (h : List Int) (S : Int) {s : Int} (hs : s = 0 ∨ s = 1) {k : Nat} (hk : KS b s k) : ∃ es, attack_Pinned_v2 s b h S (byOf b) (sidesOf b) = some es ∧ PinsI b s k (fun _ => true) es := by
  obtain ⟨es, h1, _, h3⟩ := pinned_val hcl h S hs
  refine ⟨es, h1, ?_⟩
  have hkg := hk.kg hs
  have h3 := h3 (by omega)
  rw [hkg, tn] at h3
  intro f hf
  obtain ⟨a, a'⟩ := h3 f hf
  have hP : ∀ c, pinB b s k f c = true → (enm b s c && (kindsP.any fun x => pcs b (pc (1 - s) x) c)) = true := by
    intro c hp
    have := pin_iff.mp hp
    rw [this.1, slide_kind hs this.1 this.2.1]; rfl
  refine ⟨?_, fun c hc _ hp => a' c hc (hP c hp) hp⟩
  rw [a]
  constructor
  · rintro ⟨c, x, _, x'⟩; exact ⟨c, x, rfl, x'⟩
  · rintro ⟨c, x, _, x'⟩; exact ⟨c, x, hP c x', x'⟩
def m0 (m : List Int) : Int := m.getD 0 0
def m1 (m : List Int) : Int := m.getD 1 0
def m2 (m : List Int) : Int := m.getD 2 0
def m3 (m : List Int) : Bool := m.getD 3 0 != 0
def g1 (b : List Int) (s : Int) (m : List Int) : Bool := stB b s (m0 m).toNat (m1 m).toNat
def pb (b : List Int) (s : Int) (q : Int) : List Int := put b q (16 * s + 1)
def pmS (b : List Int) (s : Int) (q : Int) : Bool := decide (0 ≤ q ∧ q < 81) && (decide (at_ b q = 0) && (chs (pb b s q) (1 - s) q.toNat && (mvsB (pb b s q) (1 - s) T_).all fun m => !g1 (pb b s q) (1 - s) m))
def g2 (b : List Int) (s : Int) (m : List Int) : Bool := !(decide (m2 m = 1) && pmS b s (m1 m))
end Go.Kk.Pl
namespace Go.Kk.Pl
section
variable {b : List Int} {s : Int} {k q : Nat}
theorem gone_on (hl : b.length = 81) (hs : s = 0 ∨ s = 1) (hk : k < 81) (hq : q < 81) (hsd : sd (b.getD q 0) = s) {c : Nat} (_hc : c < 81) :
    (onS (b.set q 0) k (1 - s) (tk (b.set q 0)) c && !atk b s k c) = pinB b s k q c := by
  have hg : ∀ i, (b.set q 0).getD i 0 = if i = q then 0 else b.getD i 0 := fun i => getD_set (by omega) 0 i
  have htk : ∀ i, tk (b.set q 0) i = (!decide (i = q) && tk b i) := by
    intro i
    unfold tk
    rw [hg]
    by_cases h : i = q <;> simp [h]
  have htq : tk b q = true := by
    unfold tk
    rw [decide_eq_true_eq]
    intro h0
    rw [h0, sd_zero] at hsd
    omega
  unfold onS
  rw [decide_eq_true (by omega), decide_eq_true (p := 1 - s = 0 ∨ 1 - s = 1) (by omega), tn, Bool.true_and, Bool.true_and, hg]
  by_cases hcq : c = q
  · rw [if_pos hcq, sd_zero, decide_eq_false (p := (-1 : Int) = 1 - s) (by omega), Bool.false_and, Bool.false_and]
    symm
    cases hp : pinB b s k q c with
    | false => rfl
    | true =>
      have := of_decide_eq_true (pin_iff.mp hp).1
      rw [hcq, hsd] at this
      omega
  · rw [if_neg hcq, Bool.eq_iff_iff, pin_iff]
    show ((enm b s c && rch (b.getD c 0) c k (tk (b.set q 0))) && !(enm b s c && rch (b.getD c 0) c k (tk b))) = true ↔ _
    constructor
    · intro h
      rw [Bool.and_eq_true, Bool.and_eq_true] at h
      obtain ⟨⟨h1, h2⟩, h3⟩ := h
      rw [h1, Bool.true_and, Bool.not_eq_true'] at h3
      have hn : ¬ (stepB (b.getD c 0) c k = true ∨ (slideB (b.getD c 0) c k = true ∧ ∀ i ∈ btw c k, tk b i = false)) := by
        rw [← rch_iff, h3]; simp
      simp only [not_or] at hn
      have h4 := (rch_iff.mp h2).resolve_left hn.1
      have h5 : ∀ i ∈ btw c k, i ≠ q → tk b i = false := by
        intro i hi hiq
        have := h4.2 i hi
        rw [htk, decide_eq_false hiq] at this
        simpa using this
      refine ⟨h1, h4.1, ?_, htq, hsd, h5⟩
      apply Classical.byContradiction
      intro hm
      exact hn.2 ⟨h4.1, fun i hi => h5 i hi (fun e => hm (e ▸ hi))⟩
    · rintro ⟨h1, h2, h3, h4, _, h6⟩
      have r1 : rch (b.getD c 0) c k (tk (b.set q 0)) = true := by
        rw [rch_iff]
        refine .inr ⟨h2, fun i hi => ?_⟩
        rw [htk]
        by_cases hiq : i = q
        · simp [hiq]
        · rw [h6 i hi hiq]; simp
      have r2 : rch (b.getD c 0) c k (tk b) = false := by
        cases hr : rch (b.getD c 0) c k (tk b) with
        | false => rfl
        | true =>
          rcases rch_iff.mp hr with hr | hr
          · rw [step_btw hr] at h3; cases h3
          · rw [hr.2 q h3] at h4; cases h4
      rw [h1, r1, r2]; rfl
theorem moved_on (hl : b.length = 81) (hs : s = 0 ∨ s = 1) (hk : k < 81) (hq : q < 81) {to : Nat} (hto : to < 81) (hne : to ≠ q) {c : Nat} (_hc : c < 81) (hp : pinB b s k q c = true) :
    onS ((b.set q 0).set to (b.getD q 0)) k (1 - s) (tk ((b.set q 0).set to (b.getD q 0))) c = !wayP k c to := by
  have hg : ∀ i, ((b.set q 0).set to (b.getD q 0)).getD i 0 = if i = to then b.getD q 0 else if i = q then 0 else b.getD i 0 := by
    intro i
    rw [getD_set (by simp; omega) _ i, getD_set (by omega) 0 i]
  have hpi := pin_iff.mp hp
  have hcq : c ≠ q := by
    rintro rfl
    have := of_decide_eq_true hpi.1
    rw [hpi.2.2.2.2.1] at this
    omega
  have htk : ∀ i, i ≠ to → tk ((b.set q 0).set to (b.getD q 0)) i = (!decide (i = q) && tk b i) := by
    intro i hi
    unfold tk
    rw [hg, if_neg hi]
    by_cases h : i = q <;> simp [h]
  unfold onS
  rw [decide_eq_true (by omega), decide_eq_true (p := 1 - s = 0 ∨ 1 - s = 1) (by omega), tn, Bool.true_and, Bool.true_and, hg]
  by_cases hct : c = to
  · rw [if_pos hct, hpi.2.2.2.2.1, decide_eq_false (p := s = 1 - s) (by omega), Bool.false_and, wayP_iff.mpr (.inl hct.symm)]
    rfl
  · rw [if_neg hct, if_neg hcq, show decide (sd (b.getD c 0) = 1 - s) = true from hpi.1, Bool.true_and]
    have hst : stepB (b.getD c 0) c k = false := by
      cases h : stepB (b.getD c 0) c k with
      | false => rfl
      | true => rw [step_btw h] at hpi; cases hpi.2.2.1
    cases hw : wayP k c to with
    | true =>
      have hm := (wayP_iff.mp hw).resolve_left (fun e => hct e.symm)
      cases hr : rch (b.getD c 0) c k (tk ((b.set q 0).set to (b.getD q 0))) with
      | false => rfl
      | true =>
        rcases rch_iff.mp hr with hr | hr
        · rw [hr] at hst; cases hst
        · have := hr.2 to hm
          unfold tk at this
          rw [hg, if_pos rfl, decide_eq_false_iff_not] at this
          have h4 := of_decide_eq_true hpi.2.2.2.1
          exact absurd h4 this
    | false =>
      show _ = true
      rw [rch_iff]
      refine .inr ⟨hpi.2.1, fun i hi => ?_⟩
      have : i ≠ to := by
        rintro rfl
        rw [wayP_iff.mpr (.inr hi)] at hw; cases hw
      rw [htk i this]
      by_cases hiq : i = q
      · simp [hiq]
      · rw [hpi.2.2.2.2.2 i hi hiq]; simp
end
theorem to_goes {b : List Int} (hl : b.length = 81) (h : List Int) (S : Int) {s : Int} (hs : s = 0 ∨ s = 1) {k q c : Nat} (hk : k < 81) (hq : q < 81) (hc : c < 81) (hp : pinB b s k q c = true) {M W : Nat → Bool} (hM : ∀ i, i < 81 → (M i = true ↔ i = c)) (hW : ∀ i, i < 81 → W i = wayP k c i) (es : List (List Int × List Int)) (u v : Int) :
    ∀ (n i : Nat), i + n = 81 → ∀ F, law08_AttackPinsl25 (F + n + 1) s k q (b.getD q 0) i b h S es u v (b.set q 0) h S (sLo M) (sHi M) (sLo W) (sHi W) = some (.inr (s, (k : Int), (q : Int), b, h, S, es, u, v)) := by
  have hs' : 1 - s = 0 ∨ 1 - s = 1 := by omega
  intro n
  induction n with
  | zero =>
    intro i hi F
    show law08_AttackPinsl25s (law08_AttackPinsl25 (F + 0)) _ _ _ _ _ _ _ _ _ _ _ _ _ _ _ _ _ _ = _
    unfold law08_AttackPinsl25s
    rw [b_nlt (by omega)]
  | succ n ih =>
    intro i hi F
    show law08_AttackPinsl25s (law08_AttackPinsl25 (F + n + 1)) _ _ _ _ _ _ _ _ _ _ _ _ _ _ _ _ _ _ = _
    unfold law08_AttackPinsl25s
    have hh : ∀ g : Nat → Bool, has g (i : Int) = g i := by
      intro g; unfold has; rw [decide_eq_true (by omega), decide_eq_true (by omega), tn]; rfl
    rw [b_lt (by omega), b_in (by omega) (by omega), tn, w_s (n := (i : Int) + 1) (by omega) (by omega), has_val, ob_some, hh, w_s (n := 1 - s) (by omega) (by omega)]
    have rest := ih (i + 1) (by omega) F
    have body : br (inB (i : Int) 81)
       (ob (ref05_Taken (List.set (b.set q 0) i (b.getD q 0)) h S) fun a54 =>
       ob (ref08_On (List.set (b.set q 0) i (b.getD q 0)) h S k (1 - s) a54) fun (a55_0, a55_1, a55_2) =>
       ob (set_Of a55_0 a55_1 a55_2) fun (a58_0, a58_1) =>
       ob (set_Has (sLo W) (sHi W) i) fun a60 =>
       ob (set_And a58_0 a58_1 (sLo M) (sHi M)) fun (a61_0, a61_1) =>
       ob (set_Empty a61_0 a61_1) fun a63 =>
       br (!a60 == a63)
        (br ((i : Int) != q)
         (some (Sum.inl (s, false, (k : Int), (q : Int), b, h, S, es, u, v)))
         (law08_AttackPinsl25 (F + n + 1) s k q (b.getD q 0) ((i : Int) + 1) b h S es u v (b.set q 0) h S (sLo M) (sHi M) (sLo W) (sHi W)))
        (law08_AttackPinsl25 (F + n + 1) s k q (b.getD q 0) ((i : Int) + 1) b h S es u v (b.set q 0) h S (sLo M) (sHi M) (sLo W) (sHi W)))
       (none) = some (.inr (s, (k : Int), (q : Int), b, h, S, es, u, v)) := by
      rw [b_in (by omega) (by omega), taken_val, ob_some, ron_val _ _ _ (1 - s) hs', ob_some]
      simp only
      rw [of_sq, ob_some]
      simp only
      rw [has_val, ob_some, hh, and_val, ob_some]
      simp only
      rw [empty_val, ob_some]
      by_cases hiq : i = q
      · rw [b_nne (show ((i : Nat) : Int) = (q : Int) by omega)]
        cases (!W i == isE fun j => onS ((b.set q 0).set i (b.getD q 0)) k (1 - s) (tk ((b.set q 0).set i (b.getD q 0))) j && M j) with
        | true => exact rest
        | false => exact rest
      · have : (!W i == isE fun j => onS ((b.set q 0).set i (b.getD q 0)) k (1 - s) (tk ((b.set q 0).set i (b.getD q 0))) j && M j) = false := by
          have hon := moved_on hl hs hk hq (to := i) (by omega) hiq hc hp
          have : (isE fun j => onS ((b.set q 0).set i (b.getD q 0)) k (1 - s) (tk ((b.set q 0).set i (b.getD q 0))) j && M j) = wayP k c i := by
            cases hw : wayP k c i with
            | true =>
              rw [isE_iff]
              intro j hj
              cases hMj : M j with
              | false => simp
              | true =>
                rw [(hM j hj).mp hMj, hon, hw]; rfl
            | false =>
              cases hE : (isE fun j => onS ((b.set q 0).set i (b.getD q 0)) k (1 - s) (tk ((b.set q 0).set i (b.getD q 0))) j && M j) with
              | false => rfl
              | true =>
                have := isE_iff.mp hE c hc
                rw [hon, hw, (hM c hc).mpr rfl] at this
                cases this
          rw [this, hW i (by omega)]
          cases wayP k c i <;> rfl
        rw [this, b_f]
        exact rest
    by_cases h0 : b.getD i 0 = 0
    · rw [b_nne h0]
      exact body
    · rw [b_ne h0]
      cases hMi : M i with
      | false => rw [Bool.not_false, b_t]; exact rest
      | true => rw [Bool.not_true, b_f]; exact body
theorem pins_goes {b : List Int} (hcl : Clean b) (h : List Int) (S : Int) {s : Int} (hs : s = 0 ∨ s = 1) {k : Nat} (hk : KS b s k) {es : List (List Int × List Int)} (hp : PinsI b s k (fun _ => true) es) :
    ∀ (n i : Nat), i + n = 81 → ∀ F, law08_AttackPinsl10 (F + n + 1) s k i b h S es (sLo (chs b s)) (sHi (chs b s)) = some (.inr ()) := by
  have ha : ∀ c, chs b s c = atk b s k c := chs_atk hs (hk.kg hs) hk.1
  have hs' : 1 - s = 0 ∨ 1 - s = 1 := by omega
  intro n
  induction n with
  | zero =>
    intro i hi F
    show law08_AttackPinsl10s (law08_AttackPinsl10 (F + 0)) _ _ _ _ _ _ _ _ _ = _
    unfold law08_AttackPinsl10s
    rw [b_nlt (by omega)]
  | succ n ih =>
    intro i hi F
    show law08_AttackPinsl10s (law08_AttackPinsl10 (F + n + 1)) _ _ _ _ _ _ _ _ _ = _
    unfold law08_AttackPinsl10s
    have rest := ih (i + 1) (by omega) F
    obtain ⟨p1, p2⟩ := hp i (by omega)
    have nohas : (∀ c, c < 81 → pinB b s k i c = false) → hasM es [(i : Int)] = false := by
      intro hno
      cases hM : hasM es [(i : Int)] with
      | false => rfl
      | true =>
        obtain ⟨c, hc, _, hpin⟩ := p1.mp hM
        rw [hno c hc] at hpin; cases hpin
    rw [b_lt (by omega), b_in (by omega) (by omega), tn, c_8, refSide_val, ob_some, w_s (n := (i : Int) + 1) (by omega) (by omega), w_s (n := 1 - s) (by omega) (by omega)]
    by_cases hsd : sd (b.getD i 0) = s
    · rw [b_nne hsd]
      by_cases hik : (i : Int) = k
      · rw [b_eq hik, nohas (fun c hc => by
          cases hpin : pinB b s k i c with
          | false => rfl
          | true => exact absurd (by omega : i = k) (btw_way hk.1 hc (pin_iff.mp hpin).2.2.1).2.1), b_f]
        exact rest
      · rw [b_neq hik, b_in (by omega) (by omega), taken_val, ob_some, ron_val _ _ _ (1 - s) hs', ob_some]
        simp only
        rw [of_sq, ob_some]
        simp only
        rw [minus_val, ob_some]
        simp only
        rw [empty_val, ob_some, count_set]
        simp only [ob_some]
        have hm : ∀ c, c < 81 → (onS (b.set i 0) k (1 - s) (tk (b.set i 0)) c && !chs b s c) = pinB b s k i c := by
          intro c hc
          rw [ha c]
          exact gone_on hcl.1 hs hk.1 (by omega) hsd hc
        cases hM : hasM es [(i : Int)] with
        | false =>
          have hE : (isE fun c => onS (b.set i 0) k (1 - s) (tk (b.set i 0)) c && !chs b s c) = true := by
            rw [isE_iff]
            intro c hc
            rw [hm c hc]
            cases hpin : pinB b s k i c with
            | false => rfl
            | true => rw [p1.mpr ⟨c, hc, rfl, hpin⟩] at hM; cases hM
          have hC : cntS (fun c => onS (b.set i 0) k (1 - s) (tk (b.set i 0)) c && !chs b s c) = 0 := by
            rw [cnt_isE, decide_eq_true_eq] at hE; exact hE
          rw [hE, hC]
          exact rest
        | true =>
          obtain ⟨c, hc, _, hpin⟩ := p1.mp hM
          have hM1 : ∀ j, j < 81 → ((onS (b.set i 0) k (1 - s) (tk (b.set i 0)) j && !chs b s j) = true ↔ j = c) := by
            intro j hj
            rw [hm j hj]
            exact ⟨fun hp' => pin_one hs hk.1 hj hc hp' hpin, fun e => e ▸ hpin⟩
          have hE : (isE fun c => onS (b.set i 0) k (1 - s) (tk (b.set i 0)) c && !chs b s c) = false := by
            cases hE : isE fun c => onS (b.set i 0) k (1 - s) (tk (b.set i 0)) c && !chs b s c with
            | false => rfl
            | true =>
              have := isE_iff.mp hE c hc
              rw [(hM1 c hc).mpr rfl] at this
              cases this
          have hC : cntS (fun c => onS (b.set i 0) k (1 - s) (tk (b.set i 0)) c && !chs b s c) = 1 := cnt_one.mpr ⟨c, hc, hM1⟩
          rw [hE, hC, p2 c hc rfl hpin]
          obtain ⟨g, hg⟩ := many_eq 81 (by omega)
          have := to_goes hcl.1 h S hs hk.1 (q := i) (by omega) hc hpin hM1 (W := wayP k c) (fun _ _ => rfl) es (sLo (chs b s)) (sHi (chs b s)) 81 0 (by omega) g
          rw [← hg] at this
          show (ob (law08_AttackPinsl25 many s k i (b.getD i 0) 0 b h S es (sLo (chs b s)) (sHi (chs b s)) (b.set i 0) h S (sLo _) (sHi _) (sLo (wayP k c)) (sHi (wayP k c))) _) = _
          rw [show law08_AttackPinsl25 many s k i (b.getD i 0) 0 b h S es (sLo (chs b s)) (sHi (chs b s)) (b.set i 0) h S (sLo fun c => onS (b.set i 0) k (1 - s) (tk (b.set i 0)) c && !chs b s c) (sHi fun c => onS (b.set i 0) k (1 - s) (tk (b.set i 0)) c && !chs b s c) (sLo (wayP k c)) (sHi (wayP k c)) = _ from this, ob_some, sw_inr]
          simp only
          rw [w_s (n := (i : Int) + 1) (by omega) (by omega)]
          exact rest
    · rw [b_ne hsd, nohas (fun c hc => by
        cases hpin : pinB b s k i c with
        | false => rfl
        | true => exact absurd (pin_iff.mp hpin).2.2.2.2.1 hsd), b_f]
      exact rest
theorem attackPins_true {b h : List Int} (S s : Int) (hl : b.length = 81) (hf : Fits8 h) : law08_AttackPins b h S s = some true := by
  unfold law08_AttackPins
  rw [attacks_true, ob_some]
  simp only [Bool.not_true, b_f]
  rw [refCheck_val hl hf, ob_some]
  by_cases hz : chkS b h S = 0
  · obtain ⟨hc, _⟩ := chk_zero_clean hl hz
    rw [b_nne hz]
    have main : s = 0 ∨ s = 1 → (ob (board_New b h S) fun (a6_0, a6_1, a6_2, a6_3, a6_4) =>
      ob (attack_Pinned_v2 s a6_0 a6_1 a6_2 a6_3 a6_4) fun a11 =>
      ob (ref08_King b h S s) fun a12 =>
      ob (attack_Checkers s a6_0 a6_1 a6_2 a6_3 a6_4) fun (a13_0, a13_1) =>
      ob (law08_AttackPinsl10 many s a12 0 b h S a11 a13_0 a13_1) fun t15_2 =>
      sw t15_2 (fun a15 =>
       some (a15))
       (fun _ =>
       some (true))) = some true := by
      intro hs
      obtain ⟨k, hk⟩ := ks_of hz hs
      obtain ⟨es, he, hp⟩ := pinned_ks hc h S hs hk
      rw [new_full hl, cl_id hc, ob_some]
      simp only
      rw [he, ob_some, rking_val b h S hs, hk.kg hs, ob_some, checkers_val hc h S (by omega), ob_some]
      simp only
      obtain ⟨g, hg⟩ := many_eq 81 (by omega)
      have := pins_goes hc h S hs hk hp 81 0 (by omega) g
      rw [← hg] at this
      rw [show law08_AttackPinsl10 many s k 0 b h S es (sLo (chs b s)) (sHi (chs b s)) = _ from this, ob_some]
      rfl
    by_cases h0 : s = 0
    · rw [b_nne h0]; exact main (.inl h0)
    · rw [b_ne h0]
      by_cases h1 : s = 1
      · rw [b_nne h1]; exact main (.inr h1)
      · rw [b_ne h1]
  · rw [b_ne hz]
end Go.Kk.Pl
