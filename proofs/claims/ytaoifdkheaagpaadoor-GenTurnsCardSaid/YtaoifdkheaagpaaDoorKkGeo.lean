/-
  The ways of pieces, plainly: steps, ways on which they slide, what lies between.
-/
import Derived.Test.YtaoifdkheaagpaaDoorKkAcc
namespace Go.Kk.Pl

/-! ### where squares lie -/

def fl (q : Nat) : Int := ((q / 9 : Nat) : Int)
def rn (q : Nat) : Int := ((q % 9 : Nat) : Int)
/-- How many files, and ranks, a square lies on from another one; ranks ahead, for a side. -/
def df (a c : Nat) : Int := fl c - fl a
def dr (a c : Nat) : Int := rn c - rn a
def upS (x : Int) (a c : Nat) : Int := if sd x = 1 then dr a c else - dr a c

theorem geo {a : Nat} (ha : a < 81) : 0 ≤ fl a ∧ fl a ≤ 8 ∧ 0 ≤ rn a ∧ rn a ≤ 8 ∧ (a : Int) = 9 * fl a + rn a := by unfold fl rn; omega
theorem geo_eq {a c : Nat} (h : df a c = 0) (h' : dr a c = 0) : a = c := by unfold df dr fl rn at *; omega
theorem geo_self (a : Nat) : df a a = 0 ∧ dr a a = 0 := by unfold df dr; omega

/-- The square that is so many files and ranks on; -1: there is none. -/
def fromS (dx dy : Int) (a : Nat) : Int := if 0 ≤ fl a + dx ∧ fl a + dx ≤ 8 ∧ 0 ≤ rn a + dy ∧ rn a + dy ≤ 8 then 9 * (fl a + dx) + (rn a + dy) else -1

theorem tdiv9 (q : Nat) : Int.tdiv (q : Int) 9 = fl q := by unfold fl; rw [Int.tdiv_eq_ediv_of_nonneg (by omega)]; omega
theorem tmod9' (q : Nat) : Int.tmod (q : Int) 9 = rn q := tmod9 q
theorem square_val (f r : Int) : set_Square f r = some (if 0 ≤ f ∧ f ≤ 8 ∧ 0 ≤ r ∧ r ≤ 8 then 9 * f + r else -1) := by
  unfold set_Square
  by_cases h1 : f < 0
  · rw [b_lt h1, if_neg (by omega)]
  by_cases h2 : f > 8
  · rw [b_nlt h1, b_gt h2, if_neg (by omega)]
  by_cases h3 : r < 0
  · rw [b_nlt h1, b_ngt h2, b_lt h3, if_neg (by omega)]
  by_cases h4 : r > 8
  · rw [b_nlt h1, b_ngt h2, b_nlt h3, b_gt h4, if_neg (by omega)]
  · rw [b_nlt h1, b_ngt h2, b_nlt h3, b_ngt h4, if_pos (by omega), w_s (n := 9 * f) (by omega) (by omega), w_s (by omega) (by omega)]
theorem from_val {dx dy : Int} (h1 : -8 ≤ dx) (h2 : dx ≤ 8) (h3 : -8 ≤ dy) (h4 : dy ≤ 8) {a : Nat} (ha : a < 81) : step_Dir_From dx dy a = some (fromS dx dy a) := by
  have hg := geo ha
  unfold step_Dir_From set_File set_Rank
  simp (disch := omega) only [b_nlt, b_nge, tdiv9, tmod9', ob_some, w_s, square_val]
  rfl
theorem only_from {dx dy : Int} {a c : Nat} (ha : a < 81) (hc : c < 81) : only (fromS dx dy a) c = decide (df a c = dx ∧ dr a c = dy) := by
  have hg := geo ha
  have hg2 := geo hc
  unfold only fromS df dr
  rw [decide_eq_decide]
  split <;> omega

/-! ### steps -/

/-- A kind's steps: so many files on, so many ranks ahead. -/
def stpK (k d u : Int) : Prop :=
  (k = 1 ∧ d = 0 ∧ u = 1) ∨ (k = 3 ∧ (d = 1 ∨ d = -1) ∧ u = 2) ∨ (k = 4 ∧ ((u = 1 ∧ -1 ≤ d ∧ d ≤ 1) ∨ (u = -1 ∧ (d = 1 ∨ d = -1)))) ∨
  ((k = 5 ∨ k = 9 ∨ k = 10 ∨ k = 11 ∨ k = 12) ∧ ((u = 1 ∧ -1 ≤ d ∧ d ≤ 1) ∨ (u = 0 ∧ (d = 1 ∨ d = -1)) ∨ (u = -1 ∧ d = 0))) ∨
  (k = 8 ∧ -1 ≤ d ∧ d ≤ 1 ∧ -1 ≤ u ∧ u ≤ 1 ∧ ¬ (d = 0 ∧ u = 0)) ∨ (k = 14 ∧ ((u = 0 ∧ (d = 1 ∨ d = -1)) ∨ (d = 0 ∧ (u = 1 ∨ u = -1)))) ∨
  (k = 15 ∧ (d = 1 ∨ d = -1) ∧ (u = 1 ∨ u = -1))
instance (k d u : Int) : Decidable (stpK k d u) := by unfold stpK; infer_instance
def stepB (x : Int) (a c : Nat) : Bool := decide (stpK (kd x) (df a c) (upS x a c))

theorem size_val {n : Int} (h1 : -1000 ≤ n) (h2 : n ≤ 1000) : ref03_size n = some (if n < 0 then -n else n) := by
  unfold ref03_size
  split
  · rename_i h; rw [b_lt h, w_s (by omega) (by omega)]; congr 1; omega
  · rename_i h; rw [b_nlt h]
theorem upS_range {x : Int} {a c : Nat} (ha : a < 81) (hc : c < 81) : -8 ≤ upS x a c ∧ upS x a c ≤ 8 ∧ -8 ≤ df a c ∧ df a c ≤ 8 ∧ -8 ≤ dr a c ∧ dr a c ≤ 8 := by
  have hg := geo ha
  have hg2 := geo hc
  unfold upS df dr
  split <;> omega

theorem dec_t {p : Prop} [Decidable p] (h : p) : some true = some (decide p) := by simp [h]
theorem dec_f {p : Prop} [Decidable p] (h : ¬ p) : some false = some (decide p) := by simp [h]
theorem dec_b {b : Bool} {p : Prop} [Decidable p] (h : b = true ↔ p) : some b = some (decide p) := by
  rw [Option.some.injEq, Bool.eq_iff_iff, decide_eq_true_eq]; exact h
/-- What the reference asks, with the two distances given. -/
def stT (k u S : Int) : Option Bool :=
  br (decide (S ≤ 1))
    (ob (ref03_size u) fun a5 =>
     br (k == 1)
      (br (S == 0)
       (some (u == 1))
       (some (false)))
      (br (k == 3)
       (br (S == 1)
        (some (u == 2))
        (some (false)))
       (br (k == 4)
        (br (decide (a5 ≤ 1))
         (br (u == 1)
          (some (true))
          (br (S == 1)
           (some (u == -1))
           (some (false))))
         (some (false)))
        (br (k == 5)
         (br (decide (a5 ≤ 1))
          (br (decide (u ≥ 0))
           (some (true))
           (some (S == 0)))
          (some (false)))
         (br (k == 9)
          (br (decide (a5 ≤ 1))
           (br (decide (u ≥ 0))
            (some (true))
            (some (S == 0)))
           (some (false)))
          (br (k == 10)
           (br (decide (a5 ≤ 1))
            (br (decide (u ≥ 0))
             (some (true))
             (some (S == 0)))
            (some (false)))
           (br (k == 11)
            (br (decide (a5 ≤ 1))
             (br (decide (u ≥ 0))
              (some (true))
              (some (S == 0)))
             (some (false)))
            (br (k == 12)
             (br (decide (a5 ≤ 1))
              (br (decide (u ≥ 0))
               (some (true))
               (some (S == 0)))
              (some (false)))
             (br (k == 8)
              (some (decide (a5 ≤ 1)))
              (br (k == 14)
               (br (decide (a5 ≤ 1))
                (br (S == 0)
                 (some (true))
                 (some (u == 0)))
                (some (false)))
               (br (k == 15)
                (br (decide (a5 ≤ 1))
                 (br (S == 1)
                  (some (u != 0))
                  (some (false)))
                 (some (false)))
                (some (false)))))))))))))
     (br (k == 1)
      (br (S == 0)
       (some (u == 1))
       (some (false)))
      (br (k == 3)
       (br (S == 1)
        (some (u == 2))
        (some (false)))
       (br (k == 4)
        (some (false))
        (br (k == 5)
         (some (false))
         (br (k == 9)
          (some (false))
          (br (k == 10)
           (some (false))
           (br (k == 11)
            (some (false))
            (br (k == 12)
             (some (false))
             (br (k == 8)
              (some (false))
              (br (k == 14)
               (some (false))
               (br (k == 15)
                (some (false))
                (some (false)))))))))))))
theorem stT_all : ∀ (k : Fin 16) (d u : Fin 17), ((d.val = 8 ∧ u.val = 8) ∨ stT ((k.val : Nat) : Int) ((u.val : Int) - 8) (if (d.val : Int) - 8 < 0 then -((d.val : Int) - 8) else (d.val : Int) - 8) =
    some (decide (stpK ((k.val : Nat) : Int) ((d.val : Int) - 8) ((u.val : Int) - 8)))) := by decide +kernel
theorem stp_key {k d u : Int} (hne : ¬ (d = 0 ∧ u = 0)) (k0 : 0 ≤ k) (k1 : k ≤ 15) (u1 : -8 ≤ u) (u2 : u ≤ 8) (d1 : -8 ≤ d) (d2 : d ≤ 8) : stT k u (if d < 0 then -d else d) = some (decide (stpK k d u)) := by
  have := stT_all ⟨k.toNat, by omega⟩ ⟨(d + 8).toNat, by omega⟩ ⟨(u + 8).toNat, by omega⟩
  simp only at this
  rw [show ((k.toNat : Nat) : Int) = k by omega, show (((d + 8).toNat : Nat) : Int) - 8 = d by omega, show (((u + 8).toNat : Nat) : Int) - 8 = u by omega] at this
  exact this.resolve_left (by omega)

theorem refStep_val (x : Int) {a c : Nat} (ha : a < 81) (hc : c < 81) : ref03_Step x a c = some (stepB x a c) := by
  have hg := geo ha
  have hg2 := geo hc
  have hr := upS_range (x := x) ha hc
  unfold ref03_Step stepB
  simp (disch := omega) only [b_nlt, tdiv9, tmod9', refSide_val, refKind_val, ob_some, w_s]
  by_cases hac : a = c
  · subst hac
    rw [b_eq rfl]
    have := geo_self a
    have hu : upS x a a = 0 := by unfold upS; rw [this.2]; split <;> rfl
    rw [this.1, hu]
    symm
    rw [Option.some.injEq, decide_eq_false_iff_not]
    unfold stpK
    omega
  · rw [b_neq (by omega)]
    have hne : ¬ (df a c = 0 ∧ upS x a c = 0) := by
      rintro ⟨h1, h2⟩
      refine hac (geo_eq h1 ?_)
      unfold upS at h2
      split at h2 <;> omega
    have hS := size_val (n := fl c - fl a) (by omega) (by omega)
    rw [hS, ob_some]
    obtain ⟨k0, k1, _⟩ := kd_bounds x
    have := stp_key (k := kd x) hne k0 k1 hr.1 hr.2.1 hr.2.2.1 hr.2.2.2.1
    rw [← this]
    by_cases hs : sd x = 1
    · have hu : (0 : Int) - (rn a - rn c) = upS x a c := by unfold upS dr; rw [if_pos hs]; omega
      rw [b_eq hs, hu]
      rfl
    · have hu : rn a - rn c = upS x a c := by unfold upS dr; rw [if_neg hs]; omega
      rw [b_neq hs, hu]
      rfl

/-! ### the program's steps -/

/-- A kind's steps as rows. -/
def dirL (k : Int) : List (List Int) := if k = 1 then [[0, -1]] else if k = 3 then [[-1, -2], [1, -2]] else if k = 4 then [[-1, -1], [0, -1], [1, -1], [-1, 1], [1, 1]]
  else if k = 5 ∨ k = 9 ∨ k = 10 ∨ k = 11 ∨ k = 12 then [[-1, -1], [0, -1], [1, -1], [-1, 0], [1, 0], [0, 1]]
  else if k = 8 then [[-1, -1], [0, -1], [1, -1], [-1, 0], [1, 0], [0, 1], [-1, 1], [1, 1]] else if k = 14 then [[0, -1], [-1, 0], [1, 0], [0, 1]]
  else if k = 15 then [[-1, -1], [1, -1], [-1, 1], [1, 1]] else []
theorem dirs_all : ∀ k : Fin 16, step_Dirs many ((k.val : Nat) : Int) = some ((dirL ((k.val : Nat) : Int)).length, (dirL ((k.val : Nat) : Int)).length, dirL ((k.val : Nat) : Int)) := by decide +kernel
theorem dirs_val {k : Int} (h0 : 0 ≤ k) (h1 : k ≤ 15) : step_Dirs many k = some ((dirL k).length, (dirL k).length, dirL k) := by
  have := dirs_all ⟨k.toNat, by omega⟩
  simpa only [show ((k.toNat : Nat) : Int) = k by omega] using this
theorem dirL_small : ∀ (k : Fin 16) (i : Fin 8), ((dirL ((k.val : Nat) : Int)).getD i.val []).length ≤ 2 ∧ -2 ≤ ((dirL ((k.val : Nat) : Int)).getD i.val []).headD 0 ∧ ((dirL ((k.val : Nat) : Int)).getD i.val []).headD 0 ≤ 2 ∧
    -2 ≤ ((dirL ((k.val : Nat) : Int)).getD i.val []).tail.headD 0 ∧ ((dirL ((k.val : Nat) : Int)).getD i.val []).tail.headD 0 ≤ 2 := by decide +kernel
theorem dirL_len : ∀ (k : Fin 16), (dirL ((k.val : Nat) : Int)).length ≤ 8 := by decide +kernel

/-- A side's turn of a way. -/
def sg (x : Int) : Int := if sd x = 1 then -1 else 1
theorem turn_val {dx dy : Int} (h : -8 ≤ dx ∧ dx ≤ 8 ∧ -8 ≤ dy ∧ dy ≤ 8) (x : Int) : step_Dir_Turn dx dy (sd x) = some (sg x * dx, sg x * dy) := by
  unfold step_Dir_Turn sg
  by_cases hs : sd x = 1
  · rw [b_eq hs, if_pos hs, w_s (by omega) (by omega), w_s (by omega) (by omega)]
    congr 2 <;> omega
  · rw [b_neq hs, if_neg hs]
    congr 2 <;> omega
theorem sg_cases (x : Int) : sg x = 1 ∨ sg x = -1 := by unfold sg; split <;> simp

def dx_ (r : List Int) : Int := r.headD 0
def dy_ (r : List Int) : Int := r.tail.headD 0
/-- A square is one of a list's steps, turned for a side. -/
def anyD (x : Int) (L : List (List Int)) (a c : Nat) : Bool := L.any fun r => decide (df a c = sg x * dx_ r ∧ dr a c = sg x * dy_ r)

theorem stepOf_goes {x : Int} {a : Nat} (ha : a < 81) (L : List (List Int)) (hlen : L.length ≤ 8) (hr : ∀ r ∈ L, r.length ≤ 2 ∧ -2 ≤ dx_ r ∧ dx_ r ≤ 2 ∧ -2 ≤ dy_ r ∧ dy_ r ≤ 2) (N : Nat) (u v : Int) :
    ∀ (n i : Nat), i + n = L.length → ∀ (f : Nat → Bool) (F : Nat), step_Ofl3 (F + n + 1) x a L.length (Int.ofNat L.length) i u v (sLo f) (sHi f) N L =
      some (u, v, sLo fun c => f c || anyD x (L.drop i) a c, sHi fun c => f c || anyD x (L.drop i) a c) := by
  intro n
  induction n with
  | zero =>
    intro i hi f F
    show step_Ofl3s (step_Ofl3 (F + 0)) _ _ _ _ _ _ _ _ _ _ _ = _
    unfold step_Ofl3s
    rw [b_nlt (by simp; omega), List.drop_eq_nil_of_le (by omega)]
    have : (fun c => f c || anyD x [] a c) = f := by funext c; simp [anyD]
    rw [this]
  | succ n ih =>
    intro i hi f F
    show step_Ofl3s (step_Ofl3 (F + n + 1)) _ _ _ _ _ _ _ _ _ _ _ = _
    unfold step_Ofl3s
    have hil : i < L.length := by omega
    have hget : L.getD i [] = L[i] := by rw [List.getD_eq_getElem?_getD, List.getElem?_eq_getElem hil]; rfl
    obtain ⟨r0, r1, r2, r3, r4⟩ := hr L[i] (List.getElem_mem hil)
    have ht : List.take 2 L[i] = L[i] := List.take_of_length_le r0
    have hs := sg_cases x
    rw [b_lt (by simp; omega), b_in (by omega) (by omega), tn, hget, ht, side_val, ob_some]
    show ob (step_Dir_Turn (dx_ L[i]) (dy_ L[i]) (sd x)) _ = _
    rw [turn_val (by omega), ob_some]
    simp only
    rw [from_val (by rcases hs with h | h <;> rw [h] <;> omega) (by rcases hs with h | h <;> rw [h] <;> omega) (by rcases hs with h | h <;> rw [h] <;> omega) (by rcases hs with h | h <;> rw [h] <;> omega) ha, ob_some, with_val, ob_some]
    simp only
    rw [w_s (by omega) (by omega)]
    refine (ih (i + 1) (by omega) _ F).trans ?_
    have hd : L.drop i = L[i] :: L.drop (i + 1) := List.drop_eq_getElem_cons hil
    obtain ⟨e1, e2⟩ := set_congr (f := fun c => (f c || only (fromS (sg x * dx_ L[i]) (sg x * dy_ L[i]) a) c) || anyD x (L.drop (i + 1)) a c) (g := fun c => f c || anyD x (L.drop i) a c) fun c hc => by
      rw [only_from ha hc, hd]
      unfold anyD
      rw [List.any_cons, Bool.or_assoc]
    rw [e1, e2]

/-- The steps as lists have them are the kinds' steps. -/
theorem anyD_all : ∀ (k : Fin 16) (d u : Fin 17), (dirL ((k.val : Nat) : Int)).any (fun r => decide ((d.val : Int) - 8 = dx_ r ∧ (u.val : Int) - 8 = -(dy_ r))) = decide (stpK ((k.val : Nat) : Int) ((d.val : Int) - 8) ((u.val : Int) - 8)) := by decide +kernel
theorem anyD_sym : ∀ (k : Fin 16) (d u : Fin 17), (dirL ((k.val : Nat) : Int)).any (fun r => decide ((d.val : Int) - 8 = -(dx_ r) ∧ (u.val : Int) - 8 = -(dy_ r))) = decide (stpK ((k.val : Nat) : Int) ((d.val : Int) - 8) ((u.val : Int) - 8)) := by decide +kernel
theorem anyD_val (x : Int) {a c : Nat} (ha : a < 81) (hc : c < 81) : anyD x (dirL (kd x)) a c = stepB x a c := by
  obtain ⟨k0, k1, _⟩ := kd_bounds x
  have hr := upS_range (x := x) ha hc
  unfold stepB anyD sg upS
  by_cases hs : sd x = 1
  · simp only [hs, if_true]
    have := anyD_sym ⟨(kd x).toNat, by omega⟩ ⟨(df a c + 8).toNat, by omega⟩ ⟨(dr a c + 8).toNat, by omega⟩
    simp only [show (((kd x).toNat : Nat) : Int) = kd x by omega, show (((df a c + 8).toNat : Nat) : Int) - 8 = df a c by omega, show (((dr a c + 8).toNat : Nat) : Int) - 8 = dr a c by omega] at this
    rw [← this]
    congr 1
    funext r
    rw [decide_eq_decide]
    constructor <;> (rintro ⟨h1, h2⟩; constructor <;> omega)
  · simp only [hs, if_false]
    have := anyD_all ⟨(kd x).toNat, by omega⟩ ⟨(df a c + 8).toNat, by omega⟩ ⟨(-dr a c + 8).toNat, by omega⟩
    simp only [show (((kd x).toNat : Nat) : Int) = kd x by omega, show (((df a c + 8).toNat : Nat) : Int) - 8 = df a c by omega, show (((-dr a c + 8).toNat : Nat) : Int) - 8 = -dr a c by omega] at this
    rw [← this]
    congr 1
    funext r
    rw [decide_eq_decide]
    constructor <;> (rintro ⟨h1, h2⟩; constructor <;> omega)

theorem dirL_ok {k : Int} (h0 : 0 ≤ k) (h1 : k ≤ 15) : (dirL k).length ≤ 8 ∧ ∀ r ∈ dirL k, r.length ≤ 2 ∧ -2 ≤ dx_ r ∧ dx_ r ≤ 2 ∧ -2 ≤ dy_ r ∧ dy_ r ≤ 2 := by
  have hl := dirL_len ⟨k.toNat, by omega⟩
  simp only [show ((k.toNat : Nat) : Int) = k by omega] at hl
  refine ⟨hl, fun r hr => ?_⟩
  obtain ⟨i, hi, rfl⟩ := List.getElem_of_mem hr
  have := dirL_small ⟨k.toNat, by omega⟩ ⟨i, by omega⟩
  simp only [show ((k.toNat : Nat) : Int) = k by omega] at this
  rw [List.getD_eq_getElem?_getD, List.getElem?_eq_getElem hi] at this
  exact this

theorem stepOf_val (x : Int) {a : Nat} (ha : a < 81) : step_Of x a = some (sLo (stepB x a), sHi (stepB x a)) := by
  obtain ⟨k0, k1, _⟩ := kd_bounds x
  obtain ⟨hlen, hrs⟩ := dirL_ok k0 k1
  obtain ⟨g, hg⟩ := many_eq (dirL (kd x)).length (by omega)
  have := stepOf_goes (x := x) ha (dirL (kd x)) hlen hrs (dirL (kd x)).length 0 0 (dirL (kd x)).length 0 (by omega) (fun _ => false) g
  rw [← hg, sLo_false, sHi_false] at this
  unfold step_Of
  rw [kind_val, ob_some, dirs_val k0 k1, ob_some]
  simp only
  rw [show step_Ofl3 many x a (dirL (kd x)).length (Int.ofNat (dirL (kd x)).length) 0 0 0 0 0 (dirL (kd x)).length (dirL (kd x)) = _ from this, ob_some]
  simp only
  obtain ⟨e1, e2⟩ := set_congr (f := fun c => false || anyD x (List.drop 0 (dirL (kd x))) a c) (g := stepB x a) fun c hc => by
    rw [Bool.false_or, List.drop_zero, anyD_val x ha hc]
  rw [e1, e2]

end Go.Kk.Pl
