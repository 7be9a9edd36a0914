/-
  All moves of the pieces: the document's list, and the plain law of GenAll.
-/
import Derived.Test.YtaoifdkheaagpaaDoorKkAll
namespace Go.Kk.Pl

/-! ### the document's list -/

def rOne (b h : List Int) (S : Int) (f t : Nat) : List (List Int) := (if movS b h S f t 0 false then [[(f : Int), (t : Int), 0, 0]] else []) ++ (if movS b h S f t 0 true then [[(f : Int), (t : Int), 0, 1]] else [])
def rTo (b h : List Int) (S : Int) (f t : Nat) : List (List Int) := if rch (b.getD f 0) f t (tk b) then rOne b h S f t else []
def rFrom (b h : List Int) (S : Int) (f : Nat) : List (List Int) := if sd (b.getD f 0) = S then (List.range' 0 81).flatMap (rTo b h S f) else []
def rDrop (b h : List Int) (S : Int) (k t : Nat) : List (List Int) := if movS b h S 0 t k false then [[0, (t : Int), (k : Int), 0]] else []
def rKind (b h : List Int) (S : Int) (k : Nat) : List (List Int) := if hd_ h S k > 0 then (List.range' 0 81).flatMap (rDrop b h S k) else []
def rAll (b h : List Int) (S : Int) : List (List Int) := (List.range' 0 81).flatMap (rFrom b h S) ++ (List.range' 1 7).flatMap (rKind b h S)

theorem rTo_len (b h : List Int) (S : Int) (f t : Nat) : (rTo b h S f t).length ≤ 2 := by
  unfold rTo rOne
  split
  · split <;> split <;> simp
  · simp
theorem rFrom_len (b h : List Int) (S : Int) (f : Nat) : (rFrom b h S f).length ≤ 162 := by
  unfold rFrom
  split
  · have := flatLen (rTo b h S f) 2 (List.range' 0 81) fun a _ => rTo_len b h S f a
    rw [List.length_range'] at this
    omega
  · simp
theorem rDrop_len (b h : List Int) (S : Int) (k t : Nat) : (rDrop b h S k t).length ≤ 1 := by
  unfold rDrop; split <;> simp
theorem rKind_len (b h : List Int) (S : Int) (k : Nat) : (rKind b h S k).length ≤ 81 := by
  unfold rKind
  split
  · have := flatLen (rDrop b h S k) 1 (List.range' 0 81) fun a _ => rDrop_len b h S k a
    rw [List.length_range'] at this
    omega
  · simp

theorem rTo_goes (b h : List Int) (S : Int) (f : Nat) (hf : f < 81) : ∀ (n t : Nat), t + n = 81 → ∀ (L : List (List Int)) (x0 x6 : Nat), x0 = L.length → x6 = L.length → L.length ≤ 1000000 - 2 * n → ∀ F,
    ref10_Alll10 (F + n + 1) x0 f t b h S x6 L (takenL b) =
      some ((L ++ (List.range' t n).flatMap (rTo b h S f)).length, (f : Int), b, h, S, (L ++ (List.range' t n).flatMap (rTo b h S f)).length, L ++ (List.range' t n).flatMap (rTo b h S f), takenL b) := by
  intro n
  induction n with
  | zero =>
    intro t ht L x0 x6 h0 h6 hb F
    show ref10_Alll10s (ref10_Alll10 (F + 0)) _ _ _ _ _ _ _ _ _ = _
    unfold ref10_Alll10s
    rw [b_nlt (by omega)]
    simp only [List.range'_zero, List.flatMap_nil, List.append_nil, h0, h6]
  | succ n ih =>
    intro t ht L x0 x6 h0 h6 hb F
    show ref10_Alll10s (ref10_Alll10 (F + n + 1)) _ _ _ _ _ _ _ _ _ = _
    unfold ref10_Alll10s
    rw [b_lt (by omega), b_in (by omega) (by omega), tn, c_8, reachT_val b _ hf (by omega), ob_some, w_s (by omega) (by omega), List.range'_succ, List.flatMap_cons, ← List.append_assoc]
    have ih' := ih (t + 1) (by omega) (L ++ rTo b h S f t)
    cases hr : rch (b.getD f 0) f t (tk b) with
    | false =>
      have e : rTo b h S f t = [] := by unfold rTo; rw [hr]; rfl
      rw [Bool.not_false, b_t]
      rw [e, List.append_nil] at ih' ⊢
      exact ih' x0 x6 h0 h6 (by omega) F
    | true =>
      have e : rTo b h S f t = rOne b h S f t := by unfold rTo; rw [hr]; rfl
      rw [e] at ih' ⊢
      rw [Bool.not_true, b_f, refMoves_val, ob_some, tkA h0, tkA h0, tkA2 h0]
      cases hm : movS b h S f t 0 false with
      | true =>
        rw [b_t, b_leN (by omega), refMoves_val, ob_some]
        cases hy : movS b h S f t 0 true with
        | true =>
          rw [b_t, b_leN (by omega)]
          have := ih' (x0 + 1 + 1) (x0 + 1 + 1) (by simp [rOne, hm, hy, h0]) (by simp [rOne, hm, hy, h0]) (by simp [rOne, hm, hy]; omega) F
          rw [← this]
          simp [rOne, hm, hy]
        | false =>
          rw [b_f]
          have := ih' (x0 + 1) (x0 + 1) (by simp [rOne, hm, hy, h0]) (by simp [rOne, hm, hy, h0]) (by simp [rOne, hm, hy]; omega) F
          rw [← this]
          simp [rOne, hm, hy]
      | false =>
        rw [b_f, refMoves_val, ob_some]
        cases hy : movS b h S f t 0 true with
        | true =>
          rw [b_t, b_leN (by omega)]
          have := ih' (x0 + 1) (x0 + 1) (by simp [rOne, hm, hy, h0]) (by simp [rOne, hm, hy, h0]) (by simp [rOne, hm, hy]; omega) F
          rw [← this]
          simp [rOne, hm, hy]
        | false =>
          rw [b_f]
          have := ih' x0 x6 (by simp [rOne, hm, hy, h0]) (by simp [rOne, hm, hy, h6]) (by simp [rOne, hm, hy]; omega) F
          rw [← this]
          simp [rOne, hm, hy]

theorem rFrom_goes (b h : List Int) (S : Int) : ∀ (n f : Nat), f + n = 81 → ∀ (L : List (List Int)) (x0 x6 : Nat), x0 = L.length → x6 = L.length → L.length ≤ 900000 - 200 * n → ∀ F,
    ref10_Alll6 (F + n + 1) x0 f b h S x6 L (takenL b) =
      some ((L ++ (List.range' f n).flatMap (rFrom b h S)).length, b, h, S, (L ++ (List.range' f n).flatMap (rFrom b h S)).length, L ++ (List.range' f n).flatMap (rFrom b h S)) := by
  intro n
  induction n with
  | zero =>
    intro f hf L x0 x6 h0 h6 hb F
    show ref10_Alll6s (ref10_Alll6 (F + 0)) _ _ _ _ _ _ _ _ = _
    unfold ref10_Alll6s
    rw [b_nlt (by omega)]
    simp only [List.range'_zero, List.flatMap_nil, List.append_nil, h0, h6]
  | succ n ih =>
    intro f hf L x0 x6 h0 h6 hb F
    show ref10_Alll6s (ref10_Alll6 (F + n + 1)) _ _ _ _ _ _ _ _ = _
    unfold ref10_Alll6s
    have hl := rFrom_len b h S f
    rw [b_lt (by omega), b_in (by omega) (by omega), tn, c_8, refSide_val, ob_some, List.range'_succ, List.flatMap_cons, ← List.append_assoc]
    have ih' := ih (f + 1) (by omega) (L ++ rFrom b h S f)
    by_cases h1 : sd (b.getD f 0) = S
    · have e : rFrom b h S f = (List.range' 0 81).flatMap (rTo b h S f) := by unfold rFrom; rw [if_pos h1]
      rw [b_nne h1]
      obtain ⟨g, hg⟩ := many_eq 81 (by omega)
      have := rTo_goes b h S f (by omega) 81 0 (by omega) L x0 x6 h0 h6 (by omega) g
      rw [← hg] at this
      rw [show ref10_Alll10 many x0 f 0 b h S x6 L (takenL b) = _ from this, ob_some]
      simp only
      rw [w_s (by omega) (by omega), ← e]
      exact ih' _ _ rfl rfl (by rw [List.length_append]; omega) F
    · have e : rFrom b h S f = [] := by unfold rFrom; rw [if_neg h1]
      rw [b_ne h1, w_s (by omega) (by omega)]
      rw [e, List.append_nil] at ih' ⊢
      exact ih' x0 x6 h0 h6 (by omega) F

theorem rDrop_goes (b h : List Int) {S : Int} (hS : S = 0 ∨ S = 1) (k : Nat) (hk : k < 8) : ∀ (n t : Nat), t + n = 81 → ∀ (L : List (List Int)) (x0 x6 : Nat), x0 = L.length → x6 = L.length → L.length ≤ 1000000 - 2 * n → ∀ F,
    ref10_Alll23 (F + n + 1) x0 k t b h S x6 L =
      some ((L ++ if hd_ h S k > 0 then (List.range' t n).flatMap (rDrop b h S k) else []).length, (k : Int), b, h, S, (L ++ if hd_ h S k > 0 then (List.range' t n).flatMap (rDrop b h S k) else []).length, L ++ if hd_ h S k > 0 then (List.range' t n).flatMap (rDrop b h S k) else []) := by
  intro n
  induction n with
  | zero =>
    intro t ht L x0 x6 h0 h6 hb F
    show ref10_Alll23s (ref10_Alll23 (F + 0)) _ _ _ _ _ _ _ _ = _
    unfold ref10_Alll23s
    rw [b_nlt (by omega)]
    simp only [List.range'_zero, List.flatMap_nil, ite_self, List.append_nil, h0, h6]
  | succ n ih =>
    intro t ht L x0 x6 h0 h6 hb F
    show ref10_Alll23s (ref10_Alll23 (F + n + 1)) _ _ _ _ _ _ _ _ = _
    unfold ref10_Alll23s
    rw [b_lt (by omega), b_in (by omega) (by omega), b_in (by omega) (by omega)]
    have ih' := ih (t + 1) (by omega) (L ++ rDrop b h S k t)
    by_cases h1 : hd_ h S k > 0
    · rw [show List.getD h (S.toNat * 8 + Int.toNat (k : Int)) 0 = hd_ h S k from rfl, b_gt h1, refMoves_val, ob_some, tkA h0, w_s (by omega) (by omega)]
      simp only [if_pos h1] at ih' ⊢
      rw [List.range'_succ, List.flatMap_cons, ← List.append_assoc]
      cases hm : movS b h S 0 t k false with
      | true =>
        have e : rDrop b h S k t = [[0, (t : Int), (k : Int), 0]] := by unfold rDrop; rw [hm]; rfl
        rw [b_t, b_leN (by omega)]
        rw [e] at ih' ⊢
        exact ih' (x0 + 1) (x0 + 1) (by simp [h0]) (by simp [h0]) (by simp; omega) F
      | false =>
        have e : rDrop b h S k t = [] := by unfold rDrop; rw [hm]; rfl
        rw [b_f]
        rw [e, List.append_nil] at ih' ⊢
        exact ih' x0 x6 h0 h6 (by omega) F
    · rw [show List.getD h (S.toNat * 8 + Int.toNat (k : Int)) 0 = hd_ h S k from rfl, b_ngt h1, if_neg h1, List.append_nil, h0, h6]

theorem rKind_goes (b h : List Int) {S : Int} (hS : S = 0 ∨ S = 1) : ∀ (n k : Nat), k + n = 8 → ∀ (L : List (List Int)) (x0 x6 : Nat), x0 = L.length → x6 = L.length → L.length ≤ 900000 - 200 * n → ∀ F,
    ref10_Alll20 (F + n + 1) x0 k b h S x6 L =
      some ((L ++ (List.range' k n).flatMap (rKind b h S)).length, (L ++ (List.range' k n).flatMap (rKind b h S)).length, L ++ (List.range' k n).flatMap (rKind b h S)) := by
  intro n
  induction n with
  | zero =>
    intro k hk L x0 x6 h0 h6 hb F
    show ref10_Alll20s (ref10_Alll20 (F + 0)) _ _ _ _ _ _ _ = _
    unfold ref10_Alll20s
    rw [b_nle (by omega)]
    simp only [List.range'_zero, List.flatMap_nil, List.append_nil, h0, h6]
  | succ n ih =>
    intro k hk L x0 x6 h0 h6 hb F
    show ref10_Alll20s (ref10_Alll20 (F + n + 1)) _ _ _ _ _ _ _ = _
    unfold ref10_Alll20s
    have hl := rKind_len b h S k
    obtain ⟨g, hg⟩ := many_eq 81 (by omega)
    have := rDrop_goes b h hS k (by omega) 81 0 (by omega) L x0 x6 h0 h6 (by omega) g
    rw [← hg] at this
    rw [b_le (by omega), show ref10_Alll23 many x0 k 0 b h S x6 L = _ from this, ob_some]
    simp only
    have e : List.range' k (n + 1) = k :: List.range' (k + 1) n := List.range'_succ
    rw [w_s (by omega) (by omega), e, List.flatMap_cons, ← List.append_assoc]
    exact ih (k + 1) (by omega) (L ++ rKind b h S k) _ _ rfl rfl (by rw [List.length_append]; omega) F

theorem rFroms_len (b h : List Int) (S : Int) : ((List.range' 0 81).flatMap (rFrom b h S)).length ≤ 162 * 81 := by
  have := flatLen (rFrom b h S) 162 (List.range' 0 81) fun a _ => rFrom_len b h S a
  rw [List.length_range'] at this
  exact this
theorem refAll_val (b h : List Int) {S : Int} (hS : S = 0 ∨ S = 1) : ref10_All b h S = some ((rAll b h S).length, (rAll b h S).length, rAll b h S) := by
  have main : (ob (ref05_Taken b h S) fun a3 =>
    ob (ref10_Alll6 many 0 0 b h S 0 [] a3) fun (a4_0, a4_1, a4_2, a4_3, a4_4, a4_5) =>
    ob (ref10_Alll20 many a4_0 1 a4_1 a4_2 a4_3 a4_4 a4_5) fun (a10_0, a10_1, a10_2) =>
    (some (a10_0, a10_1, a10_2) : Option (Nat × Nat × List (List Int)))) = some ((rAll b h S).length, (rAll b h S).length, rAll b h S) := by
    rw [taken_val, ob_some]
    have hl := rFroms_len b h S
    obtain ⟨g, hg⟩ := many_eq 81 (by omega)
    have := rFrom_goes b h S 81 0 (by omega) [] 0 0 rfl rfl (by simp only [List.length_nil]; omega) g
    rw [← hg, List.nil_append] at this
    rw [show ref10_Alll6 many 0 0 b h S 0 [] (takenL b) = _ from this, ob_some]
    simp only
    obtain ⟨g, hg⟩ := many_eq 7 (by omega)
    have := rKind_goes b h hS 7 1 (by omega) ((List.range' 0 81).flatMap (rFrom b h S)) _ _ rfl rfl (by omega) g
    rw [← hg] at this
    rw [show ref10_Alll20 many ((List.range' 0 81).flatMap (rFrom b h S)).length 1 b h S ((List.range' 0 81).flatMap (rFrom b h S)).length ((List.range' 0 81).flatMap (rFrom b h S)) = _ from this, ob_some]
    rfl
  unfold ref10_All
  rcases hS with rfl | rfl
  · rw [b_nne rfl]; exact main
  · rw [b_ne (by omega), b_nne rfl]; exact main

/-! ### both lists are the same -/

theorem flat_filter {α β γ : Type} (p : α → Bool) (f : α → β) (g : β → List γ) (L : List α) : ((L.filter p).map f).flatMap g = L.flatMap fun a => if p a then g (f a) else [] := by
  induction L with
  | nil => rfl
  | cons a L ih =>
    rw [List.filter_cons, List.flatMap_cons]
    cases h : p a with
    | true => rw [if_pos rfl, if_pos rfl, List.map_cons, List.flatMap_cons, ih]
    | false => rw [if_neg (by simp), if_neg (by simp), ih]; rfl
theorem sq_flat {γ : Type} (p : Nat → Bool) (g : Int → List γ) : (sq p).flatMap g = (List.range' 0 81).flatMap fun (i : Nat) => if p i then g (i : Int) else [] := by
  unfold sq; rw [flat_filter, range81']; rfl
theorem flat_congr {α β : Type} {f g : α → List β} {L : List α} (h : ∀ a ∈ L, f a = g a) : L.flatMap f = L.flatMap g := by
  induction L with
  | nil => rfl
  | cons a L ih => rw [List.flatMap_cons, List.flatMap_cons, h a (by simp), ih fun x hx => h x (by simp [hx])]
theorem sq_map {γ : Type} (p : Nat → Bool) (g : Int → γ) : (sq p).map g = (List.range' 0 81).flatMap fun (i : Nat) => if p i then [g (i : Int)] else [] := by
  rw [← sq_flat p fun t => [g t]]
  induction sq p with
  | nil => rfl
  | cons a L ih => rw [List.map_cons, List.flatMap_cons, ih]; rfl

theorem kgs_iff {b : List Int} (hc : Clean b) {c : Nat} (hcc : c < 81) : kgs b c = decide (kd (b.getD c 0) = 8) := by
  unfold kgs pcs
  rw [pc_ok (.inl rfl) (by omega) (by omega) (by omega), pc_ok (.inr rfl) (by omega) (by omega) (by omega), Bool.eq_iff_iff]
  simp only [Bool.or_eq_true, decide_eq_true_eq]
  constructor
  · rintro (⟨_, h⟩ | ⟨_, h⟩) <;> rw [h] <;> decide
  · intro h
    have := pc_of (x := b.getD c 0) (by omega)
    rw [h] at this
    have hs := sd_range (x := b.getD c 0) (by omega)
    rcases hs with h1 | h1 <;> rw [h1, pc_ok (by omega) (by omega) (by omega) (by omega)] at this
    · left; omega
    · right; omega

theorem mov_eq {b : List Int} (hc : Clean b) (h : List Int) {S : Int} (hS : S = 0 ∨ S = 1) {f t : Nat} (hf : f < 81) (ht : t < 81) (hs : sd (b.getD f 0) = S) (hr : rch (b.getD f 0) f t (tk b) = true) (p : Bool) :
    movS b h S f t 0 p = (decide (sd (b.getD t 0) ≠ S ∧ kd (b.getD t 0) ≠ 8) && if p = true then mayS (b.getD f 0) f t else !mustS (b.getD f 0) t) := by
  unfold movS canS
  rw [if_neg (by simp), if_neg (by simp), at_in (by omega), at_in (by omega), tn, tn, hr, decide_eq_true (p := S = 0 ∨ S = 1) hS, Bool.true_and, Bool.true_and]
  by_cases hft : f = t
  · subst hft
    have : decide (sd (b.getD f 0) = S ∧ sd (b.getD f 0) ≠ S ∧ kd (b.getD f 0) ≠ 8) = false := decide_eq_false fun hh => hh.2.1 hs
    rw [this, Bool.false_and, Bool.and_false, Bool.false_and, decide_eq_false (p := sd (b.getD f 0) ≠ S ∧ kd (b.getD f 0) ≠ 8) (fun hh => hh.1 hs), Bool.false_and]
  · have e : chkM f t 0 p = 0 := by
      unfold chkM
      rw [if_neg (by omega), if_neg (by simp), if_neg (by omega), if_neg (by omega)]
    rw [decide_eq_true e, Bool.true_and]
    have : decide (sd (b.getD f 0) = S ∧ sd (b.getD t 0) ≠ S ∧ kd (b.getD t 0) ≠ 8) = decide (sd (b.getD t 0) ≠ S ∧ kd (b.getD t 0) ≠ 8) := by simp [hs, -List.getD_eq_getElem?_getD]
    rw [this, Bool.and_assoc]
    congr 1
    cases p with
    | false => simp
    | true =>
      simp only [Bool.not_true, Bool.false_or, if_true]
      unfold mayS
      rw [← Bool.and_assoc, Bool.and_self]
theorem to_eq {b : List Int} (hc : Clean b) (h : List Int) {S : Int} (hS : S = 0 ∨ S = 1) {f t : Nat} (hf : f < 81) (ht : t < 81) (hs : sd (b.getD f 0) = S) :
    (if goesS b S (fun _ => true) f t then one2 (b.getD f 0) f t else []) = rTo b h S f t := by
  unfold rTo rOne one2 goesS
  rw [kgs_iff hc ht]
  cases hr : rch (b.getD f 0) f t (tk b) with
  | false => simp
  | true =>
    rw [mov_eq hc h hS hf ht hs hr, mov_eq hc h hS hf ht hs hr]
    unfold sdP sds
    rw [decide_eq_true (p := S = 0 ∨ S = 1) hS]
    by_cases h1 : sd (b.getD t 0) = S
    · simp [h1, -List.getD_eq_getElem?_getD]
    · by_cases h2 : kd (b.getD t 0) = 8
      · simp [h2, -List.getD_eq_getElem?_getD]
      · simp only [h1, h2, decide_false, decide_true, Bool.and_self, Bool.not_false, Bool.true_and, Bool.and_true, ne_eq, not_false_eq_true, if_true, Bool.false_eq_true, if_false]
        cases mustS (b.getD f 0) t <;> cases mayS (b.getD f 0) f t <;> rfl

theorem mvs_eq {b : List Int} (hc : Clean b) (h : List Int) {S : Int} (hS : S = 0 ∨ S = 1) : mvs b h S = rAll b h S := by
  unfold mvs rAll
  congr 1
  · unfold mvsB
    rw [sq_flat]
    apply flat_congr
    intro f hf
    rw [List.mem_range'_1] at hf
    unfold rFrom
    by_cases hs : sd (b.getD f 0) = S
    · have : sdP b S f = true := by unfold sdP sds; rw [decide_eq_true hs, decide_eq_true (p := S = 0 ∨ S = 1) hS]; rfl
      rw [if_pos this, if_pos hs]
      unfold mvsF
      rw [tn, sq_flat]
      apply flat_congr
      intro t ht
      rw [List.mem_range'_1] at ht
      exact to_eq hc h hS (by omega) (by omega) hs
    · have : sdP b S f = false := by unfold sdP sds; rw [decide_eq_false hs, Bool.and_false]
      rw [if_neg (by simp [this]), if_neg hs]
  · unfold mvsD
    apply flat_congr
    intro k hk
    rw [List.mem_range'_1] at hk
    unfold mvsK rKind
    have e : hdP h S k = hd_ h S k := by unfold hdP; rw [if_pos ⟨hS, by omega, by omega⟩]
    rw [e]
    by_cases h1 : hd_ h S k > 0
    · rw [if_neg (by omega), if_pos h1, sq_map]
      apply flat_congr
      intro t ht
      rw [List.mem_range'_1] at ht
      unfold rDrop
      rw [Bool.and_true]
      have : movS b h S 0 t k false = freS b S k t := by
        unfold movS canS freS fre1
        have e2 : chkM 0 (t : Int) k false = 0 := by
          unfold chkM
          rw [if_neg (by omega), if_pos (by omega), if_pos ⟨by omega, by omega, rfl, rfl⟩]
        rw [e2, pc_ok hS (by omega) (by omega) (by omega), pc_ok hS (by omega) (by omega) (by omega), if_pos (by omega), if_pos (by omega), decide_eq_true (p := S = 0 ∨ S = 1) hS, decide_eq_true (p := (S = 0 ∨ S = 1) ∧ (1 : Int) ≤ k ∧ (k : Int) ≤ 7) ⟨hS, by omega, by omega⟩, deadI_nat _ (by omega), at_in (by omega), tn, decide_eq_true (p := 0 < hd_ h S k) h1]
        unfold tk
        by_cases h2 : (k : Int) = 1
        · rw [h2]
          by_cases h0 : b.getD t 0 = 0 <;> simp [h0]
        · by_cases h0 : b.getD t 0 = 0 <;> simp [h0, h2]
      rw [this]
    · rw [if_pos (by omega), if_neg h1]

end Go.Kk.Pl
