/- What the program's functions come to, told plainly: the texts of this project that this claim leans on, cut down to what is used. -/
import Derived.Test.YtljnnegjhcdlkaaGreatDoorKkU2
import Derived.Test.YtljnnegjhcdlkaaGreatDoorKkU1
namespace Go.Kk.Pl
def rOne (b h : List Int) (S : Int) (f t : Nat) : List (List Int) := (if movS b h S f t 0 false then [[(f : Int), (t : Int), 0, 0]] else []) ++ (if movS b h S f t 0 true then [[(f : Int), (t : Int), 0, 1]] else [])
def rTo (b h : List Int) (S : Int) (f t : Nat) : List (List Int) := if rch (b.getD f 0) f t (tk b) then rOne b h S f t else []
def rFrom (b h : List Int) (S : Int) (f : Nat) : List (List Int) := if sd (b.getD f 0) = S then (List.range' 0 81).flatMap (rTo b h S f) else []
def rDrop (b h : List Int) (S : Int) (k t : Nat) : List (List Int) := if movS b h S 0 t k false then [[0, (t : Int), (k : Int), 0]] else []
def rKind (b h : List Int) (S : Int) (k : Nat) : List (List Int) := if hd_ h S k > 0 then (List.range' 0 81).flatMap (rDrop b h S k) else []
def rAll (b h : List Int) (S : Int) : List (List Int) := (List.range' 0 81).flatMap (rFrom b h S) ++ (List.range' 1 7).flatMap (rKind b h S)
theorem rTo_len (b h : List Int) (S : Int) (f t : Nat) : (rTo b h S f t).length ≤ 2 := by
 unfold rTo rOne
 split
 ·split <;> split <;> simp
 ·simp
theorem rFrom_len (b h : List Int) (S : Int) (f : Nat) : (rFrom b h S f).length ≤ 162 := by
 unfold rFrom
 split
 ·have := flatLen (rTo b h S f) 2 (List.range' 0 81) fun a _ => rTo_len b h S f a
  rw [List.length_range'] at this
  omega
 ·simp
theorem rDrop_len (b h : List Int) (S : Int) (k t : Nat) : (rDrop b h S k t).length ≤ 1 := by
 unfold rDrop; split <;> simp
theorem rKind_len (b h : List Int) (S : Int) (k : Nat) : (rKind b h S k).length ≤ 81 := by
 unfold rKind
 split
 ·have := flatLen (rDrop b h S k) 1 (List.range' 0 81) fun a _ => rDrop_len b h S k a
  rw [List.length_range'] at this
  omega
 ·simp
theorem rTo_goes (b h : List Int) (S : Int) (f : Nat) (hf : f < 81) : ∀ (n t : Nat), t + n = 81 → ∀ (L : List (List Int)) (x0 x6 : Nat), x0 = L.length → x6 = L.length → L.length ≤ 1000000 - 2 * n → ∀ F,
  qAz (F + n + 1) x0 f t b h S x6 L (takenL b) =
   some ((L ++ (List.range' t n).flatMap (rTo b h S f)).length, (f : Int), b, h, S, (L ++ (List.range' t n).flatMap (rTo b h S f)).length, L ++ (List.range' t n).flatMap (rTo b h S f), takenL b) := by
 intro n
 induction n with
 | zero =>
   intro t ht L x0 x6 h0 h6 hb F
   show qCL (qAz (F + 0)) _ _ _ _ _ _ _ _ _ = _
   unfold qCL
   rw [b_nlt (by omega)]
   simp only [List.range'_zero, List.flatMap_nil, List.append_nil, h0, h6]
 | succ n ih =>
   intro t ht L x0 x6 h0 h6 hb F
   show qCL (qAz (F + n + 1)) _ _ _ _ _ _ _ _ _ = _
   unfold qCL
   rw [b_lt (by omega), b_in (by omega) (by omega), tn, c_8, reachT_val b _ hf (by omega), ob_some, w_s (by omega) (by omega), List.range'_succ, List.flatMap_cons, ← List.append_assoc]
   have ih' := ih (t + 1) (by omega) (L ++ rTo b h S f t)
   cases hr : rch (b.getD f 0) f t (tk b) with
   | false =>
     have e : rTo b h S f t = [] := by unfold rTo; rw [hr]; rfl
     rw [Bool.not_false, b_t]
     rw [e, List.append_nil] at ih' ⊢
     exact ih' x0 x6 h0 h6 (by omega) F
   | true =>
     have e : rTo b h S f t = rOne b h S f t := by unfold rTo; rw [hr]; rfl
     rw [e] at ih' ⊢
     rw [Bool.not_true, b_f, refMoves_val, ob_some, tkA h0, tkA h0, tkA2 h0]
     cases hm : movS b h S f t 0 false with
     | true =>
       rw [b_t, b_leN (by omega), refMoves_val, ob_some]
       cases hy : movS b h S f t 0 true with
       | true =>
         rw [b_t, b_leN (by omega)]
         have := ih' (x0 + 1 + 1) (x0 + 1 + 1) (by simp [rOne, hm, hy, h0]) (by simp [rOne, hm, hy, h0]) (by simp [rOne, hm, hy]; omega) F
         rw [← this]
         simp [rOne, hm, hy]
       | false =>
         rw [b_f]
         have := ih' (x0 + 1) (x0 + 1) (by simp [rOne, hm, hy, h0]) (by simp [rOne, hm, hy, h0]) (by simp [rOne, hm, hy]; omega) F
         rw [← this]
         simp [rOne, hm, hy]
     | false =>
       rw [b_f, refMoves_val, ob_some]
       cases hy : movS b h S f t 0 true with
       | true =>
         rw [b_t, b_leN (by omega)]
         have := ih' (x0 + 1) (x0 + 1) (by simp [rOne, hm, hy, h0]) (by simp [rOne, hm, hy, h0]) (by simp [rOne, hm, hy]; omega) F
         rw [← this]
         simp [rOne, hm, hy]
       | false =>
         rw [b_f]
         have := ih' x0 x6 (by simp [rOne, hm, hy, h0]) (by simp [rOne, hm, hy, h6]) (by simp [rOne, hm, hy]; omega) F
         rw [← this]
         simp [rOne, hm, hy]
theorem rFrom_goes (b h : List Int) (S : Int) : ∀ (n f : Nat), f + n = 81 → ∀ (L : List (List Int)) (x0 x6 : Nat), x0 = L.length → x6 = L.length → L.length ≤ 900000 - 200 * n → ∀ F,
  qAJ (F + n + 1) x0 f b h S x6 L (takenL b) =
   some ((L ++ (List.range' f n).flatMap (rFrom b h S)).length, b, h, S, (L ++ (List.range' f n).flatMap (rFrom b h S)).length, L ++ (List.range' f n).flatMap (rFrom b h S)) := by
 intro n
 induction n with
 | zero =>
   intro f hf L x0 x6 h0 h6 hb F
   show qCO (qAJ (F + 0)) _ _ _ _ _ _ _ _ = _
   unfold qCO
   rw [b_nlt (by omega)]
   simp only [List.range'_zero, List.flatMap_nil, List.append_nil, h0, h6]
 | succ n ih =>
   intro f hf L x0 x6 h0 h6 hb F
   show qCO (qAJ (F + n + 1)) _ _ _ _ _ _ _ _ = _
   unfold qCO
   have hl := rFrom_len b h S f
   rw [b_lt (by omega), b_in (by omega) (by omega), tn, c_8, refSide_val, ob_some, List.range'_succ, List.flatMap_cons, ← List.append_assoc]
   have ih' := ih (f + 1) (by omega) (L ++ rFrom b h S f)
   by_cases h1 : sd (b.getD f 0) = S
   ·have e : rFrom b h S f = (List.range' 0 81).flatMap (rTo b h S f) := by unfold rFrom; rw [if_pos h1]
    rw [b_nne h1]
    obtain ⟨g, hg⟩ := many_eq 81 (by omega)
    have := rTo_goes b h S f (by omega) 81 0 (by omega) L x0 x6 h0 h6 (by omega) g
    rw [← hg] at this
    rw [show qAz many x0 f 0 b h S x6 L (takenL b) = _ from this, ob_some]
    simp only
    rw [w_s (by omega) (by omega), ← e]
    exact ih' _ _ rfl rfl (by rw [List.length_append]; omega) F
   ·have e : rFrom b h S f = [] := by unfold rFrom; rw [if_neg h1]
    rw [b_ne h1, w_s (by omega) (by omega)]
    rw [e, List.append_nil] at ih' ⊢
    exact ih' x0 x6 h0 h6 (by omega) F
theorem rDrop_goes (b h : List Int) {S : Int} (hS : S = 0 ∨ S = 1) (k : Nat) (hk : k < 8) : ∀ (n t : Nat), t + n = 81 → ∀ (L : List (List Int)) (x0 x6 : Nat), x0 = L.length → x6 = L.length → L.length ≤ 1000000 - 2 * n → ∀ F,
  qA0 (F + n + 1) x0 k t b h S x6 L =
   some ((L ++ if hd_ h S k > 0 then (List.range' t n).flatMap (rDrop b h S k) else []).length, (k : Int), b, h, S, (L ++ if hd_ h S k > 0 then (List.range' t n).flatMap (rDrop b h S k) else []).length, L ++ if hd_ h S k > 0 then (List.range' t n).flatMap (rDrop b h S k) else []) := by
 intro n
 induction n with
 | zero =>
   intro t ht L x0 x6 h0 h6 hb F
   show qCN (qA0 (F + 0)) _ _ _ _ _ _ _ _ = _
   unfold qCN
   rw [b_nlt (by omega)]
   simp only [List.range'_zero, List.flatMap_nil, ite_self, List.append_nil, h0, h6]
 | succ n ih =>
   intro t ht L x0 x6 h0 h6 hb F
   show qCN (qA0 (F + n + 1)) _ _ _ _ _ _ _ _ = _
   unfold qCN
   rw [b_lt (by omega), b_in (by omega) (by omega), b_in (by omega) (by omega)]
   have ih' := ih (t + 1) (by omega) (L ++ rDrop b h S k t)
   by_cases h1 : hd_ h S k > 0
   ·rw [show List.getD h (S.toNat * 8 + Int.toNat (k : Int)) 0 = hd_ h S k from rfl, b_gt h1, refMoves_val, ob_some, tkA h0, w_s (by omega) (by omega)]
    simp only [if_pos h1] at ih' ⊢
    rw [List.range'_succ, List.flatMap_cons, ← List.append_assoc]
    cases hm : movS b h S 0 t k false with
    | true =>
      have e : rDrop b h S k t = [[0, (t : Int), (k : Int), 0]] := by unfold rDrop; rw [hm]; rfl
      rw [b_t, b_leN (by omega)]
      rw [e] at ih' ⊢
      exact ih' (x0 + 1) (x0 + 1) (by simp [h0]) (by simp [h0]) (by simp; omega) F
    | false =>
      have e : rDrop b h S k t = [] := by unfold rDrop; rw [hm]; rfl
      rw [b_f]
      rw [e, List.append_nil] at ih' ⊢
      exact ih' x0 x6 h0 h6 (by omega) F
   ·rw [show List.getD h (S.toNat * 8 + Int.toNat (k : Int)) 0 = hd_ h S k from rfl, b_ngt h1, if_neg h1, List.append_nil, h0, h6]
theorem rKind_goes (b h : List Int) {S : Int} (hS : S = 0 ∨ S = 1) : ∀ (n k : Nat), k + n = 8 → ∀ (L : List (List Int)) (x0 x6 : Nat), x0 = L.length → x6 = L.length → L.length ≤ 900000 - 200 * n → ∀ F,
  qAI (F + n + 1) x0 k b h S x6 L =
   some ((L ++ (List.range' k n).flatMap (rKind b h S)).length, (L ++ (List.range' k n).flatMap (rKind b h S)).length, L ++ (List.range' k n).flatMap (rKind b h S)) := by
 intro n
 induction n with
 | zero =>
   intro k hk L x0 x6 h0 h6 hb F
   show qCM (qAI (F + 0)) _ _ _ _ _ _ _ = _
   unfold qCM
   rw [b_nle (by omega)]
   simp only [List.range'_zero, List.flatMap_nil, List.append_nil, h0, h6]
 | succ n ih =>
   intro k hk L x0 x6 h0 h6 hb F
   show qCM (qAI (F + n + 1)) _ _ _ _ _ _ _ = _
   unfold qCM
   have hl := rKind_len b h S k
   obtain ⟨g, hg⟩ := many_eq 81 (by omega)
   have := rDrop_goes b h hS k (by omega) 81 0 (by omega) L x0 x6 h0 h6 (by omega) g
   rw [← hg] at this
   rw [b_le (by omega), show qA0 many x0 k 0 b h S x6 L = _ from this, ob_some]
   simp only
   have e : List.range' k (n + 1) = k :: List.range' (k + 1) n := List.range'_succ
   rw [w_s (by omega) (by omega), e, List.flatMap_cons, ← List.append_assoc]
   exact ih (k + 1) (by omega) (L ++ rKind b h S k) _ _ rfl rfl (by rw [List.length_append]; omega) F
theorem rFroms_len (b h : List Int) (S : Int) : ((List.range' 0 81).flatMap (rFrom b h S)).length ≤ 162 * 81 := by
 have := flatLen (rFrom b h S) 162 (List.range' 0 81) fun a _ => rFrom_len b h S a
 rw [List.length_range'] at this
 exact this
theorem refAll_val (b h : List Int) {S : Int} (hS : S = 0 ∨ S = 1) : qCK b h S = some ((rAll b h S).length, (rAll b h S).length, rAll b h S) := by
 have main : (ob (qAS b h S) fun a3 =>
  ob (qAJ many 0 0 b h S 0 [] a3) fun (a4_0, a4_1, a4_2, a4_3, a4_4, a4_5) =>
  ob (qAI many a4_0 1 a4_1 a4_2 a4_3 a4_4 a4_5) fun (a10_0, a10_1, a10_2) =>
  (some (a10_0, a10_1, a10_2) : Option (Nat × Nat × List (List Int)))) = some ((rAll b h S).length, (rAll b h S).length, rAll b h S) := by
  rw [taken_val, ob_some]
  have hl := rFroms_len b h S
  obtain ⟨g, hg⟩ := many_eq 81 (by omega)
  have := rFrom_goes b h S 81 0 (by omega) [] 0 0 rfl rfl (by simp only [List.length_nil]; omega) g
  rw [← hg, List.nil_append] at this
  rw [show qAJ many 0 0 b h S 0 [] (takenL b) = _ from this, ob_some]
  simp only
  obtain ⟨g, hg⟩ := many_eq 7 (by omega)
  have := rKind_goes b h hS 7 1 (by omega) ((List.range' 0 81).flatMap (rFrom b h S)) _ _ rfl rfl (by omega) g
  rw [← hg] at this
  rw [show qAI many ((List.range' 0 81).flatMap (rFrom b h S)).length 1 b h S ((List.range' 0 81).flatMap (rFrom b h S)).length ((List.range' 0 81).flatMap (rFrom b h S)) = _ from this, ob_some]
  rfl
 unfold qCK
 rcases hS with rfl | rfl
 ·rw [b_nne rfl]; exact main
 ·rw [b_ne (by omega), b_nne rfl]; exact main
theorem flat_filter {α β γ : Type} (p : α → Bool) (f : α → β) (g : β → List γ) (L : List α) : ((L.filter p).map f).flatMap g = L.flatMap fun a => if p a then g (f a) else [] := by
 induction L with
 | nil => rfl
 | cons a L ih =>
   rw [List.filter_cons, List.flatMap_cons]
   cases h : p a with
   | true => rw [if_pos rfl, if_pos rfl, List.map_cons, List.flatMap_cons, ih]
   | false => rw [if_neg (by simp), if_neg (by simp), ih]; rfl
theorem sq_flat {γ : Type} (p : Nat → Bool) (g : Int → List γ) : (sq p).flatMap g = (List.range' 0 81).flatMap fun (i : Nat) => if p i then g (i : Int) else [] := by
 unfold sq; rw [flat_filter, range81']; rfl
theorem flat_congr {α β : Type} {f g : α → List β} {L : List α} (h : ∀ a ∈ L, f a = g a) : L.flatMap f = L.flatMap g := by
 induction L with
 | nil => rfl
 | cons a L ih => rw [List.flatMap_cons, List.flatMap_cons, h a (by simp), ih fun x hx => h x (by simp [hx])]
theorem sq_map {γ : Type} (p : Nat → Bool) (g : Int → γ) : (sq p).map g = (List.range' 0 81).flatMap fun (i : Nat) => if p i then [g (i : Int)] else [] := by
 rw [← sq_flat p fun t => [g t]]
 induction sq p with
 | nil => rfl
 | cons a L ih => rw [List.map_cons, List.flatMap_cons, ih]; rfl
theorem kgs_iff {b : List Int} (_hc : Clean b) {c : Nat} (_hcc : c < 81) : kgs b c = decide (kd (b.getD c 0) = 8) := by
 unfold kgs pcs
 rw [pc_ok (.inl rfl) (by omega) (by omega) (by omega), pc_ok (.inr rfl) (by omega) (by omega) (by omega), Bool.eq_iff_iff]
 simp only [Bool.or_eq_true, decide_eq_true_eq]
 constructor
 ·rintro (⟨_, h⟩ | ⟨_, h⟩) <;> rw [h] <;> decide
 ·intro h
  have := pc_of (x := b.getD c 0) (by omega)
  rw [h] at this
  have hs := sd_range (x := b.getD c 0) (by omega)
  rcases hs with h1 | h1 <;> rw [h1, pc_ok (by omega) (by omega) (by omega) (by omega)] at this
  ·left; omega
  ·right; omega
theorem mov_eq {b : List Int} (_hc : Clean b) (h : List Int) {S : Int} (hS : S = 0 ∨ S = 1) {f t : Nat} (hf : f < 81) (ht : t < 81) (hs : sd (b.getD f 0) = S) (hr : rch (b.getD f 0) f t (tk b) = true) (p : Bool) :
  movS b h S f t 0 p = (decide (sd (b.getD t 0) ≠ S ∧ kd (b.getD t 0) ≠ 8) && if p = true then mayS (b.getD f 0) f t else !mustS (b.getD f 0) t) := by
 unfold movS canS
 rw [if_neg (by simp), if_neg (by simp), at_in (by omega), at_in (by omega), tn, tn, hr, decide_eq_true (p := S = 0 ∨ S = 1) hS, Bool.true_and, Bool.true_and]
 by_cases hft : f = t
 ·subst hft
  have : decide (sd (b.getD f 0) = S ∧ sd (b.getD f 0) ≠ S ∧ kd (b.getD f 0) ≠ 8) = false := decide_eq_false fun hh => hh.2.1 hs
  rw [this, Bool.false_and, Bool.and_false, Bool.false_and, decide_eq_false (p := sd (b.getD f 0) ≠ S ∧ kd (b.getD f 0) ≠ 8) (fun hh => hh.1 hs), Bool.false_and]
 ·have e : chkM f t 0 p = 0 := by
   unfold chkM
   rw [if_neg (by omega), if_neg (by simp), if_neg (by omega), if_neg (by omega)]
  rw [decide_eq_true e, Bool.true_and]
  have : decide (sd (b.getD f 0) = S ∧ sd (b.getD t 0) ≠ S ∧ kd (b.getD t 0) ≠ 8) = decide (sd (b.getD t 0) ≠ S ∧ kd (b.getD t 0) ≠ 8) := by simp [hs, -List.getD_eq_getElem?_getD]
  rw [this, Bool.and_assoc]
  congr 1
  cases p with
  | false => simp
  | true =>
    simp only [Bool.not_true, Bool.false_or, if_true]
    unfold mayS
    rw [← Bool.and_assoc, Bool.and_self]
theorem to_eq {b : List Int} (hc : Clean b) (h : List Int) {S : Int} (hS : S = 0 ∨ S = 1) {f t : Nat} (hf : f < 81) (ht : t < 81) (hs : sd (b.getD f 0) = S) :
  (if goesS b S (fun _ => true) f t then one2 (b.getD f 0) f t else []) = rTo b h S f t := by
 unfold rTo rOne one2 goesS
 rw [kgs_iff hc ht]
 cases hr : rch (b.getD f 0) f t (tk b) with
 | false => simp
 | true =>
   rw [mov_eq hc h hS hf ht hs hr, mov_eq hc h hS hf ht hs hr]
   unfold sdP sds
   rw [decide_eq_true (p := S = 0 ∨ S = 1) hS]
   by_cases h1 : sd (b.getD t 0) = S
   ·simp [h1, -List.getD_eq_getElem?_getD]
   ·by_cases h2 : kd (b.getD t 0) = 8
    ·simp [h2, -List.getD_eq_getElem?_getD]
    ·simp only [h1, h2, decide_false, Bool.and_self, Bool.not_false, Bool.true_and, ne_eq, not_false_eq_true, if_true, Bool.false_eq_true, if_false]
     cases mustS (b.getD f 0) t <;> cases mayS (b.getD f 0) f t <;> rfl
theorem mvs_eq {b : List Int} (hc : Clean b) (h : List Int) {S : Int} (hS : S = 0 ∨ S = 1) : mvs b h S = rAll b h S := by
 unfold mvs rAll
 congr 1
 ·unfold mvsB
  rw [sq_flat]
  apply flat_congr
  intro f hf
  rw [List.mem_range'_1] at hf
  unfold rFrom
  by_cases hs : sd (b.getD f 0) = S
  ·have : sdP b S f = true := by unfold sdP sds; rw [decide_eq_true hs, decide_eq_true (p := S = 0 ∨ S = 1) hS]; rfl
   rw [if_pos this, if_pos hs]
   unfold mvsF
   rw [tn, sq_flat]
   apply flat_congr
   intro t ht
   rw [List.mem_range'_1] at ht
   exact to_eq hc h hS (by omega) (by omega) hs
  ·have : sdP b S f = false := by unfold sdP sds; rw [decide_eq_false hs, Bool.and_false]
   rw [if_neg (by simp [this]), if_neg hs]
 ·unfold mvsD
  apply flat_congr
  intro k hk
  rw [List.mem_range'_1] at hk
  unfold mvsK rKind
  have e : hdP h S k = hd_ h S k := by unfold hdP; rw [if_pos ⟨hS, by omega, by omega⟩]
  rw [e]
  by_cases h1 : hd_ h S k > 0
  ·rw [if_neg (by omega), if_pos h1, sq_map]
   apply flat_congr
   intro t ht
   rw [List.mem_range'_1] at ht
   unfold rDrop
   rw [Bool.and_true]
   have : movS b h S 0 t k false = freS b S k t := by
    unfold movS canS freS fre1
    have e2 : chkM 0 (t : Int) k false = 0 := by
     unfold chkM
     rw [if_neg (by omega), if_pos (by omega), if_pos ⟨by omega, by omega, rfl, rfl⟩]
    rw [e2, pc_ok hS (by omega) (by omega) (by omega), pc_ok hS (by omega) (by omega) (by omega), if_pos (by omega), if_pos (by omega), decide_eq_true (p := S = 0 ∨ S = 1) hS, decide_eq_true (p := (S = 0 ∨ S = 1) ∧ (1 : Int) ≤ k ∧ (k : Int) ≤ 7) ⟨hS, by omega, by omega⟩, deadI_nat _ (by omega), at_in (by omega), tn, decide_eq_true (p := 0 < hd_ h S k) h1]
    unfold tk
    by_cases h2 : (k : Int) = 1
    ·rw [h2]
     by_cases h0 : b.getD t 0 = 0 <;> simp
    ·by_cases h0 : b.getD t 0 = 0 <;> simp [h2]
   rw [this]
  ·rw [if_pos (by omega), if_neg h1]
end Go.Kk.Pl
namespace Go.Kk.Pl
theorem hd0 (m : List Int) : List.headD (List.take 4 m) 0 = m.getD 0 0 := by cases m <;> rfl
theorem hd1 (m : List Int) : List.headD (List.tail (List.take 4 m)) 0 = m.getD 1 0 := by
 rcases m with _ | ⟨a, _ | ⟨b, m⟩⟩ <;> rfl
theorem hd2 (m : List Int) : List.headD (List.tail (List.tail (List.take 4 m))) 0 = m.getD 2 0 := by
 rcases m with _ | ⟨a, _ | ⟨b, _ | ⟨c, m⟩⟩⟩ <;> rfl
theorem hd3 (m : List Int) : List.headD (List.tail (List.tail (List.tail (List.take 4 m)))) 0 = m.getD 3 0 := by
 rcases m with _ | ⟨a, _ | ⟨b, _ | ⟨c, _ | ⟨d, m⟩⟩⟩⟩ <;> rfl
theorem same_goes (L : List (List Int)) (hl : L.length ≤ 1000000) (N M : Nat) : ∀ (n i : Nat), i + n = L.length → ∀ F,
  qA2 (F + n + 1) L.length L.length i N L M L = some (.inr (N, L, M, L)) := by
 intro n
 induction n with
 | zero =>
   intro i hi F
   show qCP (qA2 (F + 0)) _ _ _ _ _ _ _ = _
   unfold qCP
   rw [b_nlt (by simp only [Int.ofNat_eq_natCast]; omega)]
 | succ n ih =>
   intro i hi F
   show qCP (qA2 (F + n + 1)) _ _ _ _ _ _ _ = _
   unfold qCP
   rw [b_lt (by simp only [Int.ofNat_eq_natCast]; omega), b_in (by omega) (by omega), b_in (by omega) (by omega)]
   simp only [beq_self_eq_true, Bool.and_self, Bool.not_true, b_f]
   rw [w_s (by omega) (by omega)]
   exact ih (i + 1) (by omega) F
theorem same_val (L : List (List Int)) (hl : L.length ≤ 1000000) (N M : Nat) : qC6 L.length L.length N L M L = some true := by
 unfold qC6
 rw [b_nne rfl]
 obtain ⟨g, hg⟩ := many_eq L.length (by omega)
 have := same_goes L hl N M L.length 0 (by omega) g
 rw [← hg] at this
 rw [show qA2 many L.length L.length 0 N L M L = _ from this, ob_some]
 rfl
theorem one2_mem {x f t : Int} {m : List Int} (h : m ∈ one2 x f t) : ∃ p : Int, m = [f, t, 0, p] := by
 unfold one2 at h
 rw [List.mem_append] at h
 rcases h with h | h
 ·split at h
  ·cases h
  ·exact ⟨0, by simpa using h⟩
 ·split at h
  ·exact ⟨1, by simpa using h⟩
  ·cases h
theorem mvsF_mem {b : List Int} {S : Int} {G : Nat → Bool} {f : Int} {m : List Int} (h : m ∈ mvsF b S G f) : ∃ t p : Int, m = [f, t, 0, p] := by
 unfold mvsF at h
 obtain ⟨t, _, ht⟩ := List.mem_flatMap.1 h
 obtain ⟨p, hp⟩ := one2_mem ht
 exact ⟨t, p, hp⟩
theorem mvsB_mem {b : List Int} {S : Int} {G : Nat → Bool} {m : List Int} (h : m ∈ mvsB b S G) : ∃ f t p : Int, m = [f, t, 0, p] := by
 unfold mvsB at h
 obtain ⟨f, _, hf⟩ := List.mem_flatMap.1 h
 obtain ⟨t, p, hp⟩ := mvsF_mem hf
 exact ⟨f, t, p, hp⟩
theorem mvsK_mem {b h : List Int} {S : Int} {G : Nat → Bool} {k : Nat} {m : List Int} (hm : m ∈ mvsK b h S G k) : ∃ t : Int, m = [0, t, (k : Int), 0] := by
 unfold mvsK at hm
 split at hm
 ·cases hm
 ·obtain ⟨t, _, ht⟩ := List.mem_map.1 hm
  exact ⟨t, ht.symm⟩
theorem mvsD_mem {b h : List Int} {S : Int} {G : Nat → Bool} {m : List Int} (hm : m ∈ mvsD b h S G) : ∃ (k : Nat) (t : Int), 1 ≤ k ∧ k ≤ 7 ∧ m = [0, t, (k : Int), 0] := by
 unfold mvsD at hm
 obtain ⟨k, hk, h2⟩ := List.mem_flatMap.1 hm
 rw [List.mem_range'_1] at hk
 obtain ⟨t, ht⟩ := mvsK_mem h2
 exact ⟨k, t, by omega, by omega, ht⟩
theorem mvs_len (b h : List Int) (S : Int) : (mvs b h S).length ≤ 20000 := by
 unfold mvs
 have h1 := mvsB_len b S fun _ => true
 have h2 := mvsD_len b h S fun _ => true
 rw [List.length_append]
 omega
end Go.Kk.Pl
namespace Go.Kk.Pl
theorem getM_put (es : List (List Int × List Int)) (r v r' d : List Int) : getM (putM es r v) r' d = if r' = r then v else getM es r' d := by
 induction es with
 | nil =>
   by_cases h : r' = r
   ·subst h; simp [putM, getM]
   ·have : (r == r') = false := by simpa using fun hh => h hh.symm
    simp [putM, getM, this, h]
 | cons x es ih =>
   obtain ⟨k, u⟩ := x
   by_cases hk : k = r
   ·subst hk
    by_cases h : r' = k
    ·subst h; simp [putM, getM]
    ·have : (k == r') = false := by simpa using fun hh => h hh.symm
     simp [putM, getM, this, h]
   ·have e1 : (k == r) = false := by simpa using hk
    by_cases hk' : k = r'
    ·subst hk'
     simp [putM, getM, e1, hk]
    ·have e2 : (k == r') = false := by simpa using hk'
     simp only [putM, e1, cond_false, getM, e2, ih]
theorem hasM_put (es : List (List Int × List Int)) (r v r' : List Int) : hasM (putM es r v) r' = (decide (r' = r) || hasM es r') := by
 induction es with
 | nil =>
   by_cases h : r' = r
   ·subst h; simp [putM, hasM]
   ·have : (r == r') = false := by simpa using fun hh => h hh.symm
    simp [putM, hasM, this, h]
 | cons x es ih =>
   obtain ⟨k, u⟩ := x
   by_cases hk : k = r
   ·subst hk
    by_cases h : r' = k
    ·subst h; simp [putM, hasM]
    ·have : (k == r') = false := by simpa using fun hh => h hh.symm
     simp [putM, hasM, this, h]
   ·have e1 : (k == r) = false := by simpa using hk
    by_cases hk' : k = r'
    ·subst hk'
     simp [putM, hasM, e1]
    ·have e2 : (k == r') = false := by simpa using hk'
     simp only [putM, e1, cond_false, hasM, e2, ih, Bool.false_or]
structure MvOK (b h : List Int) (S f t d p : Int) : Prop where
 pp : p = 0 ∨ p = 1
 mov : movS b h S f t d (p != 0) = true
 tr : 0 ≤ t ∧ t < 81
 fr : 0 ≤ f ∧ f < 81
 dr : 0 ≤ d ∧ d ≤ 7
 drop : d ≠ 0 → f = 0 ∧ p = 0 ∧ 0 < hd_ h S d ∧ at_ b t = 0
theorem mvs_mem {b h : List Int} (hc : Clean b) {S : Int} (hS : S = 0 ∨ S = 1) {m : List Int} (hm : m ∈ mvs b h S) : ∃ f t d p : Int, m = [f, t, d, p] ∧ MvOK b h S f t d p := by
 rw [mvs_eq hc h hS] at hm
 unfold rAll at hm
 rw [List.mem_append] at hm
 rcases hm with hm | hm
 ·obtain ⟨f, hf, hm⟩ := List.mem_flatMap.1 hm
  rw [List.mem_range'_1] at hf
  unfold rFrom at hm
  split at hm <;> try cases hm
  obtain ⟨t, ht, hm⟩ := List.mem_flatMap.1 hm
  rw [List.mem_range'_1] at ht
  unfold rTo at hm
  split at hm <;> try cases hm
  unfold rOne at hm
  rw [List.mem_append] at hm
  rcases hm with hm | hm
  ·split at hm
   ·rename_i hmv
    rw [List.mem_singleton] at hm
    exact ⟨f, t, 0, 0, hm, .inl rfl, hmv, by omega, by omega, by omega, fun h => absurd rfl h⟩
   ·cases hm
  ·split at hm
   ·rename_i hmv
    rw [List.mem_singleton] at hm
    exact ⟨f, t, 0, 1, hm, .inr rfl, hmv, by omega, by omega, by omega, fun h => absurd rfl h⟩
   ·cases hm
 ·obtain ⟨k, hk, hm⟩ := List.mem_flatMap.1 hm
  rw [List.mem_range'_1] at hk
  unfold rKind at hm
  split at hm <;> try cases hm
  rename_i hh
  obtain ⟨t, ht, hm⟩ := List.mem_flatMap.1 hm
  rw [List.mem_range'_1] at ht
  unfold rDrop at hm
  split at hm
  case isFalse => cases hm
  rename_i hmv
  rw [List.mem_singleton] at hm
  refine ⟨0, t, k, 0, hm, .inl rfl, hmv, by omega, by omega, by omega, fun h => ⟨rfl, rfl, hh, ?_⟩⟩
  have := hmv
  unfold movS canS at this
  rw [if_pos h] at this
  simp only [Bool.and_eq_true, decide_eq_true_eq] at this
  exact this.1.2.2.2
end Go.Kk.Pl
namespace Go.Kk.Pl
theorem step_small {x : Int} {a c : Nat} (h : stepB x a c = true) : -1 ≤ df a c ∧ df a c ≤ 1 ∧ -2 ≤ dr a c ∧ dr a c ≤ 2 ∧ (dr a c = 2 ∨ dr a c = -2 → df a c = 1 ∨ df a c = -1) ∧ ¬ (df a c = 0 ∧ dr a c = 0) := by
 have h := of_decide_eq_true h
 unfold stpK at h
 have : upS x a c = dr a c ∨ upS x a c = - dr a c := by unfold upS; split <;> simp
 omega
theorem step_btw {x : Int} {a c : Nat} (h : stepB x a c = true) : btw a c = [] := by
 have hs := step_small h
 unfold btw
 by_cases hl : lineS a c = 0
 ·rw [if_pos hl]
 ·rw [if_neg hl]
  have hl := (line_lie a c).mp hl
  unfold lieS at hl
  have : mx a c ≤ 1 := by
   unfold mx
   split <;> omega
  rw [show mx a c - 1 = 0 by omega]
  rfl
theorem step_self {x : Int} {a : Nat} : stepB x a a = false := by
 cases h : stepB x a a with
 | false => rfl
 | true => exact absurd (geo_self a) (step_small h).2.2.2.2.2
theorem slide_self {x : Int} {a : Nat} : slideB x a a = false := by
 unfold slideB
 have := geo_self a
 have : upS x a a = 0 := by unfold upS; split <;> omega
 rw [decide_eq_false]
 unfold slK
 omega
theorem rch_self {x : Int} {a : Nat} {t : Nat → Bool} : rch x a a t = false := by
 unfold rch; rw [step_self, slide_self]; rfl
theorem btw_way {k c f : Nat} (hk : k < 81) (hc : c < 81) (h : f ∈ btw c k) : f < 81 ∧ f ≠ k ∧ f ≠ c ∧ ∃ n : Nat, (wayL (sgn (df k f)) (sgn (dr k f)) k)[n]? = some c ∧ ∀ i, (i ∈ btw c k ↔ i ∈ (wayL (sgn (df k f)) (sgn (dr k f)) k).take n) := by
 have hf : f ∈ btw k c := btw_back hc hk h
 have hl : lineS k c ≠ 0 := by intro h0; unfold btw at hf; rw [if_pos h0] at hf; cases hf
 have := chkA_all ⟨k, hk⟩ ⟨c, hc⟩
 simp only [chkA, Bool.or_eq_true, decide_eq_true_eq, Bool.and_eq_true, beq_iff_eq, Bool.not_eq_true'] at this
 obtain ⟨e1, e2, e3⟩ := this.resolve_left hl
 have hW : f ∈ wayL (sgn (df k c)) (sgn (dr k c)) k := List.mem_of_mem_take (by rw [e1]; exact hf)
 have hli := (line_lie k c).mp hl
 have sx : -1 ≤ sgn (df k c) ∧ sgn (df k c) ≤ 1 := by unfold sgn; split <;> (try split) <;> omega
 have sy : -1 ≤ sgn (dr k c) ∧ sgn (dr k c) ≤ 1 := by unfold sgn; split <;> (try split) <;> omega
 have sn : ¬ (sgn (df k c) = 0 ∧ sgn (dr k c) = 0) := by
  unfold lieS at hli
  unfold sgn
  split <;> split <;> (try split) <;> (try split) <;> omega
 have hB := chkB_all ⟨((sgn (df k c) + 1) * 3 + (sgn (dr k c) + 1)).toNat, by omega⟩ ⟨k, hk⟩
 simp only at hB
 rw [show (((((sgn (df k c) + 1) * 3 + (sgn (dr k c) + 1)).toNat / 3 : Nat) : Int) - 1) = sgn (df k c) by omega, show (((((sgn (df k c) + 1) * 3 + (sgn (dr k c) + 1)).toNat % 3 : Nat) : Int) - 1) = sgn (dr k c) by omega] at hB
 have hB := hB.resolve_left (by omega)
 unfold chkB at hB
 rw [List.all_eq_true] at hB
 have hB := hB f hW
 simp only [Bool.and_eq_true, decide_eq_true_eq] at hB
 obtain ⟨b1, b2, b3, b4⟩ := hB
 refine ⟨b1, ?_, ?_, (btw k c).length, ?_, ?_⟩
 ·rintro rfl
  exact b2 (by unfold lineS; rw [if_pos rfl])
 ·rintro rfl
  rw [List.contains_iff_mem.mpr hf] at e3
  cases e3
 ·rw [b3, b4]; exact e2
 ·intro i
  rw [b3, b4, e1]
  exact ⟨btw_back hc hk, btw_back hk hc⟩
theorem btw_two {k c c' f : Nat} (hk : k < 81) (hc : c < 81) (hc' : c' < 81) (h : f ∈ btw c k) (h' : f ∈ btw c' k) (hne : c ≠ c') : c ∈ btw c' k ∨ c' ∈ btw c k := by
 obtain ⟨_, _, _, n, e, m⟩ := btw_way hk hc h
 obtain ⟨_, _, _, n', e', m'⟩ := btw_way hk hc' h'
 rcases Nat.lt_trichotomy n n' with hn | hn | hn
 ·left
  rw [m', List.mem_iff_getElem?]
  exact ⟨n, by rw [List.getElem?_take, if_pos hn]; exact e⟩
 ·subst hn
  rw [e] at e'
  exact absurd (Option.some.inj e') hne
 ·right
  rw [m, List.mem_iff_getElem?]
  exact ⟨n', by rw [List.getElem?_take, if_pos hn]; exact e'⟩
def enm (b : List Int) (s : Int) (c : Nat) : Bool := decide (sd (b.getD c 0) = 1 - s)
def atk (b : List Int) (s : Int) (k c : Nat) : Bool := enm b s c && rch (b.getD c 0) c k (tk b)
def tk2 (b : List Int) (f t i : Nat) : Bool := decide (i = t) || (!decide (i = f) && tk b i)
def att2 (b : List Int) (s : Int) (k f t c : Nat) : Bool := decide (c ≠ t) && (enm b s c && rch (b.getD c 0) c k (tk2 b f t))
def pinB (b : List Int) (s : Int) (k f c : Nat) : Bool := enm b s c && (slideB (b.getD c 0) c k && ((btw c k).contains f && (tk b f && (decide (sd (b.getD f 0) = s) && (btw c k).all fun i => i == f || !tk b i))))
theorem pin_iff {b : List Int} {s : Int} {k f c : Nat} : pinB b s k f c = true ↔ enm b s c = true ∧ slideB (b.getD c 0) c k = true ∧ f ∈ btw c k ∧ tk b f = true ∧ sd (b.getD f 0) = s ∧ ∀ i ∈ btw c k, i ≠ f → tk b i = false := by
 unfold pinB
 simp only [Bool.and_eq_true, decide_eq_true_eq, List.all_eq_true, Bool.or_eq_true, beq_iff_eq, Bool.not_eq_true', List.contains_iff_mem]
 constructor
 ·rintro ⟨h1, h2, h3, h4, h5, h6⟩
  exact ⟨h1, h2, h3, h4, h5, fun i hi hn => (h6 i hi).resolve_left hn⟩
 ·rintro ⟨h1, h2, h3, h4, h5, h6⟩
  exact ⟨h1, h2, h3, h4, h5, fun i hi => by by_cases hn : i = f; exact .inl hn; exact .inr (h6 i hi hn)⟩
theorem enm_tk {b : List Int} {s : Int} (hs : s = 0 ∨ s = 1) {c : Nat} (h : enm b s c = true) : tk b c = true := by
 have h := of_decide_eq_true h
 unfold tk
 rw [decide_eq_true_eq]
 intro h0
 rw [h0, sd_zero] at h
 omega
theorem pin_one {b : List Int} {s : Int} (hs : s = 0 ∨ s = 1) {k f c c' : Nat} (hk : k < 81) (hc : c < 81) (hc' : c' < 81) (h : pinB b s k f c = true) (h' : pinB b s k f c' = true) : c = c' := by
 apply Classical.byContradiction
 intro hne
 rw [pin_iff] at h h'
 rcases btw_two hk hc hc' h.2.2.1 h'.2.2.1 hne with hm | hm
 ·have := h'.2.2.2.2.2 c hm (fun e => (btw_way hk hc h.2.2.1).2.2.1 e.symm)
  rw [enm_tk hs h.1] at this
  cases this
 ·have := h.2.2.2.2.2 c' hm (fun e => (btw_way hk hc' h'.2.2.1).2.2.1 e.symm)
  rw [enm_tk hs h'.1] at this
  cases this
theorem pin_sq {b : List Int} {s : Int} {k f f' c : Nat} (h : pinB b s k f c = true) (h' : pinB b s k f' c = true) : f = f' := by
 apply Classical.byContradiction
 intro hne
 rw [pin_iff] at h h'
 have := h'.2.2.2.2.2 f h.2.2.1 hne
 rw [h.2.2.2.1] at this
 cases this
theorem rch_iff {x : Int} {a c : Nat} {t : Nat → Bool} : rch x a c t = true ↔ stepB x a c = true ∨ (slideB x a c = true ∧ ∀ i ∈ btw a c, t i = false) := by
 unfold rch
 rw [Bool.or_eq_true, Bool.and_eq_true, free_iff]
theorem att2_iff {b : List Int} {s : Int} {k f t : Nat} (hf : tk b f = true → sd (b.getD f 0) = s) :
  (∀ c, c < 81 → att2 b s k f t c = false) ↔ (∀ c, c < 81 → atk b s k c = true → t = c ∨ t ∈ btw c k) ∧ (∀ c, c < 81 → pinB b s k f c = true → t = c ∨ t ∈ btw c k) := by
 constructor
 ·intro h
  refine ⟨fun c hc ha => ?_, fun c hc hp => ?_⟩
  ·apply Classical.byContradiction
   intro hn
   simp only [not_or] at hn
   have := h c hc
   rw [show att2 b s k f t c = true from ?_] at this
   ·cases this
   ·simp only [atk, Bool.and_eq_true] at ha
    simp only [att2, Bool.and_eq_true, decide_eq_true_eq]
    refine ⟨fun e => hn.1 e.symm, ha.1, ?_⟩
    rw [rch_iff] at ha ⊢
    refine ha.2.imp id fun hh => ⟨hh.1, fun i hi => ?_⟩
    unfold tk2
    rw [hh.2 i hi, decide_eq_false (p := i = t) (fun e => hn.2 (e ▸ hi))]
    simp
  ·apply Classical.byContradiction
   intro hn
   simp only [not_or] at hn
   have := h c hc
   rw [show att2 b s k f t c = true from ?_] at this
   ·cases this
   ·rw [pin_iff] at hp
    simp only [att2, Bool.and_eq_true, decide_eq_true_eq]
    refine ⟨fun e => hn.1 e.symm, hp.1, ?_⟩
    rw [rch_iff]
    refine .inr ⟨hp.2.1, fun i hi => ?_⟩
    unfold tk2
    rw [decide_eq_false (p := i = t) (fun e => hn.2 (e ▸ hi))]
    by_cases hif : i = f
    ·simp [hif]
    ·rw [hp.2.2.2.2.2 i hi hif]; simp
 ·rintro ⟨h1, h2⟩ c hc
  cases ha : att2 b s k f t c with
  | false => rfl
  | true =>
    exfalso
    simp only [att2, Bool.and_eq_true, decide_eq_true_eq] at ha
    obtain ⟨hct, he, hr⟩ := ha
    have tt : tk2 b f t t = true := by unfold tk2; simp
    have out : t ∉ btw c k := by
     intro hm
     rw [rch_iff] at hr
     rcases hr with hr | hr
     ·rw [step_btw hr] at hm; cases hm
     ·rw [hr.2 t hm] at tt; cases tt
    cases hak : atk b s k c with
    | true => exact (h1 c hc hak).elim (fun e => hct e.symm) out
    | false =>
      unfold atk at hak
      rw [he, Bool.true_and] at hak
      have hn : ¬ (stepB (b.getD c 0) c k = true ∨ (slideB (b.getD c 0) c k = true ∧ ∀ i ∈ btw c k, tk b i = false)) := by
       rw [← rch_iff, hak]; simp
      simp only [not_or, not_and] at hn
      rw [rch_iff] at hr
      have hr := hr.resolve_left hn.1
      have two : ∀ i ∈ btw c k, i ≠ f → tk b i = false := by
       intro i hi hif
       have := hr.2 i hi
       unfold tk2 at this
       rw [decide_eq_false hif] at this
       simpa using (Bool.or_eq_false_iff.mp this).2
      have hmf : f ∈ btw c k ∧ tk b f = true := by
       apply Classical.byContradiction
       intro hh
       apply hn.2 hr.1
       intro i hi
       by_cases hif : i = f
       ·subst hif
        cases htk : tk b i with
        | false => rfl
        | true => exact absurd ⟨hi, htk⟩ hh
       ·exact two i hi hif
      exact (h2 c hc (pin_iff.mpr ⟨he, hr.1, hmf.1, hmf.2, hf hmf.2, two⟩)).elim (fun e => hct e.symm) out
theorem two_chk {b : List Int} {s : Int} (hs : s = 0 ∨ s = 1) {k c c' t : Nat} (hk : k < 81) (hc : c < 81) (hc' : c' < 81) (h : atk b s k c = true) (h' : atk b s k c' = true) (hne : c ≠ c')
  (ht : t = c ∨ t ∈ btw c k) (ht' : t = c' ∨ t ∈ btw c' k) : False := by
 have no : ∀ {c c' : Nat}, atk b s k c = true → atk b s k c' = true → c ∈ btw c' k → False := by
  intro c c' h h' hm
  simp only [atk, Bool.and_eq_true] at h h'
  rcases rch_iff.mp h'.2 with hr | hr
  ·rw [step_btw hr] at hm; cases hm
  ·have := hr.2 c hm
   rw [enm_tk hs h.1] at this; cases this
 rcases ht with rfl | ht
 ·rcases ht' with rfl | ht'
  ·exact hne rfl
  ·exact no h h' ht'
 ·rcases ht' with rfl | ht'
  ·exact no h' h ht
  ·rcases btw_two hk hc hc' ht ht' hne with hm | hm
   ·exact no h h' hm
   ·exact no h' h hm
end Go.Kk.Pl
namespace Go.Kk.Pl
theorem cntS_congr {f g : Nat → Bool} (h : ∀ i, i < 81 → f i = g i) : cntS f = cntS g := by
 unfold cntS
 apply List.countP_congr
 intro i hi
 rw [h i (List.mem_range.mp hi)]
theorem cnt_only : ∀ f : Fin 81, cntS (only ((f.val : Nat) : Int)) = 1 := by decide +kernel
theorem cnt_one {g : Nat → Bool} : cntS g = 1 ↔ ∃ f, f < 81 ∧ ∀ i, i < 81 → (g i = true ↔ i = f) := by
 constructor
 ·intro h
  unfold cntS at h
  rw [List.countP_eq_length_filter] at h
  obtain ⟨f, hf⟩ := List.length_eq_one_iff.mp h
  have hm : ∀ i, i ∈ (List.range 81).filter g ↔ i = f := by rw [hf]; simp
  refine ⟨f, ?_, fun i hi => ?_⟩
  ·have := (hm f).mpr rfl
   rw [List.mem_filter, List.mem_range] at this
   exact this.1
  ·rw [← hm i, List.mem_filter, List.mem_range]
   exact ⟨fun h => ⟨hi, h⟩, fun h => h.2⟩
 ·rintro ⟨f, hf, h⟩
  rw [← cnt_only ⟨f, hf⟩]
  apply cntS_congr
  intro i hi
  unfold only
  rw [Bool.eq_iff_iff, h i hi, decide_eq_true_eq]
  simp only
  omega
theorem fst_one {g : Nat → Bool} {f : Nat} (hf : f < 81) (h : ∀ i, i < 81 → (g i = true ↔ i = f)) : fst g = f := by
 apply fst_some hf ((h f hf).mpr rfl)
 intro i hi
 cases hg : g i with
 | false => rfl
 | true => exact absurd ((h i (by omega)).mp hg) (by omega)
def wayP (k c : Nat) (i : Nat) : Bool := (btw c k).contains i || only c i
def pinF (b : List Int) (s : Int) (k c : Nat) : Option Nat := (List.range 81).find? fun f => pinB b s k f c
theorem pinF_some {b : List Int} {s : Int} {k c f : Nat} (h : pinB b s k f c = true) (hf : f < 81) : pinF b s k c = some f := by
 unfold pinF
 cases hp : (List.range 81).find? fun f => pinB b s k f c with
 | none =>
   rw [List.find?_eq_none] at hp
   exact absurd h (hp f (List.mem_range.mpr hf))
 | some f' =>
   have := List.find?_some hp
   rw [pin_sq this h]
theorem pinF_none {b : List Int} {s : Int} {k c : Nat} (h : ∀ f, f < 81 → pinB b s k f c = false) : pinF b s k c = none := by
 unfold pinF
 rw [List.find?_eq_none]
 intro f hf
 rw [h f (List.mem_range.mp hf)]
 simp
def PinsI (b : List Int) (s : Int) (k : Nat) (P : Nat → Bool) (es : List (List Int × List Int)) : Prop :=
 ∀ f : Nat, f < 81 → (hasM es [(f : Int)] = true ↔ ∃ c, c < 81 ∧ P c = true ∧ pinB b s k f c = true) ∧ ∀ c, c < 81 → P c = true → pinB b s k f c = true → getM es [(f : Int)] [0, 0] = prS (wayP k c)
theorem pin_step {b : List Int} (hcl : Clean b) (h : List Int) (S : Int) {s : Int} (hs : s = 0 ∨ s = 1) {k : Nat} (hk : k < 81) (x2 : Nat) (x3 x4 : Int) (x14 : Nat) (x15 : List Int) (N : Nat) (L : List Int) {i : Nat} (hi : i < L.length) (hl : L.length ≤ 1000) {c : Nat} (hc : c < 81) (hq : L[i] = (c : Int)) (he : enm b s c = true)
  (es : List (List Int × List Int)) (R : Int → Int → Nat → Int → Int → Nat → Int → Int → List Int → List Int → Int → List (List Int) → List (List Int) → List (List Int × List Int) → Nat → List Int → Nat → List Int → Option (Int × Int × Nat × Int × Int × List Int × List Int × Int × List (List Int) × List (List Int) × List (List Int × List Int) × Nat × List Int)) :
  qBE R s k x2 x3 x4 L.length L.length i b h S (byOf b) (sidesOf b) es x14 x15 N L =
   R s k x2 x3 x4 L.length L.length ((i + 1 : Nat) : Int) b h S (byOf b) (sidesOf b) (match pinF b s k c with | none => es | some f => putM es [(f : Int)] (prS (wayP k c))) x14 x15 N L := by
 unfold qBE
 have hget : L.getD i 0 = L[i] := at_i hi
 rw [b_lt (by omega), b_in (by omega) (by omega), tn, hget, hq, rayBetween_val hc hk, ob_some]
 simp only
 rw [takenB_val hcl, ob_some]
 simp only
 rw [and_val, ob_some]
 simp only
 rw [count_set, ob_some, w_s (n := (i : Int) + 1) (by omega) (by omega)]
 have inm : ∀ f, f < 81 → pinB b s k f c = true → ∀ i, i < 81 → (((btw c k).contains i && tk b i) = true ↔ i = f) := by
  intro f _ hp i _
  rw [pin_iff] at hp
  rw [Bool.and_eq_true, List.contains_iff_mem]
  constructor
  ·rintro ⟨h1, h2⟩
   apply Classical.byContradiction
   intro hn
   rw [hp.2.2.2.2.2 i h1 hn] at h2; cases h2
  ·rintro rfl; exact ⟨hp.2.2.1, hp.2.2.2.1⟩
 by_cases h1 : ((cntS fun i => (btw c k).contains i && tk b i : Nat) : Int) = 1
 ·rw [b_nne h1]
  obtain ⟨f, hf, hm⟩ := cnt_one.mp (by omega : (cntS fun i => (btw c k).contains i && tk b i) = 1)
  have only_f : ∀ f', f' < 81 → pinB b s k f' c = true → f' = f := fun f' hf' hp => (hm f' hf').mp ((inm f' hf' hp f' hf').mpr rfl)
  have none' : pinB b s k f c = false → pinF b s k c = none := by
   intro h0
   apply pinF_none
   intro f' hf'
   cases hp : pinB b s k f' c with
   | false => rfl
   | true => rw [only_f f' hf' hp, h0] at hp; cases hp
  have hmf := (hm f hf).mpr rfl
  rw [Bool.and_eq_true, List.contains_iff_mem] at hmf
  rw [piecesB_val, ob_some]
  simp only
  rw [and_val, ob_some]
  simp only
  rw [empty_val, ob_some]
  by_cases hsd : sd (b.getD f 0) = s
  ·have hE0 : isE (fun i => ((btw c k).contains i && tk b i) && sdP b s i) = false := by
    cases hE : isE (fun i => ((btw c k).contains i && tk b i) && sdP b s i) with
    | false => rfl
    | true =>
      have := isE_iff.mp hE f hf
      rw [(hm f hf).mpr rfl] at this
      unfold sdP sds at this
      rw [decide_eq_true hs, decide_eq_true hsd] at this
      cases this
   rw [hE0, b_f]
   rw [first_val, ob_some, at_val, ob_some, at_in (by omega), tn]
   rw [fst_one hf hm, ob_some]
   simp only
   rw [without_val, ob_some]
   simp only
   rw [rayOf_val _ hc, ob_some]
   simp only
   rw [has_val, ob_some]
   have hh : ∀ g : Nat → Bool, has g (k : Int) = g k := by
    intro g; unfold has; rw [decide_eq_true (by omega), decide_eq_true (by omega), tn]; rfl
   rw [hh]
   cases hr1 : rch (b.getD c 0) c k (fun i => tk b i && !only f i) with
   | false =>
     rw [Bool.not_false, b_t, none' ?_]
     ·rfl
     ·cases hp : pinB b s k f c with
      | false => rfl
      | true =>
        rw [pin_iff] at hp
        rw [← hr1, rch_iff.mpr (.inr ⟨hp.2.1, ?_⟩)]
        intro i hi
        by_cases hif : i = f
        ·subst hif; unfold only; simp
        ·rw [hp.2.2.2.2.2 i hi hif]; rfl
   | true =>
     rw [Bool.not_true, b_f, ob_some, ob_some]
     simp only
     rw [rayOf_val _ hc, ob_some]
     simp only
     rw [has_val, ob_some, hh]
     cases hr2 : rch (b.getD c 0) c k (tk b) with
     | true =>
       rw [b_t, none' ?_]
       ·rfl
       ·cases hp : pinB b s k f c with
        | false => rfl
        | true =>
          rw [pin_iff] at hp
          rcases rch_iff.mp hr2 with hr | hr
          ·rw [step_btw hr] at hmf; cases hmf.1
          ·rw [hr.2 f hmf.1] at hmf; cases hmf.2
     | false =>
       have hn : ¬ (stepB (b.getD c 0) c k = true ∨ (slideB (b.getD c 0) c k = true ∧ ∀ i ∈ btw c k, tk b i = false)) := by
        rw [← rch_iff, hr2]; simp
       simp only [not_or] at hn
       have hp : pinB b s k f c = true := by
        rw [pin_iff]
        refine ⟨he, ((rch_iff.mp hr1).resolve_left hn.1).1, hmf.1, hmf.2, hsd, fun i hi hif => ?_⟩
        cases htk : tk b i with
        | false => rfl
        | true =>
          exact absurd ((hm i (btw_mem hc hk hi)).mp (by rw [Bool.and_eq_true, List.contains_iff_mem]; exact ⟨hi, htk⟩)) hif
       rw [b_f, with_val, ob_some, pinF_some hp hf]
       rfl
  ·have hE0 : isE (fun i => ((btw c k).contains i && tk b i) && sdP b s i) = true := by
    rw [isE_iff]
    intro i hi
    cases hx : ((btw c k).contains i && tk b i) with
    | false => rfl
    | true =>
      rw [(hm i hi).mp hx]
      unfold sdP sds
      rw [decide_eq_false hsd]; simp
   rw [hE0, b_t, none' ?_]
   ·rfl
   ·cases hp : pinB b s k f c with
    | false => rfl
    | true => exact absurd (pin_iff.mp hp).2.2.2.2.1 hsd
 ·rw [b_ne h1, pinF_none ?_]
  ·rfl
  ·intro f hf
   cases hp : pinB b s k f c with
   | false => rfl
   | true =>
     have := cnt_one.mpr ⟨f, hf, inm f hf hp⟩
     omega
theorem pin_add {b : List Int} {s : Int} (hs : s = 0 ∨ s = 1) {k : Nat} (hk : k < 81) {P : Nat → Bool} {es : List (List Int × List Int)} (hP : PinsI b s k P es) {c : Nat} (hc : c < 81) :
  PinsI b s k (fun i => P i || decide (i = c)) (match pinF b s k c with | none => es | some f => putM es [(f : Int)] (prS (wayP k c))) := by
 cases hp : pinF b s k c with
 | none =>
   unfold pinF at hp
   rw [List.find?_eq_none] at hp
   intro f hf
   have hno := hp f (List.mem_range.mpr hf)
   obtain ⟨h1, h2⟩ := hP f hf
   refine ⟨?_, ?_⟩
   ·rw [h1]
    constructor
    ·rintro ⟨c', a, a', a''⟩; exact ⟨c', a, by simp [a'], a''⟩
    ·rintro ⟨c', a, a', a''⟩
     rw [Bool.or_eq_true, decide_eq_true_eq] at a'
     rcases a' with a' | rfl
     ·exact ⟨c', a, a', a''⟩
     ·exact absurd a'' hno
   ·intro c' a a' a''
    rw [Bool.or_eq_true, decide_eq_true_eq] at a'
    rcases a' with a' | rfl
    ·exact h2 c' a a' a''
    ·exact absurd a'' hno
 | some g =>
   have hg := List.find?_some (show (List.range 81).find? (fun f => pinB b s k f c) = some g from hp)
   have hg' : g < 81 := List.mem_range.mp (List.mem_of_find?_eq_some (show (List.range 81).find? (fun f => pinB b s k f c) = some g from hp))
   intro f hf
   obtain ⟨h1, h2⟩ := hP f hf
   simp only
   rw [hasM_put, getM_put]
   by_cases hfg : f = g
   ·subst hfg
    rw [decide_eq_true rfl, if_pos rfl]
    refine ⟨⟨fun _ => ⟨c, hc, by simp, hg⟩, fun _ => rfl⟩, fun c' a _ a'' => ?_⟩
    rw [pin_one hs hk hc a hg a'']
   ·have hne : ¬ ([(f : Int)] = [(g : Int)]) := by
     intro e
     have := List.cons.inj e
     omega
    rw [decide_eq_false hne, if_neg hne, Bool.false_or]
    have hno : ¬ pinB b s k f c = true := fun hp' => hfg (pin_sq hp' hg)
    refine ⟨?_, ?_⟩
    ·rw [h1]
     constructor
     ·rintro ⟨c', a, a', a''⟩; exact ⟨c', a, by simp [a'], a''⟩
     ·rintro ⟨c', a, a', a''⟩
      rw [Bool.or_eq_true, decide_eq_true_eq] at a'
      rcases a' with a' | rfl
      ·exact ⟨c', a, a', a''⟩
      ·exact absurd a'' hno
    ·intro c' a a' a''
     rw [Bool.or_eq_true, decide_eq_true_eq] at a'
     rcases a' with a' | rfl
     ·exact h2 c' a a' a''
     ·exact absurd a'' hno
theorem pinsI_congr {b : List Int} {s : Int} {k : Nat} {P Q : Nat → Bool} {es : List (List Int × List Int)} (h : ∀ i, i < 81 → P i = Q i) (hP : PinsI b s k P es) : PinsI b s k Q es := by
 intro f hf
 obtain ⟨h1, h2⟩ := hP f hf
 refine ⟨?_, fun c hc hq => h2 c hc (by rw [h c hc]; exact hq)⟩
 rw [h1]
 constructor
 ·rintro ⟨c, a, a', a''⟩; exact ⟨c, a, by rw [← h c a]; exact a', a''⟩
 ·rintro ⟨c, a, a', a''⟩; exact ⟨c, a, by rw [h c a]; exact a', a''⟩
theorem pin_goes {b : List Int} (hcl : Clean b) (h : List Int) (S : Int) {s : Int} (hs : s = 0 ∨ s = 1) {k : Nat} (hk : k < 81) (x2 : Nat) (x3 x4 : Int) (x14 : Nat) (x15 : List Int) (N : Nat) (L : List Int) (hl : L.length ≤ 1000) (hL : ∀ q ∈ L, 0 ≤ q ∧ q < 81 ∧ enm b s q.toNat = true) : ∀ (n i : Nat), i + n = L.length → ∀ (P : Nat → Bool) (es : List (List Int × List Int)), PinsI b s k P es →
  ∃ es', (∀ F, qAb (F + n + 1) s k x2 x3 x4 L.length L.length i b h S (byOf b) (sidesOf b) es x14 x15 N L = some (s, (k : Int), x2, x3, x4, b, h, S, byOf b, sidesOf b, es', x14, x15)) ∧ PinsI b s k (fun c => P c || (L.drop i).contains (c : Int)) es' := by
 intro n
 induction n with
 | zero =>
   intro i hi P es hP
   refine ⟨es, fun F => ?_, ?_⟩
   ·show qBE (qAb (F + 0)) _ _ _ _ _ _ _ _ _ _ _ _ _ _ _ _ _ _ = _
    unfold qBE
    rw [b_nlt (by omega)]
   ·rw [List.drop_eq_nil_of_le (by omega)]
    exact pinsI_congr (fun i _ => by simp) hP
 | succ n ih =>
   intro i hi P es hP
   have hil : i < L.length := by omega
   obtain ⟨q0, q1, q2⟩ := hL L[i] (List.getElem_mem hil)
   obtain ⟨c, hc⟩ : ∃ c : Nat, L[i] = c := ⟨L[i].toNat, by omega⟩
   rw [hc] at q0 q1 q2
   obtain ⟨es', h1, h2⟩ := ih (i + 1) (by omega) _ _ (pin_add hs hk hP (c := c) (by omega))
   refine ⟨es', fun F => ?_, pinsI_congr (fun j _ => ?_) h2⟩
   ·show qBE (qAb (F + n + 1)) _ _ _ _ _ _ _ _ _ _ _ _ _ _ _ _ _ _ = _
    rw [pin_step hcl h S hs hk x2 x3 x4 x14 x15 N L hil hl (by omega) hc q2]
    exact h1 F
   ·rw [List.drop_eq_getElem_cons hil, List.contains_cons, hc, Bool.or_assoc]
    congr 2
    rw [Bool.eq_iff_iff, decide_eq_true_eq, beq_iff_eq]
    omega
def kindsP : List Int := [2, 6, 7, 14, 15]
theorem kind_goes {b : List Int} (hcl : Clean b) (h : List Int) (S : Int) {s : Int} (hs : s = 0 ∨ s = 1) {k : Nat} (hk : k < 81) : ∀ (n i : Nat), i + n = 5 → ∀ (P : Nat → Bool) (es : List (List Int × List Int)), PinsI b s k P es →
  ∃ es', (∀ F, qAa (F + n + 1) s k 5 5 i b h S (byOf b) (sidesOf b) es 5 kindsP = some (b, h, S, byOf b, sidesOf b, es')) ∧ PinsI b s k (fun c => P c || (kindsP.drop i).any fun x => pcs b (pc (1 - s) x) c) es' := by
 intro n
 induction n with
 | zero =>
   intro i hi P es hP
   refine ⟨es, fun F => ?_, ?_⟩
   ·show qBg (qAa (F + 0)) _ _ _ _ _ _ _ _ _ _ _ _ _ = _
    unfold qBg
    rw [b_nlt (by omega)]
   ·rw [List.drop_eq_nil_of_le (by show 5 ≤ i; omega)]
    exact pinsI_congr (fun i _ => by simp) hP
 | succ n ih =>
   intro i hi P es hP
   have hil : i < kindsP.length := by show i < 5; omega
   obtain ⟨x, hx, hget, hdr⟩ : ∃ x, (x = 2 ∨ x = 6 ∨ x = 7 ∨ x = 14 ∨ x = 15) ∧ kindsP.getD i 0 = x ∧ kindsP.drop i = x :: kindsP.drop (i + 1) := by
    have : ∀ j : Fin 5, (kindsP.getD j.val 0 = 2 ∨ kindsP.getD j.val 0 = 6 ∨ kindsP.getD j.val 0 = 7 ∨ kindsP.getD j.val 0 = 14 ∨ kindsP.getD j.val 0 = 15) ∧ kindsP.drop j.val = kindsP.getD j.val 0 :: kindsP.drop (j.val + 1) := by decide
    have := this ⟨i, hil⟩
    exact ⟨kindsP.getD i 0, this.1, rfl, this.2⟩
   obtain ⟨es1, h1, h2⟩ := pin_goes hcl h S hs hk 5 5 i 5 kindsP (sq (pcs b (pc (1 - s) x))).length (sq (pcs b (pc (1 - s) x))) (by have := sq_len (pcs b (pc (1 - s) x)); omega) (by
    intro q hq
    obtain ⟨a, a', a''⟩ := sq_mem hq
    refine ⟨a, a', ?_⟩
    have := of_decide_eq_true a''
    unfold enm
    rw [this.2, (sd_pc (s := 1 - s) (by omega) (k := x) (by omega) (by omega) (by omega)).1]
    simp) (sq (pcs b (pc (1 - s) x))).length 0 (by omega) P es hP
   obtain ⟨es', h3, h4⟩ := ih (i + 1) (by omega) _ _ h2
   obtain ⟨g, hg⟩ := many_eq (sq (pcs b (pc (1 - s) x))).length (by have := sq_len (pcs b (pc (1 - s) x)); omega)
   refine ⟨es', fun F => ?_, pinsI_congr (fun j hj => ?_) h4⟩
   ·show qBg (qAa (F + n + 1)) _ _ _ _ _ _ _ _ _ _ _ _ _ = _
    unfold qBg
    rw [b_lt (by omega), b_in (by omega) (by omega), tn, hget, w_s (n := 1 - s) (by omega) (by omega), ofB_val, ob_some]
    simp only
    rw [squares_val, ob_some]
    simp only
    have := h1 g
    rw [← hg] at this
    rw [show qAb many s k 5 5 i (sq (pcs b (pc (1 - s) x))).length (Int.ofNat (sq (pcs b (pc (1 - s) x))).length) 0 b h S (byOf b) (sidesOf b) es 5 kindsP (sq (pcs b (pc (1 - s) x))).length (sq (pcs b (pc (1 - s) x))) = _ from this, ob_some]
    simp only
    rw [w_s (n := (i : Int) + 1) (by omega) (by omega)]
    exact h3 F
   ·rw [hdr, List.any_cons, List.drop_zero, ← Bool.or_assoc]
    congr 2
    cases hp : pcs b (pc (1 - s) x) j with
    | true => rw [List.contains_iff_mem.mpr (mem_sq hj hp)]
    | false =>
      cases hcn : (sq (pcs b (pc (1 - s) x))).contains (j : Int) with
      | false => rfl
      | true =>
        have := (sq_mem (List.contains_iff_mem.mp hcn)).2.2
        rw [tn, hp] at this
        cases this
theorem slide_kind {b : List Int} {s : Int} (_hs : s = 0 ∨ s = 1) {c k : Nat} (he : enm b s c = true) (h : slideB (b.getD c 0) c k = true) : (kindsP.any fun x => pcs b (pc (1 - s) x) c) = true := by
 have he := of_decide_eq_true he
 have h := of_decide_eq_true h
 have hk : kd (b.getD c 0) = 2 ∨ kd (b.getD c 0) = 6 ∨ kd (b.getD c 0) = 7 ∨ kd (b.getD c 0) = 14 ∨ kd (b.getD c 0) = 15 := by
  unfold slK at h; omega
 have hx := pc_of (x := b.getD c 0) (by omega)
 rw [List.any_eq_true]
 refine ⟨kd (b.getD c 0), ?_, ?_⟩
 ·unfold kindsP
  rcases hk with h | h | h | h | h <;> rw [h] <;> simp
 ·unfold pcs
  rw [decide_eq_true_eq, ← he, ← hx]
  refine ⟨fun h0 => ?_, rfl⟩
  rw [h0, kd_zero] at hk
  omega
theorem pinned_val {b : List Int} (hcl : Clean b) (h : List Int) (S : Int) {s : Int} (hs : s = 0 ∨ s = 1) : ∃ es, qBe s b h S (byOf b) (sidesOf b) = some es ∧
  (kg b s < 0 → es = []) ∧ (0 ≤ kg b s → PinsI b s (kg b s).toNat (fun c => enm b s c && (kindsP.any fun x => pcs b (pc (1 - s) x) c)) es) := by
 have hr := fst_range (pcs b (pc s 8))
 unfold qBe
 rw [kingB_val, show fst (pcs b (pc s 8)) = kg b s from rfl, ob_some]
 by_cases hk : kg b s < 0
 ·rw [b_lt hk]
  exact ⟨[], rfl, fun _ => rfl, fun h => by omega⟩
 ·rw [b_nlt hk]
  have hk1 : kg b s < 81 := hr.2
  obtain ⟨k, hkk⟩ : ∃ k : Nat, kg b s = k := ⟨(kg b s).toNat, by omega⟩
  rw [hkk]
  have h0 : PinsI b s k (fun _ => false) [] := by
   intro f hf
   exact ⟨⟨fun h => (by cases h), fun ⟨_, _, h, _⟩ => (by cases h)⟩, fun _ _ h => (by cases h)⟩
  obtain ⟨es, h1, h2⟩ := kind_goes hcl h S hs (k := k) (by omega) 5 0 rfl _ [] h0
  obtain ⟨g, hg⟩ := many_eq 5 (by omega)
  have := h1 g
  rw [← hg] at this
  refine ⟨es, ?_, fun h => by omega, fun _ => ?_⟩
  ·rw [show qAa many s k 5 5 0 b h S (byOf b) (sidesOf b) [] 5 [2, 6, 7, 14, 15] = _ from this, ob_some]
  ·rw [tn]
   refine pinsI_congr (fun i _ => ?_) h2
   rw [List.drop_zero, Bool.false_or]
   cases ha : (kindsP.any fun x => pcs b (pc (1 - s) x) i) with
   | false => simp
   | true =>
     rw [List.any_eq_true] at ha
     obtain ⟨x, hx, hp⟩ := ha
     have := of_decide_eq_true hp
     unfold kindsP at hx
     have hx' : x = 2 ∨ x = 6 ∨ x = 7 ∨ x = 14 ∨ x = 15 := by simpa using hx
     unfold enm
     rw [this.2, (sd_pc (s := 1 - s) (by omega) (k := x) (by omega) (by omega) (by omega)).1]
     simp
end Go.Kk.Pl
namespace Go.Kk.Pl
def laid (b : List Int) (s f d : Int) (p : Bool) : Int := if d ≠ 0 then 16 * s + d else if p = true then 16 * s + up_ (kd (at_ b f)) else at_ b f
def was (b : List Int) (s f d : Int) : Int := if d ≠ 0 then 16 * s + d else at_ b f
def mb (b : List Int) (s f t d : Int) (p : Bool) : List Int := if d ≠ 0 then put b t (laid b s f d p) else put (put b f 0) t (laid b s f d p)
def mh (b h : List Int) (s t d : Int) : List Int := if d ≠ 0 then hset h s d (-1) else if at_ b t = 0 then h else hset h s (rw_ (kd (at_ b t))) 1
def mkey (K : Int) (b h : List Int) (s f t d : Int) (p : Bool) : Int := kturn (if d ≠ 0 then kput (khand K h s d (-1)) b t (laid b s f d p) else
 if at_ b t = 0 then kput (kput K b f 0) (put b f 0) t (laid b s f d p) else khand (kput (kput K b f 0) (put b f 0) t (laid b s f d p)) h s (rw_ (kd (at_ b t))) 1)
theorem up_range {k : Int} (h : up_ k ≠ 0) : 1 ≤ up_ k ∧ up_ k ≤ 15 ∧ up_ k ≠ 13 := by
 unfold up_ at h ⊢
 split
 ·omega
 ·rename_i h2; rw [if_neg h2] at h; exact absurd rfl h
theorem make_val {b : List Int} (hc : Clean b) (h : List Int) {s : Int} (hs : s = 0 ∨ s = 1) (f t d : Int) (p : Bool) : ∃ c, (∀ K n by_ sides m st, qr f t d p K n b h s by_ sides m st = some c) ∧
  ((c = false ∧ ∀ K n by_ sides m st, qa f t d p K n b h s by_ sides m st = some (.inl (false, K, n, b, h, s, by_, sides, m, st))) ∨
   (c = true ∧ CanP b h s f t d p ∧ ∀ K n by_ sides m st, (n + 1) * 40 ≤ 140737488355328 → ∃ by' sides', qa f t d p K n b h s by_ sides m st =
    some (.inr (true, mkey K b h s f t d p, n + 1, mb b s f t d p, mh b h s t d, 1 - s, by', sides', n + 1, List.append (List.take n st) [[f, t, d, bi p, at_ b t, was b s f d]])))) := by
 obtain ⟨c, hcan, hP⟩ := can_val b h hs f t d p
 refine ⟨c, hcan, ?_⟩
 cases c with
 | false =>
   refine .inl ⟨rfl, fun K n by_ sides m st => ?_⟩
   unfold qa
   rw [hcan, ob_some, br_true (by rfl)]
 | true =>
   have hP := hP rfl
   refine .inr ⟨rfl, hP, fun K n by_ sides m st hn => ?_⟩
   have hn' : decide ((n + 1) * 40 ≤ 140737488355328) = true := by simpa using hn
   unfold qa
   rw [hcan, ob_some, br_false (by rfl), at_val, ob_some]
   by_cases hd : d = 0
   ·obtain ⟨f0, f1, f2, g1, g2, g3, g4⟩ := hP.move hd
    rw [br_false (by simpa using hd), at_val, ob_some]
    have hx : ∀ {α : Type} (k : Int → Option α), (br p (ob (qA (at_ b f)) fun a16 => ob (qf a16) fun a17 => ob (qG s a17) k) (k (at_ b f))) = k (laid b s f d p) := by
     intro α k
     unfold laid
     rw [if_neg (by simpa using hd)]
     cases p with
     | false => rfl
     | true =>
       obtain ⟨u1, u2, u3⟩ := up_range (g4 rfl)
       rw [br_true rfl, kind_val, ob_some, up_val, ob_some, of_val hs u1 u2 u3, ob_some, if_pos rfl]
    obtain ⟨by1, sides1, p1⟩ := gput_val hc f 0 K n h s by_ sides m st
    obtain ⟨by2, sides2, p2⟩ := gput_val (hc.put f 0) t (laid b s f d p) (kput K b f 0) n h s by1 sides1 m st
    have tail : ∃ by' sides', (br (at_ b t != 0)
      (ob (qA (at_ b t)) fun a37 =>
      ob (qAQ a37) fun a38 =>
      ob (qh s a38 1 (kput (kput K b f 0) (put b f 0) t (laid b s f d p)) n (put (put b f 0) t (laid b s f d p)) h s by2 sides2 m st) fun (a39_0, a39_1, a39_2, a39_3, a39_4, a39_5, a39_6, a39_7, a39_8) =>
      ob (qR a39_0 a39_1 a39_2 a39_3 a39_4 a39_5 a39_6 a39_7 a39_8) fun (a48_0, a48_1, a48_2, a48_3, a48_4, a48_5, a48_6, _, a48_8) =>
      br (decide ((a48_1 + 1) * 40 ≤ 140737488355328))
       (some (Sum.inr (true, a48_0, a48_1 + 1, a48_2, a48_3, a48_4, a48_5, a48_6, a48_1 + 1, List.append (List.take a48_1 a48_8) [[f, t, d, bi p, at_ b t, at_ b f]])))
       (none))
      (ob (qR (kput (kput K b f 0) (put b f 0) t (laid b s f d p)) n (put (put b f 0) t (laid b s f d p)) h s by2 sides2 m st) fun (a37_0, a37_1, a37_2, a37_3, a37_4, a37_5, a37_6, _, a37_8) =>
      br (decide ((a37_1 + 1) * 40 ≤ 140737488355328))
       (some (Sum.inr (true, a37_0, a37_1 + 1, a37_2, a37_3, a37_4, a37_5, a37_6, a37_1 + 1, List.append (List.take a37_1 a37_8) [[f, t, d, bi p, at_ b t, at_ b f]])))
       (none)) : Option ((Bool × Int × Nat × List Int × List Int × Int × List (List Int) × List (List Int) × Nat × List (List Int)) ⊕ (Bool × Int × Nat × List Int × List Int × Int × List (List Int) × List (List Int) × Nat × List (List Int)))) =
      some (.inr (true, mkey K b h s f t d p, n + 1, mb b s f t d p, mh b h s t d, 1 - s, by', sides', n + 1, List.append (List.take n st) [[f, t, d, bi p, at_ b t, was b s f d]])) := by
     refine ⟨by2, sides2, ?_⟩
     unfold mkey mb mh was
     by_cases ht : at_ b t = 0
     ·rw [br_false (by simpa using ht), gturn_val hs, ob_some]
      simp only
      rw [br_true hn']
      simp [hd, ht]
     ·have hk := (hc.at_ t).resolve_left ht
      obtain ⟨r1, r2⟩ := rw_range hk g3
      obtain ⟨k1, k2, k3⟩ := kd_bounds (at_ b t)
      rw [br_true (by simpa using ht), kind_val, ob_some, raw_val k1 k2, ob_some, ghand_val hs r1 r2 1 (.inl rfl), ob_some]
      simp only
      rw [gturn_val hs, ob_some]
      simp only
      rw [br_true hn']
      simp [hd, ht]
    obtain ⟨by', sides', ht⟩ := tail
    refine ⟨by', sides', Eq.trans ?_ ht⟩
    cases p with
    | true =>
      have hx := hx (fun a18 => ob (qI f 0 K n b h s by_ sides m st) fun (a19_0, a19_1, a19_2, a19_3, a19_4, a19_5, a19_6, a19_7, a19_8) =>
       ob (qI t a18 a19_0 a19_1 a19_2 a19_3 a19_4 a19_5 a19_6 a19_7 a19_8) fun r => some r)
      rw [br_true rfl] at hx ⊢
      obtain ⟨u1, u2, u3⟩ := up_range (g4 rfl)
      have hl : laid b s f d true = 16 * s + up_ (kd (at_ b f)) := by unfold laid; rw [if_neg (by simpa using hd), if_pos rfl]
      rw [kind_val, ob_some, up_val, ob_some, of_val hs u1 u2 u3, ob_some, p1, ob_some]
      simp only
      rw [← hl, p2, ob_some]
    | false =>
      have hl : laid b s f d false = at_ b f := by unfold laid; rw [if_neg (by simpa using hd), if_neg (by simp)]
      rw [br_false rfl, p1, ob_some]
      simp only
      rw [hl] at p2 ⊢
      rw [p2, ob_some]
   ·obtain ⟨d0, d1, d2, d3, g1, g2⟩ := hP.drop hd
    have hl : laid b s f d p = 16 * s + d := by unfold laid; rw [if_pos hd]
    have e1 : qG s d = some (laid b s f d p) := by rw [hl]; exact of_val hs (by omega) (by omega) (by omega)
    obtain ⟨by1, sides1, p1⟩ := gput_val hc t (laid b s f d p) (khand K h s d (-1)) n (hset h s d (-1)) s by_ sides m st
    refine ⟨by1, sides1, ?_⟩
    rw [br_true (by simpa using hd), e1, ob_some, ghand_val hs (by omega) d1 (-1) (.inr rfl), ob_some]
    simp only
    rw [p1, ob_some]
    simp only
    rw [gturn_val hs, ob_some]
    simp only
    rw [br_true hn']
    unfold mkey mb mh was
    simp only [if_pos hd, hl]
end Go.Kk.Pl
namespace Go.Kk.Pl
theorem new_goes {b : List Int} (hc : Clean b) (h : List Int) (s : Int) : ∀ (n i : Nat), i + n = 81 → ∀ (B : List Int) (by_ sides : List (List Int)), Clean B → (∀ j, j < i → B.getD j 0 = b.getD j 0) →
  ∃ by' sides', ∀ f, qQ (f + n + 1) b i B h s by_ sides = some (b, h, s, by', sides') := by
 intro n
 induction n with
 | zero =>
   intro i hi B by_ sides hB hj
   have e : B = b := by
    refine List.ext_getElem (by rw [hB.len, hc.len]) fun j h1 h2 => ?_
    have := hj j (by have := hB.len; omega)
    rwa [List.getD_eq_getElem?_getD, List.getD_eq_getElem?_getD, List.getElem?_eq_getElem h1, List.getElem?_eq_getElem h2] at this
   subst e
   refine ⟨by_, sides, fun f => ?_⟩
   show qp (qQ (f + 0)) _ _ _ _ _ _ _ = _
   unfold qp
   rw [br_false (by simp; omega)]
 | succ n ih =>
   intro i hi B by_ sides hB hj
   have hz : Int.toNat (i : Int) = i := by simp
   obtain ⟨by1, sides1, p1⟩ := put_val hB i (b.getD i 0) h s by_ sides
   obtain ⟨by', sides', h2⟩ := ih (i + 1) (by omega) (put B i (b.getD i 0)) by1 sides1 (hB.put _ _) (by
    intro j hji
    unfold put
    rw [if_pos (by omega), hz]
    by_cases e : i = j
    ·subst e
     rw [List.getD_eq_getElem?_getD, List.getElem?_set_self (by rw [hB.len]; omega), Option.getD_some]
     split
     ·rename_i hk
      rcases hc.ok i (by omega) with h0 | h0
      ·exact h0.symm
      ·exact absurd hk h0
     ·rfl
    ·rw [List.getD_eq_getElem?_getD, List.getElem?_set_ne e, ← List.getD_eq_getElem?_getD]
     exact hj j (by omega))
   refine ⟨by', sides', fun f => ?_⟩
   show qp (qQ (f + n + 1)) _ _ _ _ _ _ _ = _
   unfold qp
   simp only [cond_true, hz]
   rw [br_true (by simp; omega), br_true (inB_true (by omega) (by omega)), p1, ob_some]
   simp only
   rw [wrap_small (by omega) (by omega)]
   exact h2 f
theorem clean_zero : Clean (List.replicate 81 0) := ⟨by simp, fun i hi => .inl (by rw [List.getD_eq_getElem?_getD, List.getElem?_replicate, if_pos hi]; rfl)⟩
theorem bnew_val {b : List Int} (hc : Clean b) (h : List Int) (s : Int) : ∃ by_ sides, qAM b h s = some (b, h, s, by_, sides) := by
 obtain ⟨g, hg⟩ := many_eq 81 (by omega)
 obtain ⟨by', sides', h1⟩ := new_goes hc h s 81 0 (by omega) (List.replicate 81 0) (List.replicate 32 [0, 0]) [[0, 0], [0, 0]] clean_zero (fun j hj => by omega)
 have h1 := h1 g
 rw [← hg] at h1
 have h1 : qQ many b 0 (List.replicate 81 0) h s (List.replicate 32 [0, 0]) [[0, 0], [0, 0]] = some (b, h, s, by', sides') := h1
 refine ⟨by', sides', ?_⟩
 unfold qAM
 show ob (qQ many b 0 (List.replicate 81 0) h s (List.replicate 32 [0, 0]) [[0, 0], [0, 0]]) _ = _
 rw [h1, ob_some]
def kof (b h : List Int) (s : Int) : Int := (qAO b h s).getD 0
theorem kof_val (b h : List Int) (s : Int) : qAO b h s = some (kof b h s) := by
 obtain ⟨k, hk, _⟩ := key_val b h s
 unfold kof; rw [hk]; rfl
theorem gnew_val {b : List Int} (hc : Clean b) (h : List Int) (s : Int) : ∃ by_ sides, qAd b h s = some (kof b h s, 0, b, h, s, by_, sides, 0, []) := by
 obtain ⟨by_, sides, h1⟩ := bnew_val hc h s
 refine ⟨by_, sides, ?_⟩
 unfold qAd
 rw [h1, ob_some]
 simp only
 rw [kof_val, ob_some]
end Go.Kk.Pl
namespace Go.Kk.Pl
def dl (x k : Int) : Int := if rw_ (kd x) = k then 1 else 0
theorem cnt_cons (x : Int) (l : List Int) (k : Int) : (cnt (x :: l) k : Int) = cnt l k + dl x k := by
 unfold cnt dl
 rw [List.countP_cons]
 by_cases h : rw_ (kd x) = k
 ·simp [h]
 ·have : (rw_ (kd x) == k) = false := by simpa using h
  simp [h]
theorem cnt_set (x k : Int) : ∀ (l : List Int) (i : Nat), i < l.length → (cnt (l.set i x) k : Int) + dl (l.getD i 0) k = cnt l k + dl x k := by
 intro l
 induction l with
 | nil => intro i hi; simp at hi
 | cons y l ih =>
   intro i hi
   cases i with
   | zero =>
     simp only [List.set_cons_zero, cnt_cons, List.getD_cons_zero]
     omega
   | succ i =>
     have := ih i (by simpa using hi)
     simp only [List.set_cons_succ, cnt_cons, List.getD_cons_succ]
     omega
theorem kd_or (x : Int) : kd (if kd x = 0 then 0 else x) = kd x := by
 split
 ·rename_i h; rw [h]; exact kd_zero
 ·rfl
theorem cnt_put {b : List Int} (hl : b.length = 81) {q : Int} (hq : 0 ≤ q ∧ q < 81) (x k : Int) : (cnt (put b q x) k : Int) + dl (at_ b q) k = cnt b k + dl x k := by
 unfold put at_
 rw [if_pos hq, if_pos hq]
 have := cnt_set (if kd x = 0 then 0 else x) k b q.toNat (by omega)
 have e : dl (if kd x = 0 then 0 else x) k = dl x k := by unfold dl; rw [kd_or]
 rw [e] at this
 exact this
theorem dl_zero {k : Int} (h : 1 ≤ k) : dl 0 k = 0 := by
 unfold dl
 rw [if_neg]
 rw [kd_zero]
 unfold rw_
 rw [if_pos (by omega)]
 omega
theorem wrap8 {n : Int} (h1 : -128 ≤ n) (h2 : n ≤ 127) : IntKind.wrap .i8 n = n := wrap_of_range h1 h2
theorem wrap8_range (n : Int) : -128 ≤ IntKind.wrap .i8 n ∧ IntKind.wrap .i8 n ≤ 127 := by
 simp [IntKind.wrap, IntKind.signed, IntKind.bits]
 omega
theorem hset_len (h : List Int) (s k d : Int) : (hset h s k d).length = h.length := by simp [hset]
theorem fits_hset {h : List Int} (hf : Fits8 h) (s k d : Int) : Fits8 (hset h s k d) := by
 intro i
 unfold hset
 by_cases e : s.toNat * 8 + k.toNat = i
 ·by_cases hi : i < h.length
  ·subst e
   rw [List.getD_eq_getElem?_getD, List.getElem?_set_self hi]
   exact wrap8_range _
  ·rw [List.getD_eq_getElem?_getD, List.getElem?_eq_none (by simpa using hi)]
   simp
 ·rw [List.getD_eq_getElem?_getD, List.getElem?_set_ne e, ← List.getD_eq_getElem?_getD]
  exact hf i
theorem hd_hset {h : List Int} (hl : h.length = 16) {s k : Int} (hs : s = 0 ∨ s = 1) (k0 : 0 ≤ k) (k1 : k < 8) (d : Int) {s' k' : Int} (hs' : s' = 0 ∨ s' = 1) (k0' : 0 ≤ k') (k1' : k' < 8) :
  hd_ (hset h s k d) s' k' = if s' = s ∧ k' = k then IntKind.wrap .i8 (hd_ h s k + d) else hd_ h s' k' := by
 by_cases e : s' = s ∧ k' = k
 ·obtain ⟨rfl, rfl⟩ := e
  rw [if_pos ⟨rfl, rfl⟩]
  unfold hset
  rw [show hd_ (h.set (s'.toNat * 8 + k'.toNat) (IntKind.wrap .i8 (hd_ h s' k' + d))) s' k' = (h.set (s'.toNat * 8 + k'.toNat) (IntKind.wrap .i8 (hd_ h s' k' + d))).getD (s'.toNat * 8 + k'.toNat) 0 from rfl,
   List.getD_eq_getElem?_getD, List.getElem?_set_self (by rcases hs' with rfl | rfl <;> simp <;> omega)]
  rfl
 ·rw [if_neg e]
  unfold hset hd_
  rw [List.getD_eq_getElem?_getD, List.getElem?_set_ne (by rcases hs with rfl | rfl <;> rcases hs' with rfl | rfl <;> simp <;> omega), ← List.getD_eq_getElem?_getD]
theorem fits_hd {h : List Int} (hf : Fits8 h) (s k : Int) : -128 ≤ hd_ h s k ∧ hd_ h s k ≤ 127 := hf _
theorem rw_small {k : Int} (h1 : 1 ≤ k) (h2 : k < 8) : rw_ k = k := by
 unfold rw_
 rw [if_neg (by omega), if_neg (by omega)]
theorem rw_up {k : Int} (h : up_ k ≠ 0) : rw_ (up_ k) = rw_ k := by
 unfold up_ at h ⊢
 split
 ·unfold rw_
  rw [if_neg (by omega), if_pos (by omega), if_neg (by omega), if_neg (by omega)]
  omega
 ·rename_i h2; rw [if_neg h2] at h; exact absurd rfl h
theorem pieces_same {b h : List Int} {s : Int} (hS : Sound b h s) (hf : Fits8 h) (hl : h.length = 16) {f t d : Int} {p : Bool} (hP : CanP b h s f t d p) {k : Int} (k0 : 1 ≤ k) (k1 : k < 8) :
  (cnt (mb b s f t d p) k : Int) + hd_ (mh b h s t d) 0 k + hd_ (mh b h s t d) 1 k = cnt b k + hd_ h 0 k + hd_ h 1 k := by
 have hsd := hS.side
 by_cases hd : d = 0
 ·obtain ⟨f0, f1, f2, g1, g2, g3, g4⟩ := hP.move hd
  unfold mb mh
  rw [if_neg (by simpa using hd), if_neg (by simpa using hd)]
  have c1 := cnt_put hS.clean.len ⟨f0, f1⟩ 0 k
  have c2 := cnt_put (hS.clean.put f 0).len hP.to_ (laid b s f d p) k
  have e1 : at_ (put b f 0) t = at_ b t := by rw [at_put hS.clean.len ⟨f0, f1⟩, if_neg (Ne.symm f2)]
  rw [e1] at c2
  rw [dl_zero k0] at c1
  have e2 : dl (laid b s f d p) k = dl (at_ b f) k := by
   unfold laid
   rw [if_neg (by simpa using hd)]
   cases p with
   | false => rfl
   | true =>
     have hu := g4 rfl
     obtain ⟨u1, u2, u3⟩ := up_range hu
     rw [if_pos rfl]
     unfold dl
     rw [kd_of hsd u1 u2 u3, rw_up hu]
  rw [e2] at c2
  by_cases ht : at_ b t = 0
  ·rw [if_pos ht]
   rw [ht, dl_zero k0] at c2
   omega
  ·rw [if_neg ht]
   have hk := (hS.clean.at_ t).resolve_left ht
   obtain ⟨r1, r2⟩ := rw_range hk g3
   have hc := hS.counts _ r1 r2
   have h0 := hS.hands (rw_ (kd (at_ b t))) (by omega) r2
   rw [hd_hset hl hsd (by omega) r2 1 (.inl rfl) (by omega) k1, hd_hset hl hsd (by omega) r2 1 (.inr rfl) (by omega) k1]
   by_cases hkr : k = rw_ (kd (at_ b t))
   ·have e3 : dl (at_ b t) k = 1 := by unfold dl; rw [if_pos hkr.symm]
    rw [e3] at c2
    rcases hsd with rfl | rfl
    ·rw [if_pos ⟨rfl, hkr⟩, if_neg (by omega), wrap8 (by omega) (by omega), ← hkr]
     omega
    ·rw [if_neg (by omega), if_pos ⟨rfl, hkr⟩, wrap8 (by omega) (by omega), ← hkr]
     omega
   ·have e3 : dl (at_ b t) k = 0 := by unfold dl; rw [if_neg (Ne.symm hkr)]
    rw [e3] at c2
    rw [if_neg (fun h => hkr h.2), if_neg (fun h => hkr h.2)]
    omega
 ·obtain ⟨d0, d1, d2, d3, g1, g2⟩ := hP.drop hd
  unfold mb mh
  rw [if_pos hd, if_pos hd]
  have c1 := cnt_put hS.clean.len hP.to_ (laid b s f d p) k
  have hl' : laid b s f d p = 16 * s + d := by unfold laid; rw [if_pos hd]
  rw [g2, dl_zero k0, hl'] at c1
  rw [hl']
  have hb := fits_hd hf s d
  rw [hd_hset hl hsd (by omega) d1 (-1) (.inl rfl) (by omega) k1, hd_hset hl hsd (by omega) d1 (-1) (.inr rfl) (by omega) k1]
  have e3 : dl (16 * s + d) k = if d = k then 1 else 0 := by
   unfold dl
   rw [kd_of hsd (by omega) (by omega) (by omega), rw_small (by omega) d1]
  rw [e3] at c1
  by_cases hkd : k = d
  ·subst hkd
   rw [if_pos rfl] at c1
   rcases hsd with rfl | rfl
   ·rw [if_pos ⟨rfl, rfl⟩, if_neg (by omega), wrap8 (by omega) (by omega)]
    omega
   ·rw [if_neg (by omega), if_pos ⟨rfl, rfl⟩, wrap8 (by omega) (by omega)]
    omega
  ·rw [if_neg (Ne.symm hkd)] at c1
   rw [if_neg (fun h => hkd h.2), if_neg (fun h => hkd h.2)]
   omega
theorem mb_clean {b : List Int} (hc : Clean b) (s f t d : Int) (p : Bool) : Clean (mb b s f t d p) := by
 unfold mb
 split
 ·exact hc.put _ _
 ·exact (hc.put _ _).put _ _
theorem mh_fits {h : List Int} (hf : Fits8 h) (b : List Int) (s t d : Int) : Fits8 (mh b h s t d) := by
 unfold mh
 split
 ·exact fits_hset hf _ _ _
 ·split
  ·exact hf
  ·exact fits_hset hf _ _ _
theorem mh_len {h : List Int} (hl : h.length = 16) (b : List Int) (s t d : Int) : (mh b h s t d).length = 16 := by
 unfold mh
 split
 ·rw [hset_len]; exact hl
 ·split
  ·exact hl
  ·rw [hset_len]; exact hl
end Go.Kk.Pl
namespace Go.Kk.Pl
theorem canP {b h : List Int} {s f t d : Int} {p : Bool} (hm : canS b h s f t d p = true) : (s = 0 ∨ s = 1) ∧ CanP b h s f t d p := by
 unfold canS at hm
 rw [Bool.and_eq_true, Bool.and_eq_true, decide_eq_true_eq, decide_eq_true_eq] at hm
 obtain ⟨h1, hs, h2⟩ := hm
 obtain ⟨ht, hd, hmv⟩ := chkM_zero h1
 refine ⟨hs, ht, fun d0 => ?_, fun d0 => ?_⟩
 ·rw [if_pos d0] at h2
  simp only [Bool.and_eq_true, decide_eq_true_eq] at h2
  have := hd d0
  exact ⟨by omega, by omega, this.2.2.1, this.2.2.2, by omega, h2.2⟩
 ·rw [if_neg (by simpa using d0)] at h2
  simp only [Bool.and_eq_true, decide_eq_true_eq, Bool.or_eq_true, Bool.not_eq_true'] at h2
  obtain ⟨h3, h4⟩ := hmv d0
  exact ⟨h3.1, h3.2, h4, h2.1.1, h2.1.2.1, h2.1.2.2, fun hp => by
   rcases h2.2 with h5 | h5
   ·rw [hp] at h5; cases h5
   ·exact h5⟩
theorem movP {b h : List Int} {s f t d : Int} {p : Bool} (hm : movS b h s f t d p = true) : (s = 0 ∨ s = 1) ∧ CanP b h s f t d p := by
 unfold movS at hm
 rw [Bool.and_eq_true] at hm
 exact canP hm.1
theorem kd_sd {x s : Int} (hs : s = 0 ∨ s = 1) (h : sd x = s) : kd x ≠ 0 := by
 intro h0
 rw [sd_none h0] at h
 omega
theorem laid_ok {b h : List Int} {s f t d : Int} {p : Bool} (hs : s = 0 ∨ s = 1) (hP : CanP b h s f t d p) : sd (laid b s f d p) = s ∧ kd (laid b s f d p) ≠ 0 ∧ (laid b s f d p = pc s 8 ↔ d = 0 ∧ at_ b f = pc s 8) := by
 unfold laid
 by_cases hd : d = 0
 ·have hm := hP.move hd
  rw [if_neg (by simpa using hd)]
  cases p with
  | false =>
    rw [if_neg (by simp)]
    exact ⟨hm.2.2.2.1, kd_sd hs hm.2.2.2.1, fun h => ⟨hd, h⟩, fun h => h.2⟩
  | true =>
    rw [if_pos rfl]
    have hu := hm.2.2.2.2.2.2 rfl
    obtain ⟨u1, u2, u3⟩ := up_range hu
    have hx := sd_pc hs u1 u2 u3
    rw [pc_ok hs u1 u2 u3] at hx
    have u8 : up_ (kd (at_ b f)) ≠ 8 := by unfold up_; split <;> omega
    refine ⟨hx.1, by rw [hx.2]; omega, fun h => ?_, fun h => ?_⟩
    ·rw [pc_ok hs (by omega) (by omega) (by omega)] at h
     omega
    ·exfalso
     apply hu
     rw [h.2, (sd_pc hs (by omega) (by omega) (by omega)).2]
     rfl
 ·have hm := hP.drop hd
  rw [if_pos hd]
  have hx := sd_pc hs (k := d) (by omega) (by omega) (by omega)
  rw [pc_ok hs (by omega) (by omega) (by omega)] at hx
  refine ⟨hx.1, by rw [hx.2]; exact hd, fun h => ?_, fun h => absurd h.1 hd⟩
  rw [pc_ok hs (by omega) (by omega) (by omega)] at h
  omega
theorem mb_getD {b h : List Int} {s f t d : Int} {p : Bool} (hc : Clean b) (hs : s = 0 ∨ s = 1) (hP : CanP b h s f t d p) {i : Nat} (hi : i < 81) :
  (mb b s f t d p).getD i 0 = if i = t.toNat then laid b s f d p else if d = 0 ∧ i = f.toNat then 0 else b.getD i 0 := by
 have ht := hP.to_
 have hl := (laid_ok hs hP).2.1
 have e1 : (mb b s f t d p).getD i 0 = at_ (mb b s f t d p) i := by rw [at_in (by omega), tn]
 have e2 : b.getD i 0 = at_ b i := by rw [at_in (by omega), tn]
 rw [e1, e2]
 unfold mb
 by_cases hd : d = 0
 ·have hm := hP.move hd
  rw [if_neg (by simpa using hd), at_put (hc.put f 0).1 ht, if_neg hl, at_put hc.1 ⟨hm.1, hm.2.1⟩]
  by_cases h1 : i = t.toNat
  ·rw [if_pos (c := (i : Int) = t) (by omega), if_pos h1]
  ·rw [if_neg (c := (i : Int) = t) (by omega), if_neg h1]
   by_cases h2 : i = f.toNat
   ·rw [if_pos (c := (i : Int) = f) (by omega), if_pos (c := d = 0 ∧ i = f.toNat) ⟨hd, h2⟩]; rfl
   ·rw [if_neg (c := (i : Int) = f) (by omega), if_neg (fun h => h2 h.2)]
 ·rw [if_pos hd, at_put hc.1 ht, if_neg hl]
  by_cases h1 : i = t.toNat
  ·rw [if_pos h1, if_pos (by omega)]
  ·rw [if_neg h1, if_neg (by omega), if_neg (fun h => hd h.1)]
def KS (b : List Int) (s : Int) (k : Nat) : Prop := k < 81 ∧ ∀ i, i < 81 → (b.getD i 0 = pc s 8 ↔ i = k)
theorem pc8 {s : Int} (hs : s = 0 ∨ s = 1) : pc s 8 = 16 * s + 8 := pc_ok hs (by omega) (by omega) (by omega)
theorem KS.kg {b : List Int} {s : Int} {k : Nat} (hs : s = 0 ∨ s = 1) (h : KS b s k) : kg b s = k := by
 apply fst_one h.1
 intro i hi
 unfold pcs
 rw [decide_eq_true_eq, h.2 i hi, pc8 hs]
 exact ⟨fun h => h.2, fun h => ⟨by omega, h⟩⟩
theorem ks_of {b h : List Int} {s' : Int} (hz : chkS b h s' = 0) {s : Int} (hs : s = 0 ∨ s = 1) : ∃ k, KS b s k := by
 have hn : nP b 8 = 1 ∧ nP b 24 = 1 := by
  unfold chkS at hz
  split at hz
  ·omega
  ·split at hz
   ·omega
   ·split at hz
    ·omega
    ·split at hz
     ·omega
     ·rename_i h; simpa using h
 have : nP b (pc s 8) = 1 := by
  rw [pc8 hs]
  rcases hs with rfl | rfl
  ·exact hn.1
  ·exact hn.2
 obtain ⟨k, hk, h⟩ := cnt_one.mp (show cntS (fun i => b.getD i 0 == pc s 8) = 1 from this)
 exact ⟨k, hk, fun i hi => by rw [← h i hi, beq_iff_eq]⟩
theorem KS.sd {b : List Int} {s : Int} {k : Nat} (hs : s = 0 ∨ s = 1) (h : KS b s k) : sd (b.getD k 0) = s ∧ kd (b.getD k 0) = 8 := by
 rw [(h.2 k h.1).mpr rfl]
 exact sd_pc hs (by omega) (by omega) (by omega)
theorem ks_mb {b h : List Int} {s f t d : Int} {p : Bool} (hc : Clean b) (hs : s = 0 ∨ s = 1) (hP : CanP b h s f t d p) {k : Nat} (hk : KS b s k) :
  KS (mb b s f t d p) s (if d = 0 ∧ f.toNat = k then t.toNat else k) := by
 have ht := hP.to_
 have hl := laid_ok hs hP
 have hkt : k ≠ t.toNat := by
  intro e
  have h1 := (hk.sd hs)
  have e2 : b.getD k 0 = at_ b t := by rw [at_in ht, e]
  rw [e2] at h1
  by_cases hd : d = 0
  ·exact (hP.move hd).2.2.2.2.1 h1.1
  ·rw [(hP.drop hd).2.2.2.2.2, kd_zero] at h1
   omega
 have hp0 : (0 : Int) ≠ pc s 8 := by rw [pc8 hs]; omega
 refine ⟨by split; omega; exact hk.1, fun i hi => ?_⟩
 rw [mb_getD hc hs hP hi]
 by_cases h1 : i = t.toNat
 ·rw [if_pos h1, hl.2.2]
  by_cases hd : d = 0
  ·have hm := hP.move hd
   rw [at_in ⟨hm.1, hm.2.1⟩, hk.2 _ (by omega)]
   by_cases hfk : f.toNat = k
   ·rw [if_pos ⟨hd, hfk⟩]; exact ⟨fun _ => h1, fun _ => ⟨hd, hfk⟩⟩
   ·rw [if_neg (fun h => hfk h.2)]
    exact ⟨fun h => absurd h.2 hfk, fun h => absurd (h.symm.trans h1) hkt⟩
  ·rw [if_neg (fun h => hd h.1)]
   exact ⟨fun h => absurd h.1 hd, fun h => absurd (h.symm.trans h1) hkt⟩
 ·rw [if_neg h1]
  by_cases h2 : d = 0 ∧ i = f.toNat
  ·rw [if_pos h2]
   refine ⟨fun h => absurd h hp0, fun h => ?_⟩
   split at h
   ·exact absurd h h1
   ·rename_i h3; exact absurd ⟨h2.1, by omega⟩ h3
  ·rw [if_neg h2, hk.2 i hi]
   split
   ·rename_i h3
    exact ⟨fun h => absurd ⟨h3.1, by omega⟩ h2, fun h => absurd h h1⟩
   ·exact Iff.rfl
theorem ks_mb' {b h : List Int} {s f t d : Int} {p : Bool} (hc : Clean b) (hs : s = 0 ∨ s = 1) (hP : CanP b h s f t d p) {k : Nat} (hk : KS b (1 - s) k) :
  KS (mb b s f t d p) (1 - s) k := by
 have ht := hP.to_
 have hl := laid_ok hs hP
 have hs' : 1 - s = 0 ∨ 1 - s = 1 := by omega
 have hkt : k ≠ t.toNat := by
  intro e
  have h1 := (hk.sd hs')
  have e2 : b.getD k 0 = at_ b t := by rw [at_in ht, e]
  rw [e2] at h1
  by_cases hd : d = 0
  ·exact (hP.move hd).2.2.2.2.2.1 h1.2
  ·rw [(hP.drop hd).2.2.2.2.2, kd_zero] at h1
   omega
 have hp0 : (0 : Int) ≠ pc (1 - s) 8 := by rw [pc8 hs']; omega
 refine ⟨hk.1, fun i hi => ?_⟩
 rw [mb_getD hc hs hP hi]
 by_cases h1 : i = t.toNat
 ·rw [if_pos h1]
  refine ⟨fun h => ?_, fun h => absurd (h.symm.trans h1) hkt⟩
  have := hl.1
  rw [h, (sd_pc hs' (by omega) (by omega) (by omega)).1] at this
  omega
 ·rw [if_neg h1]
  by_cases h2 : d = 0 ∧ i = f.toNat
  ·rw [if_pos h2]
   refine ⟨fun h => absurd h hp0, fun h => ?_⟩
   have hm := hP.move h2.1
   have h3 := (hk.sd hs').1
   rw [← h, h2.2, ← at_in ⟨hm.1, hm.2.1⟩, hm.2.2.2.1] at h3
   omega
  ·rw [if_neg h2]
   exact hk.2 i hi
theorem chs_atk {b : List Int} {s : Int} (hs : s = 0 ∨ s = 1) {k : Nat} (hk : kg b s = k) (h81 : k < 81) (c : Nat) : chs b s c = atk b s k c := by
 unfold chs onS atk enm
 rw [hk, decide_eq_true (by omega), decide_eq_true (by omega), tn]
 rfl
def fof (f t d : Int) : Nat := if d = 0 then f.toNat else t.toNat
theorem tk_mb {b h : List Int} {s f t d : Int} {p : Bool} (hc : Clean b) (hs : s = 0 ∨ s = 1) (hP : CanP b h s f t d p) {i : Nat} (hi : i < 81) : tk (mb b s f t d p) i = tk2 b (fof f t d) t.toNat i := by
 have hl := laid_ok hs hP
 unfold tk tk2 fof
 rw [mb_getD hc hs hP hi]
 by_cases h1 : i = t.toNat
 ·rw [if_pos h1, decide_eq_true h1, Bool.true_or, decide_eq_true_eq]
  intro h0
  rw [h0, kd_zero] at hl
  exact hl.2.1 rfl
 ·rw [if_neg h1, decide_eq_false h1, Bool.false_or]
  by_cases hd : d = 0
  ·rw [if_pos hd]
   by_cases h2 : i = f.toNat
   ·rw [if_pos ⟨hd, h2⟩, decide_eq_true h2]; simp
   ·rw [if_neg (fun h => h2 h.2), decide_eq_false h2]; rfl
  ·rw [if_neg hd, if_neg (fun h => hd h.1), decide_eq_false h1]; rfl
theorem enm_mb {b h : List Int} {s f t d : Int} {p : Bool} (hc : Clean b) (hs : s = 0 ∨ s = 1) (hP : CanP b h s f t d p) {c : Nat} (hcc : c < 81) : enm (mb b s f t d p) s c = (decide (c ≠ t.toNat) && enm b s c) ∧ (enm (mb b s f t d p) s c = true → (mb b s f t d p).getD c 0 = b.getD c 0) := by
 have hl := laid_ok hs hP
 unfold enm
 rw [mb_getD hc hs hP hcc]
 by_cases h1 : c = t.toNat
 ·rw [if_pos h1, hl.1, decide_eq_false (p := s = 1 - s) (by omega), decide_eq_false (p := c ≠ t.toNat) (by simpa using h1)]
  exact ⟨rfl, fun h => by cases h⟩
 ·rw [if_neg h1, decide_eq_true (p := c ≠ t.toNat) h1, Bool.true_and]
  by_cases h2 : d = 0 ∧ c = f.toNat
  ·rw [if_pos h2, sd_zero]
   have hm := hP.move h2.1
   rw [h2.2, ← at_in ⟨hm.1, hm.2.1⟩, hm.2.2.2.1, decide_eq_false (p := (-1 : Int) = 1 - s) (by omega), decide_eq_false (p := s = 1 - s) (by omega)]
   exact ⟨rfl, fun h => by cases h⟩
  ·rw [if_neg h2]
   exact ⟨rfl, fun _ => rfl⟩
theorem chs_mb {b h : List Int} {s f t d : Int} {p : Bool} (hc : Clean b) (hs : s = 0 ∨ s = 1) (hP : CanP b h s f t d p) {k : Nat} (hk : KS b s k) (hn : ¬ (d = 0 ∧ f.toNat = k)) {c : Nat} (hcc : c < 81) :
  chs (mb b s f t d p) s c = att2 b s k (fof f t d) t.toNat c := by
 have hk2 := ks_mb hc hs hP hk
 rw [if_neg hn] at hk2
 rw [chs_atk hs (hk2.kg hs) hk.1]
 obtain ⟨e1, e2⟩ := enm_mb hc hs hP hcc
 unfold atk att2
 cases he : enm (mb b s f t d p) s c with
 | false =>
   rw [he] at e1
   rw [Bool.false_and, ← Bool.and_assoc, ← e1, Bool.false_and]
 | true =>
   rw [← Bool.and_assoc, ← e1, he, Bool.true_and, Bool.true_and, e2 he]
   exact rch_congr hcc hk.1 (fun i hi => tk_mb hc hs hP hi)
theorem chs_king {b h : List Int} {s f t d : Int} {p : Bool} (hc : Clean b) (hs : s = 0 ∨ s = 1) (hP : CanP b h s f t d p) {k : Nat} (hk : KS b s k) (hn : d = 0 ∧ f.toNat = k) {c : Nat} (hcc : c < 81) :
  chs (mb b s f t d p) s c = onS b t (1 - s) (fun i => tk b i && !only f i) c := by
 have hk2 := ks_mb hc hs hP hk
 have ht := hP.to_
 have hm := hP.move hn.1
 rw [if_pos hn] at hk2
 rw [chs_atk hs (hk2.kg hs) hk2.1]
 obtain ⟨e1, e2⟩ := enm_mb hc hs hP hcc
 unfold atk onS
 rw [decide_eq_true ht, decide_eq_true (p := 1 - s = 0 ∨ 1 - s = 1) (by omega), Bool.true_and, Bool.true_and]
 show _ = (enm b s c && _)
 by_cases h1 : c = t.toNat
 ·rw [e1, decide_eq_false (p := c ≠ t.toNat) (by simpa using h1), ← h1, rch_self, rch_self, Bool.and_false, Bool.and_false]
 ·rw [decide_eq_true (p := c ≠ t.toNat) h1, Bool.true_and] at e1
  rw [e1]
  cases he : enm b s c with
  | false => rfl
  | true =>
    rw [e2 (by rw [e1, he]), Bool.true_and, Bool.true_and, Bool.eq_iff_iff, rch_iff, rch_iff]
    have : ∀ i ∈ btw c t.toNat, tk (mb b s f t d p) i = (tk b i && !only f i) := by
     intro i hi
     have hw := btw_way (by omega) hcc hi
     rw [tk_mb hc hs hP hw.1]
     unfold tk2 fof only
     rw [decide_eq_false hw.2.1, if_pos hn.1, Bool.false_or, Bool.and_comm]
     congr 2
     rw [decide_eq_decide]
     omega
    constructor
    ·rintro (h | ⟨h, h'⟩)
     ·exact .inl h
     ·exact .inr ⟨h, fun i hi => by rw [← this i hi]; exact h' i hi⟩
    ·rintro (h | ⟨h, h'⟩)
     ·exact .inl h
     ·exact .inr ⟨h, fun i hi => by rw [this i hi]; exact h' i hi⟩
def ontoS (b : List Int) (s : Int) (t : Nat) : Bool := (List.range 81).all fun c => !chs b s c || wayP (kg b s).toNat c t
def pinOK (b : List Int) (s : Int) (f t : Nat) : Bool := (List.range 81).all fun c => !pinB b s (kg b s).toNat f c || wayP (kg b s).toNat c t
def stB (b : List Int) (s : Int) (f t : Nat) : Bool := if (f : Int) = kg b s then isE (onS b t (1 - s) (fun i => tk b i && !only f i)) else ontoS b s t && pinOK b s f t
theorem wayP_iff {k c t : Nat} : wayP k c t = true ↔ t = c ∨ t ∈ btw c k := by
 unfold wayP only
 rw [Bool.or_eq_true, List.contains_iff_mem, decide_eq_true_eq]
 constructor
 ·rintro (h | h)
  ·exact .inr h
  ·exact .inl (by omega)
 ·rintro (h | h)
  ·exact .inr (by omega)
  ·exact .inl h
theorem onto_iff {b : List Int} {s : Int} (hs : s = 0 ∨ s = 1) {k : Nat} (hk : KS b s k) {t : Nat} : ontoS b s t = true ↔ ∀ c, c < 81 → atk b s k c = true → t = c ∨ t ∈ btw c k := by
 have hkg := hk.kg hs
 unfold ontoS
 rw [List.all_eq_true, hkg, tn]
 constructor
 ·intro h c hc ha
  have := h c (List.mem_range.mpr hc)
  rw [chs_atk hs hkg hk.1, ha, Bool.not_true, Bool.false_or] at this
  exact wayP_iff.mp this
 ·intro h c hc
  rw [chs_atk hs hkg hk.1]
  cases ha : atk b s k c with
  | false => rfl
  | true =>
    rw [Bool.not_true, Bool.false_or]
    exact wayP_iff.mpr (h c (List.mem_range.mp hc) ha)
theorem pinOK_iff {b : List Int} {s : Int} (hs : s = 0 ∨ s = 1) {k : Nat} (hk : KS b s k) {f t : Nat} : pinOK b s f t = true ↔ ∀ c, c < 81 → pinB b s k f c = true → t = c ∨ t ∈ btw c k := by
 unfold pinOK
 rw [List.all_eq_true, hk.kg hs, tn]
 constructor
 ·intro h c hc ha
  have := h c (List.mem_range.mpr hc)
  rw [ha, Bool.not_true, Bool.false_or] at this
  exact wayP_iff.mp this
 ·intro h c hc
  cases ha : pinB b s k f c with
  | false => rfl
  | true =>
    rw [Bool.not_true, Bool.false_or]
    exact wayP_iff.mpr (h c (List.mem_range.mp hc) ha)
theorem safe_eq {b h : List Int} {s f t d : Int} {p : Bool} (hc : Clean b) (hs : s = 0 ∨ s = 1) (hP : CanP b h s f t d p) {k : Nat} (hk : KS b s k) :
  (!inC (mb b s f t d p) s) = if d = 0 then stB b s f.toNat t.toNat else ontoS b s t.toNat := by
 have ht := hP.to_
 unfold inC
 rw [Bool.not_not]
 by_cases hn : d = 0 ∧ f.toNat = k
 ·have hm := hP.move hn.1
  rw [if_pos hn.1]
  unfold stB
  rw [if_pos (by rw [hk.kg hs, hn.2]), Bool.eq_iff_iff, isE_iff, isE_iff, show ((t.toNat : Nat) : Int) = t by omega, show ((f.toNat : Nat) : Int) = f by omega]
  constructor
  ·intro h i hi; rw [← chs_king hc hs hP hk hn hi]; exact h i hi
  ·intro h i hi; rw [chs_king hc hs hP hk hn hi]; exact h i hi
 ·have hf : tk b (fof f t d) = true → sd (b.getD (fof f t d) 0) = s := by
   unfold fof
   intro htk
   by_cases hd : d = 0
   ·have hm := hP.move hd
    rw [if_pos hd, ← at_in ⟨hm.1, hm.2.1⟩]
    exact hm.2.2.2.1
   ·rw [if_neg hd] at htk
    unfold tk at htk
    rw [← at_in ht, (hP.drop hd).2.2.2.2.2] at htk
    simp at htk
  have key := att2_iff (b := b) (s := s) (k := k) (f := fof f t d) (t := t.toNat) hf
  have e : isE (chs (mb b s f t d p) s) = (ontoS b s t.toNat && pinOK b s (fof f t d) t.toNat) := by
   rw [Bool.eq_iff_iff, isE_iff, Bool.and_eq_true, onto_iff hs hk, pinOK_iff hs hk, ← key]
   constructor
   ·intro h c hcc; rw [← chs_mb hc hs hP hk hn hcc]; exact h c hcc
   ·intro h c hcc; rw [chs_mb hc hs hP hk hn hcc]; exact h c hcc
  rw [e]
  by_cases hd : d = 0
  ·rw [if_pos hd]
   unfold stB
   have hm := hP.move hd
   rw [if_neg (by rw [hk.kg hs]; intro e; exact hn ⟨hd, by omega⟩)]
   unfold fof
   rw [if_pos hd]
  ·rw [if_neg hd]
   have : pinOK b s (fof f t d) t.toNat = true := by
    rw [pinOK_iff hs hk]
    intro c _ hp
    have := (pin_iff.mp hp).2.2.2.1
    unfold fof tk at this
    rw [if_neg hd, ← at_in ht, (hP.drop hd).2.2.2.2.2] at this
    simp at this
   rw [this, Bool.and_true]
theorem rw0 : rw_ (kd 0) = 0 := by decide
theorem mb_set {b : List Int} {s f t : Int} {p : Bool} {h : List Int} (hs : s = 0 ∨ s = 1) (hP : CanP b h s f t 0 p) : mb b s f t 0 p = (b.set t.toNat (laid b s f 0 p)).set f.toNat 0 := by
 have hm := hP.move rfl
 have ht := hP.to_
 unfold mb put
 rw [if_neg (by simp), if_pos ht, if_pos ⟨hm.1, hm.2.1⟩, if_neg (laid_ok hs hP).2.1, show (if kd 0 = 0 then (0 : Int) else 0) = 0 by simp]
 exact List.set_comm _ _ (by omega)
theorem rafter_val {b h : List Int} {s f t d : Int} {p : Bool} (hc : Clean b) (hs : s = 0 ∨ s = 1) (hP : CanP b h s f t d p) : qAy b h s f t d p = some (mb b s f t d p, mh b h s t d, 1 - s) := by
 have ht := hP.to_
 have hw : IntKind.wrap .i8 (1 - s) = 1 - s := w_8 (by omega) (by omega)
 have hin : br (inB s 2) = fun (x y : Option (List Int × List Int × Int)) => x := by
  funext x y; exact b_in (by omega) (by omega)
 have hint : br (inB t 81) = fun (x y : Option (List Int × List Int × Int)) => x := by
  funext x y; exact b_in (by omega) (by omega)
 unfold qAy
 simp only [hin, hint]
 by_cases hd : d = 0
 ·subst hd
  have hm := hP.move rfl
  have hinf : br (inB f 81) = fun (x y : Option (List Int × List Int × Int)) => x := by
   funext x y; exact b_in (by omega) (by omega)
  have hbf : at_ b f = 16 * s + kd (at_ b f) := by
   have h1 := pc_of (kd_sd hs hm.2.2.2.1)
   have h2 := kd_bounds (at_ b f)
   have h3 := kd_sd hs hm.2.2.2.1
   rw [hm.2.2.2.1, pc_ok hs (by omega) (by omega) (by omega)] at h1
   exact h1
  have hbb := kd_bounds (at_ b f)
  have hfin : ∀ p', p' = p → br p'
    (some (List.set (List.set (List.set b (Int.toNat t) (List.getD b (Int.toNat f) 0)) (Int.toNat t) (IntKind.wrap IntKind.i8 (List.getD (List.set b (Int.toNat t) (List.getD b (Int.toNat f) 0)) (Int.toNat t) 0 + 8))) (Int.toNat f) 0))
    (some (List.set (List.set b (Int.toNat t) (List.getD b (Int.toNat f) 0)) (Int.toNat f) 0)) = some (mb b s f t 0 p) := by
   rintro p' rfl
   rw [mb_set hs hP]
   unfold laid
   rw [if_neg (by simp), ← at_in ⟨hm.1, hm.2.1⟩]
   cases p' with
   | false => rfl
   | true =>
     have hu := hm.2.2.2.2.2.2 rfl
     rw [b_t, getD_set (by rw [hc.1]; omega), if_pos rfl, if_pos rfl, List.set_set]
     have : up_ (kd (at_ b f)) = kd (at_ b f) + 8 := by
      unfold up_ at hu ⊢
      split
      ·rfl
      ·rename_i h; rw [if_neg h] at hu; exact absurd rfl hu
     rw [w_8 (by omega) (by omega), this, show at_ b f + 8 = 16 * s + (kd (at_ b f) + 8) by omega]
  rw [b_nne rfl, refKind_val, ob_some, refRaw_val, ob_some]
  simp only [hinf, c_8, ← at_in (b := b) ht, hw]
  unfold mh
  rw [if_neg (by simp)]
  by_cases h0 : at_ b t = 0
  ·rw [if_pos h0, h0, rw0, b_nne rfl]
   have := hfin p rfl
   cases p with
   | false => rw [b_f] at this ⊢; rw [Option.some.inj this]
   | true => rw [b_t] at this ⊢; rw [Option.some.inj this]
  ·rw [if_neg h0]
   have hr := rw_range ((hc.at_ t).resolve_left h0) hm.2.2.2.2.2.1
   have hinr : br (inB (rw_ (kd (at_ b t))) 8) = fun (x y : Option (List Int × List Int × Int)) => x := by
    funext x y; exact b_in (by omega) (by omega)
   rw [b_ne (by omega)]
   simp only [hinr]
   have := hfin p rfl
   cases p with
   | false => rw [b_f] at this ⊢; rw [Option.some.inj this]; rfl
   | true => rw [b_t] at this ⊢; rw [Option.some.inj this]; rfl
 ·have hm := hP.drop hd
  have hind : br (inB d 8) = fun (x y : Option (List Int × List Int × Int)) => x := by
   funext x y; exact b_in (by omega) (by omega)
  simp only [hind]
  have hx := (laid_ok hs hP).2.1
  unfold laid at hx
  rw [if_pos hd] at hx
  rw [b_ne hd, hw, w_s (n := 16 * s) (by omega) (by omega), w_s (n := 16 * s + d) (by omega) (by omega)]
  unfold mb mh put laid
  rw [if_pos hd, if_pos hd, if_pos ht, if_pos hd, if_neg hx]
  have : conv IntKind.i64 IntKind.i8 (16 * s + d) = 16 * s + d := by
   unfold conv; exact w_8 (by omega) (by omega)
  rw [this]
  rfl
end Go.Kk.Pl
namespace Go.Kk.Pl
def T_ (_ : Nat) : Bool := true
theorem pinned_ks {b : List Int} (hcl : Clean b) (h : List Int) (S : Int) {s : Int} (hs : s = 0 ∨ s = 1) {k : Nat} (hk : KS b s k) : ∃ es, qBe s b h S (byOf b) (sidesOf b) = some es ∧ PinsI b s k (fun _ => true) es := by
 obtain ⟨es, h1, _, h3⟩ := pinned_val hcl h S hs
 refine ⟨es, h1, ?_⟩
 have hkg := hk.kg hs
 have h3 := h3 (by omega)
 rw [hkg, tn] at h3
 intro f hf
 obtain ⟨a, a'⟩ := h3 f hf
 have hP : ∀ c, pinB b s k f c = true → (enm b s c && (kindsP.any fun x => pcs b (pc (1 - s) x) c)) = true := by
  intro c hp
  have := pin_iff.mp hp
  rw [this.1, slide_kind hs this.1 this.2.1]; rfl
 refine ⟨?_, fun c hc _ hp => a' c hc (hP c hp) hp⟩
 rw [a]
 constructor
 ·rintro ⟨c, x, _, x'⟩; exact ⟨c, x, rfl, x'⟩
 ·rintro ⟨c, x, _, x'⟩; exact ⟨c, x, hP c x', x'⟩
theorem look_val {b : List Int} (hcl : Clean b) (h : List Int) {s : Int} (hs : s = 0 ∨ s = 1) {k : Nat} (hk : KS b s k) :
  ∃ es chk, qBx b h s (byOf b) (sidesOf b) = some (s, (k : Int), sLo (ontoS b s), sHi (ontoS b s), chk, es) ∧ PinsI b s k (fun _ => true) es := by
 obtain ⟨es, he, hp⟩ := pinned_ks hcl h s hs hk
 have hkg := hk.kg hs
 have hkg' : fst (pcs b (pc s 8)) = (k : Int) := hkg
 have ha : ∀ c, chs b s c = atk b s k c := chs_atk hs hkg hk.1
 unfold qBx
 rw [kingB_val, hkg', ob_some, all_set, ob_some]
 simp only
 rw [he, ob_some, checkers_val hcl h s (by omega), ob_some]
 simp only
 rw [count_set, ob_some]
 by_cases n0 : ((cntS (chs b s) : Nat) : Int) = 0
 ·rw [b_eq n0]
  have hE : isE (chs b s) = true := by rw [cnt_isE, decide_eq_true_eq]; omega
  have : ∀ i, i < 81 → (fun _ : Nat => true) i = ontoS b s i := by
   intro i _
   symm
   show ontoS b s i = true
   rw [onto_iff hs hk]
   intro c hc h1
   rw [← ha, isE_iff.mp hE c hc] at h1
   cases h1
  have := set_congr this
  rw [this.1, this.2]
  exact ⟨es, false, rfl, hp⟩
 ·rw [b_neq n0]
  by_cases n1 : ((cntS (chs b s) : Nat) : Int) = 1
  ·obtain ⟨f, hf, hm⟩ := cnt_one.mp (show cntS (chs b s) = 1 by omega)
   rw [b_eq n1, first_val, ob_some, fst_one hf hm, rayBetween_val hf hk.1, ob_some]
   simp only
   rw [or_val, ob_some]
   simp only
   have : ∀ i, i < 81 → ((btw f k).contains i || chs b s i) = ontoS b s i := by
    intro i hi
    rw [Bool.eq_iff_iff, Bool.or_eq_true, List.contains_iff_mem, hm i hi, onto_iff hs hk]
    constructor
    ·intro h1 c hc h2
     rw [← ha, hm c hc] at h2
     subst h2
     exact h1.elim .inr .inl
    ·intro h1
     exact (h1 f hf (by rw [← ha]; exact (hm f hf).mpr rfl)).elim .inr .inl
   have := set_congr this
   rw [this.1, this.2]
   exact ⟨es, true, rfl, hp⟩
  ·rw [b_neq n1]
   have hE : isE (chs b s) = false := by
    rw [cnt_isE, decide_eq_false_iff_not]; omega
   obtain ⟨c, hc, hc'⟩ : ∃ c, c < 81 ∧ chs b s c = true := by
    apply Classical.byContradiction
    intro hno
    have : isE (chs b s) = true := by
     rw [isE_iff]
     intro i hi
     cases hx : chs b s i with
     | false => rfl
     | true => exact absurd ⟨i, hi, hx⟩ hno
    rw [hE] at this; cases this
   obtain ⟨c2, hc2, hc2', hne⟩ : ∃ c2, c2 < 81 ∧ chs b s c2 = true ∧ c ≠ c2 := by
    apply Classical.byContradiction
    intro hno
    apply n1
    rw [cnt_one.mpr ⟨c, hc, fun i hi => ⟨fun h1 => ?_, fun h1 => h1 ▸ hc'⟩⟩]
    ·rfl
    ·apply Classical.byContradiction
     intro hx
     exact hno ⟨i, hi, h1, fun e => hx e.symm⟩
   have : ∀ i, i < 81 → (fun _ : Nat => false) i = ontoS b s i := by
    intro i hi
    symm
    show ontoS b s i = false
    cases ho : ontoS b s i with
    | false => rfl
    | true =>
      rw [onto_iff hs hk] at ho
      exact (two_chk hs hk.1 hc hc2 (by rw [← ha]; exact hc') (by rw [← ha]; exact hc2') hne (ho c hc (by rw [← ha]; exact hc')) (ho c2 hc2 (by rw [← ha]; exact hc2'))).elim
   have := set_congr this
   rw [sLo_false, sHi_false] at this
   exact ⟨es, true, by rw [← this.1, ← this.2], hp⟩
theorem state_val {b : List Int} (hcl : Clean b) (h : List Int) (S : Int) {s : Int} (hs : s = 0 ∨ s = 1) {k : Nat} (hk : KS b s k) {es : List (List Int × List Int)} (hp : PinsI b s k (fun _ => true) es) {f t : Int} (hf : 0 ≤ f ∧ f < 81) (ht : 0 ≤ t ∧ t < 81) (d : Int) (p chk : Bool) :
  qBy s (k : Int) (sLo (ontoS b s)) (sHi (ontoS b s)) chk f t d p b h S (byOf b) (sidesOf b) es = some (stB b s f.toNat t.toNat, b, h, S, byOf b, sidesOf b, es) := by
 obtain ⟨f, rfl⟩ : ∃ n : Nat, f = n := ⟨f.toNat, by omega⟩
 obtain ⟨t, rfl⟩ : ∃ n : Nat, t = n := ⟨t.toNat, by omega⟩
 rw [tn, tn]
 have hkg := hk.kg hs
 have hh : ∀ g : Nat → Bool, has g (t : Int) = g t := by
  intro g; unfold has; rw [decide_eq_true (by omega), decide_eq_true (by omega), tn]; rfl
 unfold qBy stB
 rw [hkg]
 by_cases hfk : (f : Int) = k
 ·rw [b_eq hfk, if_pos hfk, takenB_val hcl, ob_some]
  simp only
  rw [without_val, ob_some]
  simp only
  rw [w_s (n := 1 - s) (by omega) (by omega), onP_val, ob_some]
  simp only
  rw [empty_val, ob_some, hfk]
 ·rw [b_neq hfk, if_neg hfk, has_val, ob_some, hh]
  cases ho : ontoS b s t with
  | false => rfl
  | true =>
    rw [Bool.not_true, b_f, Bool.true_and]
    obtain ⟨h1, h2⟩ := hp f (by omega)
    cases hM : hasM es [(f : Int)] with
    | false =>
      rw [Bool.not_false, b_t]
      have : pinOK b s f t = true := by
       rw [pinOK_iff hs hk]
       intro c hc hpin
       rw [h1.mpr ⟨c, hc, rfl, hpin⟩] at hM; cases hM
      rw [this]
    | true =>
      obtain ⟨c, hc, _, hpin⟩ := h1.mp hM
      rw [Bool.not_true, b_f, h2 c hc rfl hpin]
      show (ob (qV (sLo (wayP k c)) (sHi (wayP k c)) (t : Int)) _) = _
      rw [has_val, ob_some, hh]
      have : wayP k c t = pinOK b s f t := by
       rw [Bool.eq_iff_iff, wayP_iff, pinOK_iff hs hk]
       constructor
       ·intro h3 c' hc' hpin'
        rw [pin_one hs hk.1 hc' hc hpin' hpin]; exact h3
       ·intro h3; exact h3 c hc hpin
      rw [this]
def m0 (m : List Int) : Int := m.getD 0 0
def m1 (m : List Int) : Int := m.getD 1 0
def m2 (m : List Int) : Int := m.getD 2 0
def m3 (m : List Int) : Bool := m.getD 3 0 != 0
def Mv4 (m : List Int) : Prop := m = [m0 m, m1 m, m2 m, bi (m3 m)] ∧ (0 ≤ m0 m ∧ m0 m < 81) ∧ (0 ≤ m1 m ∧ m1 m < 81)
theorem mv4_of {b h : List Int} {s f t d p : Int} (hok : MvOK b h s f t d p) : Mv4 [f, t, d, p] := by
 refine ⟨?_, hok.fr, hok.tr⟩
 show [f, t, d, p] = [f, t, d, bi (p != 0)]
 rcases hok.pp with h0 | h0 <;> rw [h0] <;> rfl
theorem mvs_ok {b h : List Int} (hc : Clean b) {s : Int} (hs : s = 0 ∨ s = 1) {m : List Int} (hm : m ∈ mvs b h s) : Mv4 m ∧ movS b h s (m0 m) (m1 m) (m2 m) (m3 m) = true := by
 obtain ⟨f, t, d, p, rfl, hok⟩ := mvs_mem hc hs hm
 exact ⟨mv4_of hok, hok.mov⟩
theorem mvB_ok {b : List Int} (hc : Clean b) (h : List Int) {s : Int} (hs : s = 0 ∨ s = 1) {m : List Int} (hm : m ∈ mvsB b s T_) : Mv4 m ∧ movS b h s (m0 m) (m1 m) (m2 m) (m3 m) = true ∧ m2 m = 0 := by
 have h1 := mvs_ok hc hs (h := h) (m := m) (List.mem_append_left _ hm)
 obtain ⟨f, t, p, rfl⟩ := mvsB_mem hm
 exact ⟨h1.1, h1.2, rfl⟩
theorem mvD_ok {b : List Int} (hc : Clean b) {h : List Int} {s : Int} (hs : s = 0 ∨ s = 1) {m : List Int} (hm : m ∈ mvsD b h s T_) : Mv4 m ∧ movS b h s (m0 m) (m1 m) (m2 m) (m3 m) = true ∧ m0 m = 0 ∧ 1 ≤ m2 m ∧ m2 m ≤ 7 ∧ m3 m = false := by
 have h1 := mvs_ok hc hs (h := h) (m := m) (List.mem_append_right _ hm)
 obtain ⟨k, t, hk, hk', rfl⟩ := mvsD_mem hm
 exact ⟨h1.1, h1.2, rfl, by show (1 : Int) ≤ (k : Int); omega, by show (k : Int) ≤ 7; omega, rfl⟩
theorem mvsD_filter (b h : List Int) (s : Int) (G : Nat → Bool) : mvsD b h s G = (mvsD b h s T_).filter fun m => G (m1 m).toNat := by
 unfold mvsD
 rw [List.filter_flatMap]
 apply flat_congr
 intro k _
 unfold mvsK
 split
 ·rfl
 ·rw [List.filter_map]
  unfold sq
  rw [List.filter_map, List.map_map, List.map_map, List.filter_filter]
  congr 1
  apply List.filter_congr
  intro i _
  show (freS b s k i && G i) = (G (Int.toNat ((i : Nat) : Int)) && (freS b s k i && true))
  rw [tn, Bool.and_true, Bool.and_comm]
theorem hdM {m : List Int} : List.headD (List.take 4 m) 0 = m0 m ∧ List.headD (List.tail (List.take 4 m)) 0 = m1 m ∧ List.headD (List.tail (List.tail (List.take 4 m))) 0 = m2 m ∧ (List.headD (List.tail (List.tail (List.tail (List.take 4 m)))) 0 != 0) = m3 m := ⟨hd0 m, hd1 m, hd2 m, by rw [hd3 m]; rfl⟩
theorem atL {M : List (List Int)} {i : Nat} (hi : i < M.length) : M.getD i [] = M[i] := by rw [List.getD_eq_getElem?_getD, List.getElem?_eq_getElem hi]; rfl
def g1 (b : List Int) (s : Int) (m : List Int) : Bool := stB b s (m0 m).toNat (m1 m).toNat
theorem all4_goes {b : List Int} (hcl : Clean b) (h : List Int) (S : Int) {s : Int} (hs : s = 0 ∨ s = 1) {k : Nat} (hk : KS b s k) {es : List (List Int × List Int)} (hp : PinsI b s k (fun _ => true) es) (chk : Bool) (N : Nat) (M : List (List Int)) (hM : ∀ m ∈ M, Mv4 m) (hl : M.length ≤ 100000) : ∀ (n i : Nat), i + n = M.length → ∀ (L : List (List Int)) (x0 x14 : Nat), x0 = L.length → x14 = L.length → L.length + n ≤ 1000000 → ∀ F,
  qAj (F + n + 1) x0 M.length M.length i b h S (byOf b) (sidesOf b) s k (sLo (ontoS b s)) (sHi (ontoS b s)) chk x14 L N M es =
   some ((L ++ (M.drop i).filter (g1 b s)).length, b, h, S, byOf b, sidesOf b, s, (k : Int), sLo (ontoS b s), sHi (ontoS b s), chk, (L ++ (M.drop i).filter (g1 b s)).length, L ++ (M.drop i).filter (g1 b s), es) := by
 intro n
 induction n with
 | zero =>
   intro i hi L x0 x14 e0 e14 hb F
   show qBv (qAj (F + 0)) _ _ _ _ _ _ _ _ _ _ _ _ _ _ _ _ _ _ _ = _
   unfold qBv
   rw [b_nlt (by omega), List.drop_eq_nil_of_le (by omega), List.filter_nil, List.append_nil, e0, e14]
 | succ n ih =>
   intro i hi L x0 x14 e0 e14 hb F
   show qBv (qAj (F + n + 1)) _ _ _ _ _ _ _ _ _ _ _ _ _ _ _ _ _ _ _ = _
   unfold qBv
   have hil : i < M.length := by omega
   obtain ⟨hm1, hm2, hm3⟩ := hM M[i] (List.getElem_mem hil)
   rw [b_lt (by omega), b_in (by omega) (by omega), tn, atL hil]
   simp only [hdM]
   rw [state_val hcl h S hs hk hp hm2 hm3, ob_some]
   simp only
   rw [w_s (n := (i : Int) + 1) (by omega) (by omega), List.drop_eq_getElem_cons hil, List.filter_cons]
   show br (g1 b s M[i]) _ _ = _
   cases hg : g1 b s M[i] with
   | true =>
     rw [b_t, b_leN (by omega), ← hm1]
     rw [tkA e0]
     refine (ih (i + 1) (by omega) (L ++ [M[i]]) (x0 + 1) (x0 + 1) (by simp; omega) (by simp; omega) (by simp; omega) F).trans ?_
     simp
   | false =>
     rw [b_f]
     exact ih (i + 1) (by omega) L x0 x14 e0 e14 (by omega) F
def pb (b : List Int) (s : Int) (q : Int) : List Int := put b q (16 * s + 1)
def pmS (b : List Int) (s : Int) (q : Int) : Bool := decide (0 ≤ q ∧ q < 81) && (decide (at_ b q = 0) && (chs (pb b s q) (1 - s) q.toNat && (mvsB (pb b s q) (1 - s) T_).all fun m => !g1 (pb b s q) (1 - s) m))
theorem pawn_goes {b : List Int} (b0 h0 : List Int) (S0 : Int) (by0 sd0 : List (List Int)) (hcl : Clean b) (h : List Int) (S : Int) {s : Int} (hs : s = 0 ∨ s = 1) {k : Nat} (hk : KS b s k) {es : List (List Int × List Int)} (hp : PinsI b s k (fun _ => true) es) (chk : Bool) (N : Nat) (M : List (List Int)) (hM : ∀ m ∈ M, Mv4 m) (hl : M.length ≤ 100000) : ∀ (n i : Nat), i + n = M.length → ∀ F,
  qAk (F + n + 1) M.length M.length i b0 h0 S0 by0 sd0 s k (sLo (ontoS b s)) (sHi (ontoS b s)) chk N M b h S (byOf b) (sidesOf b) es =
   some (if (M.drop i).all (fun m => !g1 b s m) then .inr (b0, h0, S0, by0, sd0) else .inl (false, b0, h0, S0, by0, sd0)) := by
 intro n
 induction n with
 | zero =>
   intro i hi F
   show qBw (qAk (F + 0)) _ _ _ _ _ _ _ _ _ _ _ _ _ _ _ _ _ _ _ _ _ = _
   unfold qBw
   rw [b_nlt (by omega), List.drop_eq_nil_of_le (by omega)]
   rfl
 | succ n ih =>
   intro i hi F
   show qBw (qAk (F + n + 1)) _ _ _ _ _ _ _ _ _ _ _ _ _ _ _ _ _ _ _ _ _ = _
   unfold qBw
   have hil : i < M.length := by omega
   obtain ⟨hm1, hm2, hm3⟩ := hM M[i] (List.getElem_mem hil)
   rw [b_lt (by omega), b_in (by omega) (by omega), tn, atL hil]
   simp only [hdM]
   rw [state_val hcl h S hs hk hp hm2 hm3, ob_some]
   simp only
   rw [w_s (n := (i : Int) + 1) (by omega) (by omega), List.drop_eq_getElem_cons hil, List.all_cons]
   show br (g1 b s M[i]) _ _ = _
   cases hg : g1 b s M[i] with
   | true => rw [b_t]; rfl
   | false =>
     rw [b_f]
     exact ih (i + 1) (by omega) F
theorem pb_mb (b : List Int) (s q : Int) : pb b s q = mb b s 0 q 1 false := by
 unfold pb mb laid
 rw [if_pos (by simp), if_pos (by simp)]
theorem pawn_canP {b : List Int} {s q : Int} (hs : s = 0 ∨ s = 1) (hq : 0 ≤ q ∧ q < 81) (h0 : at_ b q = 0) : CanP b (List.replicate 16 1) s 0 q 1 false := by
 refine ⟨hq, fun _ => ⟨by omega, by omega, rfl, rfl, ?_, h0⟩, fun h => absurd h (by omega)⟩
 rcases hs with rfl | rfl <;> decide
theorem pawnMates_val {b : List Int} (hcl : Clean b) (h : List Int) {s : Int} (hs : s = 0 ∨ s = 1) {k : Nat} (hk : KS b (1 - s) k) (q : Int) : qCr q b h s (byOf b) (sidesOf b) = some (pmS b s q) := by
 have hs' : 1 - s = 0 ∨ 1 - s = 1 := by omega
 have hpc : pc s 1 = 16 * s + 1 := pc_ok hs (by omega) (by omega) (by omega)
 unfold qCr pmS
 rw [of_gen, ob_some, hpc, b_neq (by omega)]
 by_cases q0 : q < 0
 ·rw [b_lt q0, decide_eq_false (p := 0 ≤ q ∧ q < 81) (by omega)]; rfl
 rw [b_nlt q0]
 by_cases q1 : q ≥ 81
 ·rw [b_ge q1, decide_eq_false (p := 0 ≤ q ∧ q < 81) (by omega)]; rfl
 have hq : 0 ≤ q ∧ q < 81 := by omega
 rw [b_nge q1, at_val, ob_some, decide_eq_true hq, Bool.true_and]
 by_cases h0 : at_ b q = 0
 ·have hP := pawn_canP hs hq h0
  have hk2 : KS (pb b s q) (1 - s) k := by rw [pb_mb]; exact ks_mb' hcl hs hP hk
  have hcl2 : Clean (pb b s q) := hcl.put q _
  have w8 : IntKind.wrap IntKind.i8 (1 - s) = 1 - s := w_8 (by omega) (by omega)
  rw [b_nne h0, decide_eq_true h0, Bool.true_and]
  unfold qDM
  rw [ob_some]
  simp only
  rw [put_full hcl, ob_some]
  simp only
  rw [show put b q (16 * s + 1) = pb b s q from rfl, w8, c_8, checkers_val hcl2 h (1 - s) (by omega), ob_some]
  simp only
  rw [has_val, ob_some]
  have hh : has (chs (pb b s q) (1 - s)) q = chs (pb b s q) (1 - s) q.toNat := by
   unfold has; rw [decide_eq_true hq.1, decide_eq_true hq.2]; rfl
  rw [hh]
  cases hch : chs (pb b s q) (1 - s) q.toNat with
  | false => rfl
  | true =>
    rw [Bool.not_true, b_f, Bool.true_and]
    obtain ⟨es, chk, hl, hp⟩ := look_val hcl2 h hs' hk2
    have hlen := mvsB_len (pb b s q) (1 - s) T_
    rw [hl, ob_some]
    simp only
    rw [all_set, ob_some]
    simp only
    rw [show (fun _ : Nat => true) = T_ from rfl, genBoard_val hcl2, ob_some]
    simp only
    obtain ⟨g, hg⟩ := many_eq (mvsB (pb b s q) (1 - s) T_).length (by omega)
    have := pawn_goes b h s (byOf b) (sidesOf b) hcl2 h (1 - s) hs' hk2 hp chk (mvsB (pb b s q) (1 - s) T_).length (mvsB (pb b s q) (1 - s) T_) (fun m hm => (mvB_ok hcl2 h hs' hm).1) (by omega) (mvsB (pb b s q) (1 - s) T_).length 0 (by omega) g
    rw [← hg] at this
    refine (congrArg (fun z => ob z _) (this : qAk many (mvsB (pb b s q) (1 - s) T_).length (Int.ofNat (mvsB (pb b s q) (1 - s) T_).length) 0 b h s (byOf b) (sidesOf b) (1 - s) k (sLo (ontoS (pb b s q) (1 - s))) (sHi (ontoS (pb b s q) (1 - s))) chk (mvsB (pb b s q) (1 - s) T_).length (mvsB (pb b s q) (1 - s) T_) (pb b s q) h (1 - s) (byOf (pb b s q)) (sidesOf (pb b s q)) es = _)).trans ?_
    rw [ob_some, List.drop_zero]
    cases (mvsB (pb b s q) (1 - s) T_).all fun m => !g1 (pb b s q) (1 - s) m <;> rfl
 ·rw [b_ne h0, decide_eq_false h0]; rfl
def g2 (b : List Int) (s : Int) (m : List Int) : Bool := !(decide (m2 m = 1) && pmS b s (m1 m))
theorem all10_goes {b : List Int} (hcl : Clean b) (h : List Int) {s : Int} (hs : s = 0 ∨ s = 1) {k : Nat} (hk : KS b (1 - s) k) (N : Nat) (M : List (List Int)) (hM : ∀ m ∈ M, Mv4 m) (hl : M.length ≤ 100000) : ∀ (n i : Nat), i + n = M.length → ∀ (L : List (List Int)) (x0 x9 : Nat), x0 = L.length → x9 = L.length → L.length + n ≤ 1000000 → ∀ F,
  qAP (F + n + 1) x0 M.length M.length i b h s (byOf b) (sidesOf b) x9 L N M =
   some ((L ++ (M.drop i).filter (g2 b s)).length, b, h, s, byOf b, sidesOf b, (L ++ (M.drop i).filter (g2 b s)).length, L ++ (M.drop i).filter (g2 b s)) := by
 intro n
 induction n with
 | zero =>
   intro i hi L x0 x9 e0 e9 hb F
   show qBu (qAP (F + 0)) _ _ _ _ _ _ _ _ _ _ _ _ _ = _
   unfold qBu
   rw [b_nlt (by omega), List.drop_eq_nil_of_le (by omega), List.filter_nil, List.append_nil, e0, e9]
 | succ n ih =>
   intro i hi L x0 x9 e0 e9 hb F
   show qBu (qAP (F + n + 1)) _ _ _ _ _ _ _ _ _ _ _ _ _ = _
   unfold qBu
   have hil : i < M.length := by omega
   obtain ⟨hm1, hm2, hm3⟩ := hM M[i] (List.getElem_mem hil)
   rw [b_lt (by omega), b_in (by omega) (by omega), tn, atL hil]
   simp only [hdM]
   rw [w_s (n := (i : Int) + 1) (by omega) (by omega), List.drop_eq_getElem_cons hil, List.filter_cons, b_leN (by omega), ← hm1, tkA e0]
   have add : g2 b s M[i] = true → qAP (F + n + 1) (x0 + 1) M.length M.length ((i : Int) + 1) b h s (byOf b) (sidesOf b) (x0 + 1) (L ++ [M[i]]) N M =
    some ((L ++ if g2 b s M[i] = true then M[i] :: (M.drop (i + 1)).filter (g2 b s) else (M.drop (i + 1)).filter (g2 b s)).length, b, h, s, byOf b, sidesOf b, (L ++ if g2 b s M[i] = true then M[i] :: (M.drop (i + 1)).filter (g2 b s) else (M.drop (i + 1)).filter (g2 b s)).length, L ++ if g2 b s M[i] = true then M[i] :: (M.drop (i + 1)).filter (g2 b s) else (M.drop (i + 1)).filter (g2 b s)) := by
    intro hg
    refine (ih (i + 1) (by omega) (L ++ [M[i]]) (x0 + 1) (x0 + 1) (by simp; omega) (by simp; omega) (by simp; omega) F).trans ?_
    rw [if_pos hg]
    simp
   by_cases hd : m2 M[i] = 1
   ·rw [b_eq hd, pawnMates_val hcl h hs hk, ob_some]
    cases hpm : pmS b s (m1 M[i]) with
    | true =>
      have hg : g2 b s M[i] = false := by unfold g2; rw [decide_eq_true hd, hpm]; rfl
      rw [b_t, hg]
      exact ih (i + 1) (by omega) L x0 x9 e0 e9 (by omega) F
    | false =>
      have hg : g2 b s M[i] = true := by unfold g2; rw [hpm]; simp
      rw [b_f]
      exact add hg
   ·have hg : g2 b s M[i] = true := by unfold g2; rw [decide_eq_false hd]; rfl
    rw [b_neq hd]
    exact add hg
def lgL (b h : List Int) (s : Int) : List (List Int) := (mvsB b s T_).filter (g1 b s) ++ (mvsD b h s (ontoS b s)).filter (g2 b s)
theorem lgL_len (b h : List Int) (s : Int) : (lgL b h s).length ≤ 20000 := by
 unfold lgL
 have h1 := mvsB_len b s T_
 have h2 := mvsD_len b h s (ontoS b s)
 have h3 := List.length_filter_le (g1 b s) (mvsB b s T_)
 have h4 := List.length_filter_le (g2 b s) (mvsD b h s (ontoS b s))
 rw [List.length_append]
 omega
theorem legalAll_val {b : List Int} (hcl : Clean b) (h : List Int) {s : Int} (hs : s = 0 ∨ s = 1) {k k' : Nat} (hk : KS b s k) (hk' : KS b (1 - s) k') : qBJ b h s (byOf b) (sidesOf b) = some ((lgL b h s).length, b, h, s, byOf b, sidesOf b, (lgL b h s).length, lgL b h s) := by
 unfold qBJ
 obtain ⟨es, chk, hl, hp⟩ := look_val hcl h hs hk
 have hlen := mvsB_len b s T_
 have hlen2 := mvsD_len b h s (ontoS b s)
 have hlen3 := List.length_filter_le (g1 b s) (mvsB b s T_)
 rw [hl, ob_some]
 simp only
 rw [all_set, ob_some]
 simp only
 rw [show (fun _ : Nat => true) = T_ from rfl, genBoard_val hcl, ob_some]
 simp only
 obtain ⟨g, hg⟩ := many_eq (mvsB b s T_).length (by omega)
 have := all4_goes hcl h s hs hk hp chk (mvsB b s T_).length (mvsB b s T_) (fun m hm => (mvB_ok hcl h hs hm).1) (by omega) (mvsB b s T_).length 0 (by omega) [] 0 0 rfl rfl (by simp only [List.length_nil]; omega) g
 rw [← hg, List.drop_zero, List.nil_append] at this
 rw [show qAj many 0 (mvsB b s T_).length (Int.ofNat (mvsB b s T_).length) 0 b h s (byOf b) (sidesOf b) s k (sLo (ontoS b s)) (sHi (ontoS b s)) chk 0 [] (mvsB b s T_).length (mvsB b s T_) es = _ from this, ob_some]
 simp only
 rw [genDrops_val hcl, ob_some]
 simp only
 have hM : ∀ m ∈ mvsD b h s (ontoS b s), Mv4 m := by
  intro m hm
  rw [mvsD_filter] at hm
  exact (mvD_ok hcl hs (List.mem_filter.mp hm).1).1
 obtain ⟨g, hg⟩ := many_eq (mvsD b h s (ontoS b s)).length (by omega)
 have := all10_goes hcl h hs hk' (mvsD b h s (ontoS b s)).length (mvsD b h s (ontoS b s)) hM (by omega) (mvsD b h s (ontoS b s)).length 0 (by omega) ((mvsB b s T_).filter (g1 b s)) _ _ rfl rfl (by omega) g
 rw [← hg, List.drop_zero] at this
 rw [show qAP many ((mvsB b s T_).filter (g1 b s)).length (mvsD b h s (ontoS b s)).length (Int.ofNat (mvsD b h s (ontoS b s)).length) 0 b h s (byOf b) (sidesOf b) ((mvsB b s T_).filter (g1 b s)).length ((mvsB b s T_).filter (g1 b s)) (mvsD b h s (ontoS b s)).length (mvsD b h s (ontoS b s)) = _ from this, ob_some]
 rfl
def mbM (b : List Int) (s : Int) (m : List Int) : List Int := mb b s (m0 m) (m1 m) (m2 m) (m3 m)
def mhM (b h : List Int) (s : Int) (m : List Int) : List Int := mh b h s (m1 m) (m2 m)
def safeM (b : List Int) (s : Int) (m : List Int) : Bool := !inC (mbM b s m) s
def stuckS (b h : List Int) (s : Int) : Bool := (mvs b h s).all fun m => !safeM b s m
def lglM (b h : List Int) (s : Int) (m : List Int) : Bool := safeM b s m && (decide (m2 m ≠ 1) || !(inC (mbM b s m) (1 - s) && stuckS (mbM b s m) (mhM b h s m) (1 - s)))
theorem rsafe_val {b h : List Int} {s : Int} (hc : Clean b) (hs : s = 0 ∨ s = 1) {m : List Int} (hm : movS b h s (m0 m) (m1 m) (m2 m) (m3 m) = true) : qCS b h s (m0 m) (m1 m) (m2 m) (m3 m) = some (safeM b s m) := by
 unfold qCS
 rw [rafter_val hc hs (movP hm).2, ob_some]
 simp only
 rw [rinCheck_val _ _ _ hs, ob_some]
 rfl
theorem rstuck_goes {b h : List Int} (hc : Clean b) {s : Int} (hs : s = 0 ∨ s = 1) (N : Nat) (M : List (List Int)) (hM : ∀ m ∈ M, movS b h s (m0 m) (m1 m) (m2 m) (m3 m) = true) (hl : M.length ≤ 100000) : ∀ (n i : Nat), i + n = M.length → ∀ F,
  qA4 (F + n + 1) M.length i b h s N M = some (if (M.drop i).all (fun m => !safeM b s m) then .inr () else .inl false) := by
 intro n
 induction n with
 | zero =>
   intro i hi F
   show qCT (qA4 (F + 0)) _ _ _ _ _ _ _ = _
   unfold qCT
   rw [b_nlt (by simp only [Int.ofNat_eq_natCast]; omega), List.drop_eq_nil_of_le (by omega)]
   rfl
 | succ n ih =>
   intro i hi F
   show qCT (qA4 (F + n + 1)) _ _ _ _ _ _ _ = _
   unfold qCT
   have hil : i < M.length := by omega
   rw [b_lt (by simp only [Int.ofNat_eq_natCast]; omega), b_in (by omega) (by omega), tn, atL hil]
   simp only [hdM]
   rw [rsafe_val hc hs (hM _ (List.getElem_mem hil)), ob_some, w_s (n := (i : Int) + 1) (by omega) (by omega), List.drop_eq_getElem_cons hil, List.all_cons]
   cases hg : safeM b s M[i] with
   | true => rw [b_t]; rfl
   | false =>
     rw [b_f]
     exact ih (i + 1) (by omega) F
theorem rstuck_val {b : List Int} (hc : Clean b) (h : List Int) {s : Int} (hs : s = 0 ∨ s = 1) : qC8 b h s = some (stuckS b h s) := by
 unfold qC8
 rw [refAll_val b h hs, ob_some, ← mvs_eq hc h hs]
 simp only
 have hlen := mvs_len b h s
 obtain ⟨g, hg⟩ := many_eq (mvs b h s).length (by omega)
 have := rstuck_goes hc hs (mvs b h s).length (mvs b h s) (fun m hm => (mvs_ok hc hs hm).2) (by omega) (mvs b h s).length 0 (by omega) g
 rw [← hg, List.drop_zero] at this
 rw [show qA4 many (mvs b h s).length 0 b h s (mvs b h s).length (mvs b h s) = _ from this, ob_some]
 unfold stuckS
 cases (mvs b h s).all fun m => !safeM b s m <;> rfl
theorem rlegal_val {b h : List Int} {s : Int} (hc : Clean b) (hs : s = 0 ∨ s = 1) {m : List Int} (hm : movS b h s (m0 m) (m1 m) (m2 m) (m3 m) = true) : qC7 b h s (m0 m) (m1 m) (m2 m) (m3 m) = some (lglM b h s m) := by
 have hs' : 1 - s = 0 ∨ 1 - s = 1 := by omega
 unfold qC7 lglM
 rw [rsafe_val hc hs hm, ob_some]
 cases safeM b s m with
 | false => rfl
 | true =>
   rw [Bool.not_true, b_f, Bool.true_and]
   by_cases hd : m2 m = 1
   ·rw [b_nne hd, decide_eq_false (p := m2 m ≠ 1) (by simpa using hd), Bool.false_or, rafter_val hc hs (movP hm).2, ob_some]
    simp only
    rw [rinCheck_val _ _ _ hs', ob_some]
    show (br (!inC (mbM b s m) (1 - s)) _ _) = _
    cases inC (mbM b s m) (1 - s) with
    | false => rfl
    | true =>
      rw [Bool.not_true, b_f, rstuck_val (mb_clean hc _ _ _ _ _) _ hs', ob_some]
      rfl
   ·rw [b_ne hd, decide_eq_true (p := m2 m ≠ 1) hd]; rfl
theorem rall_goes {b h : List Int} (hc : Clean b) {s : Int} (hs : s = 0 ∨ s = 1) (N : Nat) (M : List (List Int)) (hM : ∀ m ∈ M, Mv4 m ∧ movS b h s (m0 m) (m1 m) (m2 m) (m3 m) = true) (hl : M.length ≤ 100000) : ∀ (n i : Nat), i + n = M.length → ∀ (L : List (List Int)) (x0 x6 : Nat), x0 = L.length → x6 = L.length → L.length + n ≤ 1000000 → ∀ F,
  qA3 (F + n + 1) x0 M.length i b h s x6 L N M = some ((L ++ (M.drop i).filter (lglM b h s)).length, (L ++ (M.drop i).filter (lglM b h s)).length, L ++ (M.drop i).filter (lglM b h s)) := by
 intro n
 induction n with
 | zero =>
   intro i hi L x0 x6 e0 e6 hb F
   show qCR (qA3 (F + 0)) _ _ _ _ _ _ _ _ _ _ = _
   unfold qCR
   rw [b_nlt (by simp only [Int.ofNat_eq_natCast]; omega), List.drop_eq_nil_of_le (by omega), List.filter_nil, List.append_nil, e0, e6]
 | succ n ih =>
   intro i hi L x0 x6 e0 e6 hb F
   show qCR (qA3 (F + n + 1)) _ _ _ _ _ _ _ _ _ _ = _
   unfold qCR
   have hil : i < M.length := by omega
   obtain ⟨hm1, hm2⟩ := hM M[i] (List.getElem_mem hil)
   rw [b_lt (by simp only [Int.ofNat_eq_natCast]; omega), b_in (by omega) (by omega), tn, atL hil]
   simp only [hdM]
   rw [rlegal_val hc hs hm2, ob_some, w_s (n := (i : Int) + 1) (by omega) (by omega), List.drop_eq_getElem_cons hil, List.filter_cons, b_in (by omega) (by omega)]
   cases hg : lglM b h s M[i] with
   | true =>
     rw [b_t, b_leN (by omega), ← hm1.1, tkA e0]
     refine (ih (i + 1) (by omega) (L ++ [M[i]]) (x0 + 1) (x0 + 1) (by simp; omega) (by simp; omega) (by simp; omega) F).trans ?_
     simp
   | false =>
     rw [b_f]
     exact ih (i + 1) (by omega) L x0 x6 e0 e6 (by omega) F
def rlL (b h : List Int) (s : Int) : List (List Int) := (mvs b h s).filter (lglM b h s)
theorem rlegalAll_val {b : List Int} (hc : Clean b) (h : List Int) {s : Int} (hs : s = 0 ∨ s = 1) : qCQ b h s = some ((rlL b h s).length, (rlL b h s).length, rlL b h s) := by
 unfold qCQ
 rw [refAll_val b h hs, ob_some, ← mvs_eq hc h hs]
 simp only
 have hlen := mvs_len b h s
 obtain ⟨g, hg⟩ := many_eq (mvs b h s).length (by omega)
 have := rall_goes hc hs (mvs b h s).length (mvs b h s) (fun m hm => mvs_ok hc hs hm) (by omega) (mvs b h s).length 0 (by omega) [] 0 0 rfl rfl (by simp only [List.length_nil]; omega) g
 rw [← hg, List.drop_zero, List.nil_append] at this
 rw [show qA3 many 0 (mvs b h s).length 0 b h s 0 [] (mvs b h s).length (mvs b h s) = _ from this, ob_some]
 rfl
end Go.Kk.Pl
