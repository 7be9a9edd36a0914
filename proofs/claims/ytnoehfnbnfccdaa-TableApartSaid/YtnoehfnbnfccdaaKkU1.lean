/- What the program's functions come to, told plainly: the texts of this project that this claim leans on, cut down to what is used. -/
import Derived.Test.YtnoehfnbnfccdaaKkPl
import Derived.Test.YtnoehfnbnfccdaaKkO
namespace Go.Kk.Pl
theorem br_true {α : Type} {b : Bool} {x y : α} (h : b = true) : br b x y = x := by subst h; rfl
theorem br_false {α : Type} {b : Bool} {x y : α} (h : b = false) : br b x y = y := by subst h; rfl
theorem br_tot {α : Type} {b : Bool} {x y : Option α} (hx : ∃ v, x = some v) (hy : ∃ v, y = some v) : ∃ v, br b x y = some v := by cases b <;> assumption
theorem ob_tot {α β : Type} {m : Option α} {k : α → Option β} (hm : ∃ v, m = some v) (hk : ∀ a, ∃ v, k a = some v) : ∃ v, ob m k = some v := by
 obtain ⟨a, rfl⟩ := hm
 exact hk a
theorem ob_some {α β : Type} (a : α) (k : α → Option β) : ob (some a) k = k a := rfl
theorem sw_inr {α β γ : Type} (a : β) (f : α → Option γ) (g : β → Option γ) : sw (.inr a) f g = g a := rfl
theorem wrap64 {n : Int} (h1 : -9223372036854775808 ≤ n) (h2 : n ≤ 9223372036854775807) : IntKind.wrap .i64 n = n := wrap_of_range h1 h2
theorem wrap_small {n : Int} (h1 : -1000000000 ≤ n) (h2 : n ≤ 1000000000) : IntKind.wrap .i64 n = n := wrap64 (by omega) (by omega)
theorem wrap_u64 (n : Int) : 0 ≤ IntKind.wrap .u64 n ∧ IntKind.wrap .u64 n < 18446744073709551616 := by
 simp [IntKind.wrap, IntKind.signed, IntKind.bits]
 omega
theorem bitop_u64 (op : BinOp) (x y : Int) : 0 ≤ bitop op .u64 x y ∧ bitop op .u64 x y < 18446744073709551616 := by
 unfold bitop
 split <;> exact wrap_u64 _
theorem inB_true {x : Int} {n : Nat} (h1 : 0 ≤ x) (h2 : x < n) : inB x n = true := by simp [inB, h1, h2]
theorem many_eq (n : Nat) (h : n ≤ 1000000) : ∃ f, many = f + n + 1 := ⟨many - n - 1, by unfold many; omega⟩
theorem bi_ne0 (x : Bool) : (bi x != 0) = x := by cases x <;> rfl
end Go.Kk.Pl
namespace Go.Kk.Pl
theorem kind_tot (x : Int) : ∃ v, piece_Kind x = some v := by
 unfold piece_Kind
 repeat first | exact ⟨_, rfl⟩ | apply br_tot
theorem mix_tot (x : Int) : ∃ v, key_mix x = some v := ⟨_, rfl⟩
theorem keyPiece_tot (q x : Int) : ∃ v, key_Piece q x = some v := by
 unfold key_Piece
 refine ob_tot (kind_tot _) fun a => ?_
 repeat first | exact ⟨_, rfl⟩ | apply br_tot | (refine ob_tot (mix_tot _) fun a => ?_)
theorem keyHand_tot (s k n : Int) : ∃ v, key_Hand s k n = some v := by
 unfold key_Hand
 repeat first | exact ⟨_, rfl⟩ | apply br_tot | (refine ob_tot (mix_tot _) fun a => ?_)
theorem keySide_tot : ∃ v, key_Side = some v := by
 unfold key_Side
 refine ob_tot (mix_tot _) fun a => ?_
 exact ⟨_, rfl⟩
theorem keySquares (b c d : List Int) (e : Int) : ∀ (n : Nat) (q acc : Int), q = 81 - n → n ≤ 81 → 0 ≤ acc → ∃ A, 0 ≤ A ∧ ∀ f, key_Ofl3 (f + n + 1) acc b q c d e = some (A, c, d, e) := by
 intro n
 induction n with
 | zero =>
   intro q acc hq _ ha
   have hq : ¬ q < 81 := by omega
   refine ⟨acc, ha, fun f => ?_⟩
   show key_Ofl3s (key_Ofl3 (f + 0)) acc b q c d e = _
   unfold key_Ofl3s
   rw [br_false (by simpa using hq)]
 | succ n ih =>
   intro q acc hq hn ha
   have hq1 : q < 81 := by omega
   have hq0 : 0 ≤ q := by omega
   obtain ⟨v, hv⟩ := keyPiece_tot q (b.getD q.toNat 0)
   obtain ⟨A, h1, h2⟩ := ih (q + 1) (bitop .xor .u64 acc v) (by omega) (by omega) (bitop_u64 _ _ _).1
   refine ⟨A, h1, fun f => ?_⟩
   show key_Ofl3s (key_Ofl3 (f + n + 1)) acc b q c d e = _
   unfold key_Ofl3s
   rw [br_true (by simpa using hq1), br_true (inB_true hq0 hq1)]
   simp only [cond_true]
   rw [hv, ob_some, wrap_small (by omega) (by omega)]
   exact h2 f
theorem keyHands1 (row : List Int) (sd : Int) (x2 : List Int) (x3 : Int) (x6 x7 : List Int) (x8 : Int) : ∀ (n : Nat) (k acc : Int), k = 8 - n → n ≤ 8 → 0 ≤ acc →
  ∃ A, 0 ≤ A ∧ ∀ f, key_Ofl11 (f + n + 1) acc sd x2 x3 row k x6 x7 x8 = some (A, x2, x3, x6, x7, x8) := by
 intro n
 induction n with
 | zero =>
   intro k acc hk _ ha
   have hk : ¬ k < 8 := by omega
   refine ⟨acc, ha, fun f => ?_⟩
   show key_Ofl11s (key_Ofl11 (f + 0)) acc sd x2 x3 row k x6 x7 x8 = _
   unfold key_Ofl11s
   rw [br_false (by simpa using hk)]
 | succ n ih =>
   intro k acc hk hn ha
   have hk1 : k < 8 := by omega
   have hk0 : 0 ≤ k := by omega
   obtain ⟨v, hv⟩ := keyHand_tot sd k (conv .i8 .i64 (row.getD k.toNat 0))
   obtain ⟨A, h1, h2⟩ := ih (k + 1) (bitop .xor .u64 acc v) (by omega) (by omega) (bitop_u64 _ _ _).1
   refine ⟨A, h1, fun f => ?_⟩
   show key_Ofl11s (key_Ofl11 (f + n + 1)) acc sd x2 x3 row k x6 x7 x8 = _
   unfold key_Ofl11s
   rw [br_true (by simpa using hk1), br_true (inB_true hk0 hk1)]
   simp only [cond_true]
   rw [hv, ob_some, wrap_small (by omega) (by omega)]
   exact h2 f
theorem keyHands (h c d : List Int) (e : Int) : ∀ (n : Nat) (sd acc : Int), sd = 2 - n → n ≤ 2 → 0 ≤ acc → ∃ A, 0 ≤ A ∧ ∀ f, key_Ofl8 (f + n + 1) acc h sd c d e = some (A, c, d, e) := by
 intro n
 induction n with
 | zero =>
   intro sd acc hq _ ha
   have hq : ¬ sd < 2 := by omega
   refine ⟨acc, ha, fun f => ?_⟩
   show key_Ofl8s (key_Ofl8 (f + 0)) acc h sd c d e = _
   unfold key_Ofl8s
   rw [br_false (by simpa using hq)]
 | succ n ih =>
   intro sd acc hq hn ha
   have hq1 : sd < 2 := by omega
   have hq0 : 0 ≤ sd := by omega
   obtain ⟨A1, j1, j2⟩ := keyHands1 (List.take 8 (List.drop (Nat.add (Nat.mul (Int.toNat sd) 7) (Int.toNat sd)) h)) sd h sd c d e 8 0 acc (by omega) (by omega) ha
   obtain ⟨A, h1, h2⟩ := ih (sd + 1) A1 (by omega) (by omega) j1
   obtain ⟨g, hg⟩ := many_eq 8 (by omega)
   refine ⟨A, h1, fun f => ?_⟩
   show key_Ofl8s (key_Ofl8 (f + n + 1)) acc h sd c d e = _
   unfold key_Ofl8s
   rw [br_true (by simpa using hq1), br_true (inB_true hq0 hq1), hg, j2 g, ob_some]
   simp only
   rw [wrap_small (by omega) (by omega)]
   exact h2 f
theorem key_val (b h : List Int) (s : Int) : ∃ k, key_Of b h s = some k ∧ 0 ≤ k := by
 obtain ⟨A, a0, a1⟩ := keySquares b b h s 81 0 0 (by omega) (by omega) (by omega)
 obtain ⟨B, b0, b1⟩ := keyHands h b h s 2 0 A (by omega) (by omega) a0
 obtain ⟨g, hg⟩ := many_eq 81 (by omega)
 obtain ⟨g2, hg2⟩ := many_eq 2 (by omega)
 obtain ⟨w, hw⟩ := keySide_tot
 have e1 : key_Ofl3 many 0 b 0 b h s = some (A, b, h, s) := by rw [hg]; exact a1 g
 have e2 : key_Ofl8 many A h 0 b h s = some (B, b, h, s) := by rw [hg2]; exact b1 g2
 unfold key_Of
 rw [e1, ob_some]
 simp only
 rw [e2, ob_some]
 simp only
 rw [hw, ob_some]
 cases hs : s == 1
 ·exact ⟨B, rfl, b0⟩
 ·exact ⟨_, rfl, (bitop_u64 _ _ _).1⟩
theorem at_place (b h : List Int) (s : Int) (N : Nat) (h0 : 0 < N) (h1 : N ≤ 65536) : ∃ q, q < N ∧ ∀ u n xs, table_at b h s N u n xs = some q := by
 obtain ⟨k, hk, hk0⟩ := key_val b h s
 have e1 : N % 18446744073709551616 = N := Nat.mod_eq_of_lt (by omega)
 have e2 : Int.tmod k (Int.ofNat N) = k % N := Int.tmod_eq_emod_of_nonneg hk0
 have e3 : 0 ≤ k % N := Int.emod_nonneg _ (by omega)
 have e4 : k % (N : Int) < N := Int.emod_lt_of_pos _ (by omega)
 refine ⟨(k % N).toNat, by omega, fun u n xs => ?_⟩
 unfold table_at
 rw [hk, ob_some, e1, e2, br_false (by simp; omega), br_true (inB_true e3 e4)]
def rowOf (b h : List Int) (s e0 e1 e2 e3 e4 e5 : Int) (pm : Bool) : List Int := 1 :: (b ++ (h ++ [s, e0, e1, e2, e3, e4, e5, bi pm]))
theorem put_eq (b h : List Int) (s e0 e1 e2 e3 e4 e5 : Int) (pm : Bool) {N q : Nat} (hat : ∀ u n xs, table_at b h s N u n xs = some q) (u : Int) (n : Nat) (xs : List (List Int))
  (hlen : (xs.getD q []).length = 106) :
  table_Put b h s e0 e1 e2 e3 e4 e5 pm N u n xs = some (N, (if (xs.getD q []).getD 0 0 = 0 then IntKind.wrap .i64 (u + 1) else u), n, xs.set q (rowOf b h s e0 e1 e2 e3 e4 e5 pm)) := by
 unfold table_Put
 rw [hat, ob_some]
 have hd : List.drop 106 (List.getD xs q []) = [] := List.drop_eq_nil_of_le (by omega)
 rw [hd]
 have hr : (1 :: List.append (List.append [] (List.append b (List.append h [s, e0, e1, e2, e3, e4, e5, bi pm]))) []) = rowOf b h s e0 e1 e2 e3 e4 e5 pm := by
  show 1 :: ([] ++ (b ++ (h ++ [s, e0, e1, e2, e3, e4, e5, bi pm])) ++ []) = _
  simp [rowOf]
 rw [hr]
 by_cases h0 : (xs.getD q []).getD 0 0 = 0
 ·rw [if_pos h0, br_true (by rw [h0]; rfl)]
 ·rw [if_neg h0, br_false (by simp only [bne, Bool.not_not]; exact beq_eq_false_iff_ne.2 h0)]
theorem get_eq (b h : List Int) (s : Int) {N q : Nat} (hat : ∀ u n xs, table_at b h s N u n xs = some q) (u : Int) (n : Nat) (xs : List (List Int))
  {b' h' : List Int} {s' e0 e1 e2 e3 e4 e5 : Int} {pm : Bool} (hr : xs.getD q [] = rowOf b' h' s' e0 e1 e2 e3 e4 e5 pm) (hb : b'.length = 81) (hh : h'.length = 16) :
  table_Get b h s N u n xs = some (if b' = b ∧ h' = h ∧ s' = s then (e0, e1, e2, e3, e4, e5, pm, true) else (0, 0, 0, 0, 0, 0, false, false)) := by
 unfold table_Get
 rw [hat, ob_some]
 rw [hr]
 have t98 : List.take 98 (List.drop 1 (rowOf b' h' s' e0 e1 e2 e3 e4 e5 pm)) = b' ++ (h' ++ [s']) := by
  simp only [rowOf, List.drop_succ_cons, List.drop_zero]
  rw [List.take_append, List.take_of_length_le (by omega), hb, List.take_append, List.take_of_length_le (by omega), hh]
  rfl
 have t81 : List.take 81 (b' ++ (h' ++ [s'])) = b' := by rw [← hb]; exact List.take_left
 have d81 : List.drop 81 (b' ++ (h' ++ [s'])) = h' ++ [s'] := by rw [← hb]; exact List.drop_left
 have t16 : List.take 16 (h' ++ [s']) = h' := by rw [← hh]; exact List.take_left
 have d16 : List.drop 16 (h' ++ [s']) = [s'] := by rw [← hh]; exact List.drop_left
 have d99 : List.drop 99 (rowOf b' h' s' e0 e1 e2 e3 e4 e5 pm) = [e0, e1, e2, e3, e4, e5, bi pm] := by
  have : rowOf b' h' s' e0 e1 e2 e3 e4 e5 pm = (1 :: (b' ++ (h' ++ [s']))) ++ [e0, e1, e2, e3, e4, e5, bi pm] := by simp [rowOf]
  rw [this]
  have hl : (1 :: (b' ++ (h' ++ [s']))).length = 99 := by simp [hb, hh]
  rw [← hl]; exact List.drop_left
 rw [t98, t81, d81, t16, d16, d99]
 have hu : (rowOf b' h' s' e0 e1 e2 e3 e4 e5 pm).getD 0 0 = 1 := rfl
 rw [hu, br_false (by rfl)]
 by_cases he : b' = b ∧ h' = h ∧ s' = s
 ·obtain ⟨rfl, rfl, rfl⟩ := he
  rw [if_pos ⟨rfl, rfl, rfl⟩, br_false (by simp)]
  simp [bi_ne0]
 ·rw [if_neg he, br_true]
  simp only [Bool.not_eq_true', Bool.and_eq_false_iff, beq_eq_false_iff_ne]
  by_cases h1 : b' = b
  ·by_cases h2 : h' = h
   ·exact .inr (.inr fun h3 => he ⟨h1, h2, h3⟩)
   ·exact .inr (.inl h2)
  ·exact .inl h1
theorem get_free (b h : List Int) (s : Int) {N q : Nat} (hat : ∀ u n xs, table_at b h s N u n xs = some q) (u : Int) (n : Nat) (xs : List (List Int)) (hr : (xs.getD q []).getD 0 0 = 0) :
  table_Get b h s N u n xs = some (0, 0, 0, 0, 0, 0, false, false) := by
 unfold table_Get
 rw [hat, ob_some]
 rw [br_true (by rw [hr]; rfl)]
theorem keeps_true : law18_keeps = some true := by kernel_rfl
def rB (r : List Int) : List Int := List.take 81 (List.take 98 r)
def rH (r : List Int) : List Int := List.take 16 (List.drop 81 (List.take 98 r))
def rS (r : List Int) : Int := List.headD (List.drop 16 (List.drop 81 (List.take 98 r))) 0
end Go.Kk.Pl
namespace Go.Kk.Pl
end Go.Kk.Pl
namespace Go.Kk.Pl
def placeOf (b h : List Int) (s : Int) (N : Nat) : Nat := (table_at b h s N 0 0 []).getD 0
theorem placeOf_at (b h : List Int) (s : Int) (N : Nat) (h0 : 0 < N) (h1 : N ≤ 65536) : placeOf b h s N < N ∧ ∀ u n xs, table_at b h s N u n xs = some (placeOf b h s N) := by
 obtain ⟨q, hq, hat⟩ := at_place b h s N h0 h1
 have : placeOf b h s N = q := by unfold placeOf; rw [hat]; rfl
 rw [this]
 exact ⟨hq, hat⟩
def plc (xs : List (List Int)) (i : Nat) : Nat := placeOf (rB (xs.getD i [])) (rH (xs.getD i [])) (rS (xs.getD i [])) 65536
def manyRow (xs : List (List Int)) (j : Nat) : List Int := rowOf (rB (xs.getD j [])) (rH (xs.getD j [])) (rS (xs.getD j [])) 1 j 0 0 0 0 false
structure ManySt (xs : List (List Int)) (i : Nat) (u : Int) (T : List (List Int)) : Prop where
 len : T.length = 65536
 u0 : 0 ≤ u
 u1 : u ≤ i
 at_ : ∀ q, q < 65536 → (T.getD q [] = List.replicate 106 0 ∧ ∀ j, j < i → plc xs j ≠ q) ∨ ∃ j, j < i ∧ plc xs j = q ∧ (∀ k, j < k → k < i → plc xs k ≠ q) ∧ T.getD q [] = manyRow xs j
end Go.Kk.Pl
namespace Go.Kk.Pl
def apT (b h : List Int) (s : Int) : List (List Int) := (List.replicate 1000 (List.replicate 106 0)).set (placeOf b h s 1000) (rowOf b h s 2 5 0 0 0 0 false)
theorem apart_get {b h : List Int} {s : Int} (hb : b.length = 81) (hh : h.length = 16) (b' h' : List Int) (s' : Int) (u : Int) (n : Nat) :
  table_Get b' h' s' 1000 u n (apT b h s) = some (if b = b' ∧ h = h' ∧ s = s' then (2, 5, 0, 0, 0, 0, false, true) else (0, 0, 0, 0, 0, 0, false, false)) := by
 obtain ⟨hq, _⟩ := placeOf_at b h s 1000 (by omega) (by omega)
 obtain ⟨hq', hat⟩ := placeOf_at b' h' s' 1000 (by omega) (by omega)
 by_cases he : placeOf b h s 1000 = placeOf b' h' s' 1000
 ·refine get_eq b' h' s' hat u n _ ?_ hb hh
  unfold apT
  rw [← he, List.getD_eq_getElem?_getD, List.getElem?_set_self (by rw [List.length_replicate]; exact hq)]
  rfl
 ·have hne : ¬ (b = b' ∧ h = h' ∧ s = s') := fun h0 => he (by rw [h0.1, h0.2.1, h0.2.2])
  rw [if_neg hne]
  have h1 : (apT b h s).getD (placeOf b' h' s' 1000) [] = List.replicate 106 0 := by
   unfold apT
   rw [List.getD_eq_getElem?_getD, List.getElem?_set_ne he, List.getElem?_replicate, if_pos hq']
   rfl
  refine get_free b' h' s' hat u n _ ?_
  rw [h1]
  rfl
theorem apart_loop {b h : List Int} {s : Int} (hb : b.length = 81) (hh : h.length = 16) (xs : List (List Int)) (u : Int) (n : Nat) : ∀ (m i : Nat), i + m = 3 → ∀ f,
  law18_TableApartl12 (f + m + 1) 3 3 (i : Int) b h s 1000 u 2 5 0 0 0 0 false 3 xs n (apT b h s) = some (.inr ()) := by
 intro m
 induction m with
 | zero =>
   intro i hi f
   show law18_TableApartl12s _ _ _ _ _ _ _ _ _ _ _ _ _ _ _ _ _ _ _ _ = _
   unfold law18_TableApartl12s
   rw [br_false (by simp; omega)]
 | succ m ih =>
   intro i hi f
   have hrec := ih (i + 1) (by omega) f
   have hw : IntKind.wrap .i64 ((i : Int) + 1) = ((i + 1 : Nat) : Int) := by rw [wrap_small (by omega) (by omega)]; rfl
   show law18_TableApartl12s (law18_TableApartl12 (f + m + 1)) _ _ _ _ _ _ _ _ _ _ _ _ _ _ _ _ _ _ _ = _
   unfold law18_TableApartl12s
   rw [br_true (by simp; omega), br_true (by simp [inB]; omega)]
   rw [apart_get hb hh, ob_some]
   rw [hw]
   by_cases he : b = List.take 81 (List.take 98 (List.getD xs (Int.toNat (i : Int)) [])) ∧ h = List.take 16 (List.drop 81 (List.take 98 (List.getD xs (Int.toNat (i : Int)) []))) ∧ s = List.headD (List.drop 16 (List.drop 81 (List.take 98 (List.getD xs (Int.toNat (i : Int)) [])))) 0
   ·rw [if_pos he]
    obtain ⟨e1, e2, e3⟩ := he
    rw [← e1, ← e2, ← e3]
    simp only [beq_self_eq_true, Bool.and_self, Bool.not_true]
    rw [br_false (by rfl), br_true rfl, br_false rfl]
    exact hrec
   ·rw [if_neg he]
    simp only
    rw [br_false, br_false rfl]
    ·exact hrec
    ·generalize List.take 81 (List.take 98 (List.getD xs (Int.toNat (i : Int)) [])) = b' at he ⊢
     generalize List.take 16 (List.drop 81 (List.take 98 (List.getD xs (Int.toNat (i : Int)) []))) = h' at he ⊢
     generalize List.headD (List.drop 16 (List.drop 81 (List.take 98 (List.getD xs (Int.toNat (i : Int)) [])))) 0 = s' at he ⊢
     have : (b' == b && (h' == h && s' == s)) = false := by
      rw [Bool.eq_false_iff]
      intro hc
      simp only [Bool.and_eq_true, beq_iff_eq] at hc
      exact he ⟨hc.1.symm, hc.2.1.symm, hc.2.2.symm⟩
     rw [this]
     rfl
theorem tableApart_true (b h : List Int) (s q x : Int) (hb : b.length = 81) (hh : h.length = 16) : law18_TableApart b h s q x = some true := by
 unfold law18_TableApart
 rw [keeps_true, ob_some, br_false (by rfl)]
 have hnew : table_New 1000 = some (.inr (0, 1000, 0, 1000, List.replicate 1000 (List.replicate 106 0))) := by
  unfold table_New
  rw [br_false (by rfl), br_false (by rfl), br_true (by rfl), br_true (by rfl), br_true (by rfl)]
  rfl
 rw [hnew, ob_some, sw_inr]
 simp only
 obtain ⟨hq, hat⟩ := placeOf_at b h s 1000 (by omega) (by omega)
 have hlen : ((List.replicate 1000 (List.replicate 106 (0 : Int))).getD (placeOf b h s 1000) []).length = 106 := by
  rw [List.getD_eq_getElem?_getD, List.getElem?_replicate, if_pos hq]
  simp
 rw [put_eq b h s 2 5 0 0 0 0 false hat 0 1000 _ hlen, ob_some]
 simp only
 have hT : (List.replicate 1000 (List.replicate 106 (0 : Int))).set (placeOf b h s 1000) (rowOf b h s 2 5 0 0 0 0 false) = apT b h s := rfl
 rw [hT]
 generalize (if ((List.replicate 1000 (List.replicate 106 (0 : Int))).getD (placeOf b h s 1000) []).getD 0 0 = 0 then IntKind.wrap .i64 (0 + 1) else 0) = u
 obtain ⟨g, hg⟩ := many_eq 3 (by omega)
 have hl : ∀ xs, law18_TableApartl12 many 3 3 0 b h s 1000 u 2 5 0 0 0 0 false 3 xs 1000 (apT b h s) = some (.inr ()) := fun xs => by
  have := apart_loop (s := s) hb hh xs u 1000 3 0 (by omega) g
  rwa [← hg] at this
 rw [hl, hl, ob_some, sw_inr]
 by_cases h0 : q ≥ 0
 ·by_cases h8 : q ≤ 80
  ·rw [br_true (by simpa using h0), br_true (by simpa using h8), br_true (by simp [inB]; omega)]
  ·rw [br_true (by simpa using h0), br_false (by simp; omega)]
 ·rw [br_false (by simp; omega)]
end Go.Kk.Pl
