/-
  Tables, plainly: a position has a place; what is put is there.
-/
import Derived.Test.YtlcccogiaaalhaaDoorKkG
namespace Go.Kk.Pl

/-! ### keys -/

theorem kind_tot (x : Int) : ∃ v, piece_Kind x = some v := by
  unfold piece_Kind
  repeat first | exact ⟨_, rfl⟩ | apply br_tot
theorem mix_tot (x : Int) : ∃ v, key_mix x = some v := ⟨_, rfl⟩
theorem keyPiece_tot (q x : Int) : ∃ v, key_Piece q x = some v := by
  unfold key_Piece
  refine ob_tot (kind_tot _) fun a => ?_
  repeat first | exact ⟨_, rfl⟩ | apply br_tot | (refine ob_tot (mix_tot _) fun a => ?_)
theorem keyHand_tot (s k n : Int) : ∃ v, key_Hand s k n = some v := by
  unfold key_Hand
  repeat first | exact ⟨_, rfl⟩ | apply br_tot | (refine ob_tot (mix_tot _) fun a => ?_)
theorem keySide_tot : ∃ v, key_Side = some v := by
  unfold key_Side
  refine ob_tot (mix_tot _) fun a => ?_
  exact ⟨_, rfl⟩

theorem keySquares (b c d : List Int) (e : Int) : ∀ (n : Nat) (q acc : Int), q = 81 - n → n ≤ 81 → 0 ≤ acc → ∃ A, 0 ≤ A ∧ ∀ f, key_Ofl3 (f + n + 1) acc b q c d e = some (A, c, d, e) := by
  intro n
  induction n with
  | zero =>
    intro q acc hq _ ha
    have hq : ¬ q < 81 := by omega
    refine ⟨acc, ha, fun f => ?_⟩
    show key_Ofl3s (key_Ofl3 (f + 0)) acc b q c d e = _
    unfold key_Ofl3s
    rw [br_false (by simpa using hq)]
  | succ n ih =>
    intro q acc hq hn ha
    have hq1 : q < 81 := by omega
    have hq0 : 0 ≤ q := by omega
    obtain ⟨v, hv⟩ := keyPiece_tot q (b.getD q.toNat 0)
    obtain ⟨A, h1, h2⟩ := ih (q + 1) (bitop .xor .u64 acc v) (by omega) (by omega) (bitop_u64 _ _ _).1
    refine ⟨A, h1, fun f => ?_⟩
    show key_Ofl3s (key_Ofl3 (f + n + 1)) acc b q c d e = _
    unfold key_Ofl3s
    rw [br_true (by simpa using hq1), br_true (inB_true hq0 hq1)]
    simp only [cond_true]
    rw [hv, ob_some, wrap_small (by omega) (by omega)]
    exact h2 f

theorem keyHands1 (row : List Int) (sd : Int) (x2 : List Int) (x3 : Int) (x6 x7 : List Int) (x8 : Int) : ∀ (n : Nat) (k acc : Int), k = 8 - n → n ≤ 8 → 0 ≤ acc →
    ∃ A, 0 ≤ A ∧ ∀ f, key_Ofl11 (f + n + 1) acc sd x2 x3 row k x6 x7 x8 = some (A, x2, x3, x6, x7, x8) := by
  intro n
  induction n with
  | zero =>
    intro k acc hk _ ha
    have hk : ¬ k < 8 := by omega
    refine ⟨acc, ha, fun f => ?_⟩
    show key_Ofl11s (key_Ofl11 (f + 0)) acc sd x2 x3 row k x6 x7 x8 = _
    unfold key_Ofl11s
    rw [br_false (by simpa using hk)]
  | succ n ih =>
    intro k acc hk hn ha
    have hk1 : k < 8 := by omega
    have hk0 : 0 ≤ k := by omega
    obtain ⟨v, hv⟩ := keyHand_tot sd k (conv .i8 .i64 (row.getD k.toNat 0))
    obtain ⟨A, h1, h2⟩ := ih (k + 1) (bitop .xor .u64 acc v) (by omega) (by omega) (bitop_u64 _ _ _).1
    refine ⟨A, h1, fun f => ?_⟩
    show key_Ofl11s (key_Ofl11 (f + n + 1)) acc sd x2 x3 row k x6 x7 x8 = _
    unfold key_Ofl11s
    rw [br_true (by simpa using hk1), br_true (inB_true hk0 hk1)]
    simp only [cond_true]
    rw [hv, ob_some, wrap_small (by omega) (by omega)]
    exact h2 f

theorem keyHands (h c d : List Int) (e : Int) : ∀ (n : Nat) (sd acc : Int), sd = 2 - n → n ≤ 2 → 0 ≤ acc → ∃ A, 0 ≤ A ∧ ∀ f, key_Ofl8 (f + n + 1) acc h sd c d e = some (A, c, d, e) := by
  intro n
  induction n with
  | zero =>
    intro sd acc hq _ ha
    have hq : ¬ sd < 2 := by omega
    refine ⟨acc, ha, fun f => ?_⟩
    show key_Ofl8s (key_Ofl8 (f + 0)) acc h sd c d e = _
    unfold key_Ofl8s
    rw [br_false (by simpa using hq)]
  | succ n ih =>
    intro sd acc hq hn ha
    have hq1 : sd < 2 := by omega
    have hq0 : 0 ≤ sd := by omega
    obtain ⟨A1, j1, j2⟩ := keyHands1 (List.take 8 (List.drop (Nat.add (Nat.mul (Int.toNat sd) 7) (Int.toNat sd)) h)) sd h sd c d e 8 0 acc (by omega) (by omega) ha
    obtain ⟨A, h1, h2⟩ := ih (sd + 1) A1 (by omega) (by omega) j1
    obtain ⟨g, hg⟩ := many_eq 8 (by omega)
    refine ⟨A, h1, fun f => ?_⟩
    show key_Ofl8s (key_Ofl8 (f + n + 1)) acc h sd c d e = _
    unfold key_Ofl8s
    rw [br_true (by simpa using hq1), br_true (inB_true hq0 hq1), hg, j2 g, ob_some]
    simp only
    rw [wrap_small (by omega) (by omega)]
    exact h2 f

theorem key_val (b h : List Int) (s : Int) : ∃ k, key_Of b h s = some k ∧ 0 ≤ k := by
  obtain ⟨A, a0, a1⟩ := keySquares b b h s 81 0 0 (by omega) (by omega) (by omega)
  obtain ⟨B, b0, b1⟩ := keyHands h b h s 2 0 A (by omega) (by omega) a0
  obtain ⟨g, hg⟩ := many_eq 81 (by omega)
  obtain ⟨g2, hg2⟩ := many_eq 2 (by omega)
  obtain ⟨w, hw⟩ := keySide_tot
  have e1 : key_Ofl3 many 0 b 0 b h s = some (A, b, h, s) := by rw [hg]; exact a1 g
  have e2 : key_Ofl8 many A h 0 b h s = some (B, b, h, s) := by rw [hg2]; exact b1 g2
  unfold key_Of
  rw [e1, ob_some]
  simp only
  rw [e2, ob_some]
  simp only
  rw [hw, ob_some]
  cases hs : s == 1
  · exact ⟨B, rfl, b0⟩
  · exact ⟨_, rfl, (bitop_u64 _ _ _).1⟩

/-! ### places -/

theorem at_place (b h : List Int) (s : Int) (N : Nat) (h0 : 0 < N) (h1 : N ≤ 65536) : ∃ q, q < N ∧ ∀ u n xs, table_at b h s N u n xs = some q := by
  obtain ⟨k, hk, hk0⟩ := key_val b h s
  have e1 : N % 18446744073709551616 = N := Nat.mod_eq_of_lt (by omega)
  have e2 : Int.tmod k (Int.ofNat N) = k % N := Int.tmod_eq_emod_of_nonneg hk0
  have e3 : 0 ≤ k % N := Int.emod_nonneg _ (by omega)
  have e4 : k % (N : Int) < N := Int.emod_lt_of_pos _ (by omega)
  refine ⟨(k % N).toNat, by omega, fun u n xs => ?_⟩
  unfold table_at
  rw [hk, ob_some, e1, e2, br_false (by simp; omega), br_true (inB_true e3 e4)]

/-- An entry's row. -/
def rowOf (b h : List Int) (s e0 e1 e2 e3 e4 e5 : Int) (pm : Bool) : List Int := 1 :: (b ++ (h ++ [s, e0, e1, e2, e3, e4, e5, bi pm]))

theorem put_eq (b h : List Int) (s e0 e1 e2 e3 e4 e5 : Int) (pm : Bool) {N q : Nat} (hat : ∀ u n xs, table_at b h s N u n xs = some q) (u : Int) (n : Nat) (xs : List (List Int))
    (hlen : (xs.getD q []).length = 106) :
    table_Put b h s e0 e1 e2 e3 e4 e5 pm N u n xs = some (N, (if (xs.getD q []).getD 0 0 = 0 then IntKind.wrap .i64 (u + 1) else u), n, xs.set q (rowOf b h s e0 e1 e2 e3 e4 e5 pm)) := by
  unfold table_Put
  rw [hat, ob_some]
  have hd : List.drop 106 (List.getD xs q []) = [] := List.drop_eq_nil_of_le (by omega)
  rw [hd]
  have hr : (1 :: List.append (List.append [] (List.append b (List.append h [s, e0, e1, e2, e3, e4, e5, bi pm]))) []) = rowOf b h s e0 e1 e2 e3 e4 e5 pm := by
    show 1 :: ([] ++ (b ++ (h ++ [s, e0, e1, e2, e3, e4, e5, bi pm])) ++ []) = _
    simp [rowOf]
  rw [hr]
  by_cases h0 : (xs.getD q []).getD 0 0 = 0
  · rw [if_pos h0, br_true (by rw [h0]; rfl)]
  · rw [if_neg h0, br_false (by simp only [bne, Bool.not_not]; exact beq_eq_false_iff_ne.2 h0)]

theorem rowOf_len {b h : List Int} {s e0 e1 e2 e3 e4 e5 : Int} {pm : Bool} (hb : b.length = 81) (hh : h.length = 16) : (rowOf b h s e0 e1 e2 e3 e4 e5 pm).length = 106 := by simp [rowOf, hb, hh]

theorem get_eq (b h : List Int) (s : Int) {N q : Nat} (hat : ∀ u n xs, table_at b h s N u n xs = some q) (u : Int) (n : Nat) (xs : List (List Int))
    {b' h' : List Int} {s' e0 e1 e2 e3 e4 e5 : Int} {pm : Bool} (hr : xs.getD q [] = rowOf b' h' s' e0 e1 e2 e3 e4 e5 pm) (hb : b'.length = 81) (hh : h'.length = 16) :
    table_Get b h s N u n xs = some (if b' = b ∧ h' = h ∧ s' = s then (e0, e1, e2, e3, e4, e5, pm, true) else (0, 0, 0, 0, 0, 0, false, false)) := by
  unfold table_Get
  rw [hat, ob_some]
  rw [hr]
  have t98 : List.take 98 (List.drop 1 (rowOf b' h' s' e0 e1 e2 e3 e4 e5 pm)) = b' ++ (h' ++ [s']) := by
    simp only [rowOf, List.drop_succ_cons, List.drop_zero]
    rw [List.take_append, List.take_of_length_le (by omega), hb, List.take_append, List.take_of_length_le (by omega), hh]
    rfl
  have t81 : List.take 81 (b' ++ (h' ++ [s'])) = b' := by rw [← hb]; exact List.take_left
  have d81 : List.drop 81 (b' ++ (h' ++ [s'])) = h' ++ [s'] := by rw [← hb]; exact List.drop_left
  have t16 : List.take 16 (h' ++ [s']) = h' := by rw [← hh]; exact List.take_left
  have d16 : List.drop 16 (h' ++ [s']) = [s'] := by rw [← hh]; exact List.drop_left
  have d99 : List.drop 99 (rowOf b' h' s' e0 e1 e2 e3 e4 e5 pm) = [e0, e1, e2, e3, e4, e5, bi pm] := by
    have : rowOf b' h' s' e0 e1 e2 e3 e4 e5 pm = (1 :: (b' ++ (h' ++ [s']))) ++ [e0, e1, e2, e3, e4, e5, bi pm] := by simp [rowOf]
    rw [this]
    have hl : (1 :: (b' ++ (h' ++ [s']))).length = 99 := by simp [hb, hh]
    rw [← hl]; exact List.drop_left
  rw [t98, t81, d81, t16, d16, d99]
  have hu : (rowOf b' h' s' e0 e1 e2 e3 e4 e5 pm).getD 0 0 = 1 := rfl
  rw [hu, br_false (by rfl)]
  by_cases he : b' = b ∧ h' = h ∧ s' = s
  · obtain ⟨rfl, rfl, rfl⟩ := he
    rw [if_pos ⟨rfl, rfl, rfl⟩, br_false (by simp)]
    simp [bi_ne0]
  · rw [if_neg he, br_true]
    simp only [Bool.not_eq_true', Bool.and_eq_false_iff, beq_eq_false_iff_ne]
    by_cases h1 : b' = b
    · by_cases h2 : h' = h
      · exact .inr (.inr fun h3 => he ⟨h1, h2, h3⟩)
      · exact .inr (.inl h2)
    · exact .inl h1

theorem get_free (b h : List Int) (s : Int) {N q : Nat} (hat : ∀ u n xs, table_at b h s N u n xs = some q) (u : Int) (n : Nat) (xs : List (List Int)) (hr : (xs.getD q []).getD 0 0 = 0) :
    table_Get b h s N u n xs = some (0, 0, 0, 0, 0, 0, false, false) := by
  unfold table_Get
  rw [hat, ob_some]
  rw [br_true (by rw [hr]; rfl)]

theorem keeps_true : law18_keeps = some true := by kernel_rfl

/-! ### positions in a list's rows -/

/-- A position's parts in a row of 98. -/
def rB (r : List Int) : List Int := List.take 81 (List.take 98 r)
def rH (r : List Int) : List Int := List.take 16 (List.drop 81 (List.take 98 r))
def rS (r : List Int) : Int := List.headD (List.drop 16 (List.drop 81 (List.take 98 r))) 0
theorem rB_len {r : List Int} (h : r.length = 98) : (rB r).length = 81 := by simp [rB, h]
theorem rH_len {r : List Int} (h : r.length = 98) : (rH r).length = 16 := by simp [rH, h]

end Go.Kk.Pl
