/-
  The law TableMany, told plainly.
-/
import Derived.Test.YtjlgnglacdhflaaKkTabRoom
namespace Go.Kk.Pl

/-- The place of a position. -/
def placeOf (b h : List Int) (s : Int) (N : Nat) : Nat := (table_at b h s N 0 0 []).getD 0
theorem placeOf_at (b h : List Int) (s : Int) (N : Nat) (h0 : 0 < N) (h1 : N ≤ 65536) : placeOf b h s N < N ∧ ∀ u n xs, table_at b h s N u n xs = some (placeOf b h s N) := by
  obtain ⟨q, hq, hat⟩ := at_place b h s N h0 h1
  have : placeOf b h s N = q := by unfold placeOf; rw [hat]; rfl
  rw [this]
  exact ⟨hq, hat⟩

/-- The place of a list's row. -/
def plc (xs : List (List Int)) (i : Nat) : Nat := placeOf (rB (xs.getD i [])) (rH (xs.getD i [])) (rS (xs.getD i [])) 65536
theorem plc_lt (xs : List (List Int)) (i : Nat) : plc xs i < 65536 := (placeOf_at _ _ _ _ (by omega) (by omega)).1
theorem plc_at (xs : List (List Int)) (i : Nat) : ∀ u n T, table_at (rB (xs.getD i [])) (rH (xs.getD i [])) (rS (xs.getD i [])) 65536 u n T = some (plc xs i) := (placeOf_at _ _ _ _ (by omega) (by omega)).2
theorem plc_same {xs : List (List Int)} {i j : Nat} (h : samePos (xs.getD i []) (xs.getD j []) = true) : plc xs i = plc xs j := by
  obtain ⟨h1, h2, h3⟩ := samePos_iff.1 h
  unfold plc
  rw [h1, h2, h3]

/-- What is put for a list's row. -/
def manyRow (xs : List (List Int)) (j : Nat) : List Int := rowOf (rB (xs.getD j [])) (rH (xs.getD j [])) (rS (xs.getD j [])) 1 j 0 0 0 0 false

/-- The table behind the first rows. -/
structure ManySt (xs : List (List Int)) (i : Nat) (u : Int) (T : List (List Int)) : Prop where
  len : T.length = 65536
  u0 : 0 ≤ u
  u1 : u ≤ i
  at_ : ∀ q, q < 65536 → (T.getD q [] = List.replicate 106 0 ∧ ∀ j, j < i → plc xs j ≠ q) ∨ ∃ j, j < i ∧ plc xs j = q ∧ (∀ k, j < k → k < i → plc xs k ≠ q) ∧ T.getD q [] = manyRow xs j

theorem row_len {xs : List (List Int)} (hl : ∀ r ∈ xs, r.length = 98) {i : Nat} (hi : i < xs.length) : (xs.getD i []).length = 98 := by
  rw [List.getD_eq_getElem?_getD, List.getElem?_eq_getElem hi]
  exact hl _ (List.getElem_mem _)

theorem many_put {xs : List (List Int)} (hl : ∀ r ∈ xs, r.length = 98) {i : Nat} (hi : i < xs.length) (hn : xs.length ≤ 40) {u : Int} {T : List (List Int)} (h : ManySt xs i u T) (n : Nat) :
    ∃ u' T', ManySt xs (i + 1) u' T' ∧ table_Put (rB (xs.getD i [])) (rH (xs.getD i [])) (rS (xs.getD i [])) 1 i 0 0 0 0 false 65536 u n T = some (65536, u', n, T') := by
  have hlen : (T.getD (plc xs i) []).length = 106 := by
    rcases h.at_ (plc xs i) (plc_lt xs i) with ⟨h1, _⟩ | ⟨j, h1, _, _, h2⟩
    · rw [h1]; simp
    · rw [h2]; exact rowOf_len (rB_len (row_len hl (by omega))) (rH_len (row_len hl (by omega)))
  have hput := put_eq (rB (xs.getD i [])) (rH (xs.getD i [])) (rS (xs.getD i [])) 1 i 0 0 0 0 false (plc_at xs i) u n T hlen
  refine ⟨_, _, ?_, hput⟩
  refine ⟨by rw [List.length_set]; exact h.len, ?_, ?_, fun q hq => ?_⟩
  · have := h.u0
    have := h.u1
    split
    · rw [wrap_small (by omega) (by omega)]; omega
    · omega
  · have := h.u0
    have := h.u1
    split
    · rw [wrap_small (by omega) (by omega)]; omega
    · omega
  · by_cases hqp : plc xs i = q
    · refine .inr ⟨i, by omega, hqp, fun k h1 h2 => by omega, ?_⟩
      subst hqp
      rw [List.getD_eq_getElem?_getD, List.getElem?_set_self (by rw [h.len]; exact hq)]
      rfl
    · have e : (T.set (plc xs i) (rowOf (rB (xs.getD i [])) (rH (xs.getD i [])) (rS (xs.getD i [])) 1 i 0 0 0 0 false)).getD q [] = T.getD q [] := by
        rw [List.getD_eq_getElem?_getD, List.getElem?_set_ne hqp, ← List.getD_eq_getElem?_getD]
      rw [e]
      rcases h.at_ q hq with ⟨h1, h2⟩ | ⟨j, h1, h2, h3, h4⟩
      · refine .inl ⟨h1, fun j hj => ?_⟩
        by_cases hji : j = i
        · subst hji; exact hqp
        · exact h2 j (by omega)
      · refine .inr ⟨j, by omega, h2, fun k k1 k2 => ?_, h4⟩
        by_cases hki : k = i
        · subst hki; exact hqp
        · exact h3 k k1 (by omega)

theorem many_puts {xs : List (List Int)} (hl : ∀ r ∈ xs, r.length = 98) (hn : xs.length ≤ 40) (n : Nat) : ∀ (m i : Nat), i + m = xs.length → ∀ u T, ManySt xs i u T →
    ∃ u' T', ManySt xs xs.length u' T' ∧ ∀ f, law18_TableManyl9 (f + m + 1) 0 xs.length 0 xs.length (Int.ofNat xs.length) i xs.length xs 65536 u n T = some (0, xs.length, xs.length, xs, 65536, u', n, T') := by
  intro m
  induction m with
  | zero =>
    intro i hi u T h
    have hi : i = xs.length := by omega
    subst hi
    refine ⟨u, T, h, fun f => ?_⟩
    show law18_TableManyl9s (law18_TableManyl9 (f + 0)) _ _ _ _ _ _ _ _ _ _ _ _ = _
    unfold law18_TableManyl9s
    rw [br_false (by simp)]
  | succ m ih =>
    intro i hi u T h
    obtain ⟨u1, T1, h1, hput⟩ := many_put hl (by omega) hn h n
    obtain ⟨u', T', h2, h3⟩ := ih (i + 1) (by omega) u1 T1 h1
    refine ⟨u', T', h2, fun f => ?_⟩
    show law18_TableManyl9s (law18_TableManyl9 (f + m + 1)) _ _ _ _ _ _ _ _ _ _ _ _ = _
    unfold law18_TableManyl9s
    rw [br_true (by simp; omega), br_true (inB_true (by omega) (by omega))]
    have hz : (0 : Nat) + Int.toNat (i : Int) = i := by simp
    rw [hz]
    show ob (table_Put (rB (xs.getD i [])) (rH (xs.getD i [])) (rS (xs.getD i [])) 1 i 0 0 0 0 false 65536 u n T) _ = _
    rw [hput, ob_some]
    simp only
    rw [wrap_small (by omega) (by omega)]
    exact h3 f

theorem many_last (xs : List (List Int)) (hn : xs.length ≤ 40) (i : Nat) (hi : i < xs.length) (x3 : Bool) (x8 : Nat) (x9 x10 x11 x12 x13 x14 x15 : Int) (x16 : Bool) (x17 : Nat) (x18 : List (List Int)) :
    ∀ (m k : Nat), k + m = xs.length → ∀ last : Nat, ∃ L : Nat, ((L = last ∧ ∀ k', k ≤ k' → k' < xs.length → samePos (xs.getD k' []) (xs.getD i []) = false) ∨
      (k ≤ L ∧ L < xs.length ∧ samePos (xs.getD L []) (xs.getD i []) = true ∧ ∀ k', L < k' → k' < xs.length → samePos (xs.getD k' []) (xs.getD i []) = false)) ∧
      ∀ f, law18_TableManyl19 (f + m + 1) 0 xs.length i x3 last k xs.length xs x8 x9 x10 x11 x12 x13 x14 x15 x16 x17 x18 =
        some (0, xs.length, (i : Int), x3, (L : Int), xs.length, xs, x8, x9, x10, x11, x12, x13, x14, x15, x16, x17, x18) := by
  intro m
  induction m with
  | zero =>
    intro k hk last
    refine ⟨last, .inl ⟨rfl, fun k' h1 h2 => by omega⟩, fun f => ?_⟩
    show law18_TableManyl19s (law18_TableManyl19 (f + 0)) _ _ _ _ _ _ _ _ _ _ _ _ _ _ _ _ _ _ _ = _
    unfold law18_TableManyl19s
    rw [br_false (by simp; omega)]
  | succ m ih =>
    intro k hk last
    have step : ∀ f L, law18_TableManyl19 (f + m + 1) 0 xs.length i x3 (if samePos (xs.getD k []) (xs.getD i []) = true then k else last : Nat) (k + 1 : Nat) xs.length xs x8 x9 x10 x11 x12 x13 x14 x15 x16 x17 x18 = some L →
        law18_TableManyl19 (f + (m + 1) + 1) 0 xs.length i x3 last k xs.length xs x8 x9 x10 x11 x12 x13 x14 x15 x16 x17 x18 = some L := by
      intro f L hL
      show law18_TableManyl19s (law18_TableManyl19 (f + m + 1)) _ _ _ _ _ _ _ _ _ _ _ _ _ _ _ _ _ _ _ = _
      unfold law18_TableManyl19s
      rw [br_true (by simp; omega), br_true (inB_true (by omega) (by omega)), br_true (inB_true (by omega) (by omega))]
      have hz : ∀ i : Nat, (0 : Nat) + Int.toNat (i : Int) = i := by simp
      rw [hz, hz, wrap_small (by omega) (by omega)]
      show br (samePos (xs.getD k []) (xs.getD i [])) _ _ = _
      cases hs : samePos (xs.getD k []) (xs.getD i []) with
      | true => rw [hs, if_pos rfl] at hL; exact hL
      | false => rw [hs, if_neg (by simp)] at hL; exact hL
    cases hs : samePos (xs.getD k []) (xs.getD i []) with
    | true =>
      obtain ⟨L, h1, h2⟩ := ih (k + 1) (by omega) k
      refine ⟨L, .inr ?_, fun f => step f _ (by rw [hs, if_pos rfl]; exact h2 f)⟩
      rcases h1 with ⟨rfl, h1⟩ | ⟨h1, h3, h4, h5⟩
      · exact ⟨Nat.le_refl _, by omega, hs, fun k' k1 k2 => h1 k' (by omega) k2⟩
      · exact ⟨by omega, h3, h4, h5⟩
    | false =>
      obtain ⟨L, h1, h2⟩ := ih (k + 1) (by omega) last
      refine ⟨L, ?_, fun f => step f _ (by rw [hs, if_neg (by simp)]; exact h2 f)⟩
      rcases h1 with ⟨rfl, h1⟩ | ⟨h1, h3, h4, h5⟩
      · refine .inl ⟨rfl, fun k' k1 k2 => ?_⟩
        by_cases hk' : k' = k
        · subst hk'; exact hs
        · exact h1 k' (by omega) k2
      · exact .inr ⟨by omega, h3, h4, h5⟩

theorem many_asks {xs : List (List Int)} (hl : ∀ r ∈ xs, r.length = 98) (hn : xs.length ≤ 40) {u : Int} {T : List (List Int)} (hT : ManySt xs xs.length u T) (n : Nat) :
    ∀ (m : Nat), m ≤ xs.length → ∀ f, law18_TableManyl14 (f + m + 1) 0 xs.length (m - 1 : Int) xs.length xs 65536 u n T = some (.inr (0, xs.length, xs.length, xs, 65536, u, n, T)) := by
  intro m
  induction m with
  | zero =>
    intro _ f
    show law18_TableManyl14s (law18_TableManyl14 (f + 0)) _ _ _ _ _ _ _ _ _ = _
    unfold law18_TableManyl14s
    rw [br_false (by simp)]
  | succ i ih =>
    intro hi f
    have e : ((i + 1 : Nat) - 1 : Int) = (i : Int) := by omega
    rw [e]
    show law18_TableManyl14s (law18_TableManyl14 (f + i + 1)) _ _ _ _ _ _ _ _ _ = _
    unfold law18_TableManyl14s
    rw [br_true (by simp), br_true (inB_true (by omega) (by omega))]
    have hz : (0 : Nat) + Int.toNat (i : Int) = i := by simp
    rw [hz]
    show ob (table_Get (rB (xs.getD i [])) (rH (xs.getD i [])) (rS (xs.getD i [])) 65536 u n T) _ = _
    rcases hT.at_ (plc xs i) (plc_lt xs i) with ⟨_, h2⟩ | ⟨j, j1, j2, j3, j4⟩
    · exact absurd rfl (h2 i (by omega))
    have hij : i ≤ j := by
      rcases Nat.lt_or_ge j i with h | h
      · exact absurd rfl (j3 i h (by omega))
      · exact h
    have hget := get_eq (rB (xs.getD i [])) (rH (xs.getD i [])) (rS (xs.getD i [])) (plc_at xs i) u n T j4 (rB_len (row_len hl j1)) (rH_len (row_len hl j1))
    have hnext : law18_TableManyl14 (f + i + 1) 0 xs.length (IntKind.wrap .i64 ((i : Int) - 1)) xs.length xs 65536 u n T = some (.inr (0, xs.length, xs.length, xs, 65536, u, n, T)) := by
      rw [wrap_small (by omega) (by omega)]
      exact ih (by omega) f
    obtain ⟨g, hg⟩ := many_eq (xs.length - i) (by omega)
    rw [hget, ob_some]
    by_cases hs : samePos (xs.getD j []) (xs.getD i []) = true
    · have hs' := samePos_iff.1 hs
      rw [if_pos hs']
      simp only
      obtain ⟨L, h1, h2⟩ := many_last xs hn i (by omega) true 65536 u 1 j 0 0 0 0 false n T (xs.length - i) i (by omega) i
      have h2 := h2 g
      rw [← hg] at h2
      have hLj : L = j := by
        rcases h1 with ⟨_, h1⟩ | ⟨h1, h3, h4, h5⟩
        · rw [h1 j hij j1] at hs; cases hs
        · have hp := plc_same h4
          rcases Nat.lt_trichotomy L j with h | h | h
          · rw [h5 j h j1] at hs; cases hs
          · exact h
          · exact absurd hp (j3 L h h3)
      subst hLj
      rw [h2, ob_some]
      simp only
      rw [br_true rfl, br_false (by simp)]
      cases hb : ((i : Int) == IntKind.wrap .i64 (Int.ofNat xs.length - 1)) with
      | true => rw [br_true rfl]; exact (br_false rfl).trans hnext
      | false => rw [br_false rfl]; exact hnext
    · have hs' : ¬ (rB (xs.getD j []) = rB (xs.getD i []) ∧ rH (xs.getD j []) = rH (xs.getD i []) ∧ rS (xs.getD j []) = rS (xs.getD i [])) := fun h => hs (samePos_iff.2 h)
      rw [if_neg hs']
      simp only
      obtain ⟨L, _, h2⟩ := many_last xs hn i (by omega) false 65536 u 0 0 0 0 0 0 false n T (xs.length - i) i (by omega) i
      have h2 := h2 g
      rw [← hg] at h2
      rw [h2, ob_some]
      simp only
      rw [br_false rfl]
      have hne : j ≠ i := fun h => by
        subst h
        exact hs' ⟨rfl, rfl, rfl⟩
      have hb : ((i : Int) == IntKind.wrap .i64 (Int.ofNat xs.length - 1)) = false := by
        rw [wrap_small (by simp; omega) (by simp; omega)]
        simp
        omega
      rw [hb, br_false rfl]
      exact hnext

theorem tableMany_true (xs : List (List Int)) (hm : xs.length ≤ maxLen) (hl : ∀ r ∈ xs, r.length = 98) : law18_TableMany 0 xs.length xs.length xs = some true := by
  unfold law18_TableMany
  rw [keeps_true, ob_some, br_false (by rfl)]
  by_cases hn : xs.length ≤ 40
  · rw [br_false (by simp; omega)]
    have hnew : table_New 65536 = some (.inr (0, 65536, 0, 65536, List.replicate 65536 (List.replicate 106 0))) := by
      unfold table_New
      rw [br_false (by rfl), br_false (by rfl), br_true (by rfl), br_true (by rfl), br_true (by rfl)]
      rfl
    rw [hnew, ob_some, sw_inr]
    simp only
    rw [br_false (by rfl)]
    have h0 : ManySt xs 0 0 (List.replicate 65536 (List.replicate 106 0)) := by
      refine ⟨List.length_replicate, by omega, by omega, fun q hq => .inl ⟨?_, fun j hj => by omega⟩⟩
      rw [List.getD_eq_getElem?_getD, List.getElem?_replicate, if_pos hq]
      rfl
    obtain ⟨u, T, hT, hp⟩ := many_puts hl hn 65536 xs.length 0 (by omega) 0 _ h0
    obtain ⟨g, hg⟩ := many_eq xs.length (by omega)
    have hp := hp g
    rw [← hg] at hp
    have hp' : law18_TableManyl9 many 0 xs.length 0 xs.length (Int.ofNat xs.length) 0 xs.length xs 65536 0 65536 (List.replicate 65536 (List.replicate 106 0)) = some (0, xs.length, xs.length, xs, 65536, u, 65536, T) := hp
    rw [hp', ob_some]
    simp only
    have ha := many_asks hl hn hT 65536 xs.length (Nat.le_refl _) g
    rw [← hg] at ha
    have hw : IntKind.wrap .i64 (Int.ofNat xs.length - 1) = (xs.length : Int) - 1 := wrap_small (by simp; omega) (by simp; omega)
    rw [hw, ha, ob_some, sw_inr]
    simp only
    have hlen : table_Len 65536 u 65536 T = some u := rfl
    rw [hlen, ob_some]
    have := hT.u1
    simp [this]
  · rw [br_true (by simp; omega)]

end Go.Kk.Pl
