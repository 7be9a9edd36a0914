/-
  The law TableRoom, told plainly.
-/
import Derived.Test.YtjlgnglacdhflaaKkTab
namespace Go.Kk.Pl

/-- A list's row's position is that of another one. -/
def samePos (r t : List Int) : Bool := rB r == rB t && (rH r == rH t && rS r == rS t)

theorem samePos_iff {r t : List Int} : samePos r t = true ↔ rB r = rB t ∧ rH r = rH t ∧ rS r = rS t := by simp [samePos]

/-- The list's rows ahead of one, asked for. -/
theorem room_asks (xs : List (List Int)) (i : Nat) (hi : i < xs.length) (hn : xs.length ≤ 30) (hl : ∀ r ∈ xs, r.length = 98) (x0 : Nat) (x5 : Int) (N x2 x3 : Nat) (x4 : Int) (hx5 : x5 = i) (e0 e1 e2 e3 e4 e5 : Int) (pm : Bool) (u : Int) (n : Nat) :
    ∀ (k : Nat) (j : Int), j = i - k → k ≤ i → ∀ f, law18_TableRooml16 (f + k + 1) x0 xs.length x2 x3 x4 x5 0 (Int.toNat x5 - 0) (Int.ofNat (Int.toNat x5 - 0)) j xs.length xs 1 u (rB (xs.getD i [])) (rH (xs.getD i [])) (rS (xs.getD i [])) n
      [rowOf (rB (xs.getD i [])) (rH (xs.getD i [])) (rS (xs.getD i [])) e0 e1 e2 e3 e4 e5 pm] =
      some (.inr (x0, xs.length, x2, x3, x4, x5, xs.length, xs, 1, u, n, [rowOf (rB (xs.getD i [])) (rH (xs.getD i [])) (rS (xs.getD i [])) e0 e1 e2 e3 e4 e5 pm])) := by
  have hil : (xs.getD i []).length = 98 := by
    rw [List.getD_eq_getElem?_getD, List.getElem?_eq_getElem hi]
    exact hl _ (List.getElem_mem _)
  have e1' : Int.toNat x5 - 0 = i := by rw [hx5]; simp
  intro k
  induction k with
  | zero =>
    intro j hj _ f
    show law18_TableRooml16s (law18_TableRooml16 (f + 0)) _ _ _ _ _ _ _ _ _ _ _ _ _ _ _ _ _ _ _ = _
    unfold law18_TableRooml16s
    rw [e1', br_false (by simp; omega)]
  | succ k ih =>
    intro j hj hk f
    show law18_TableRooml16s (law18_TableRooml16 (f + k + 1)) _ _ _ _ _ _ _ _ _ _ _ _ _ _ _ _ _ _ _ = _
    unfold law18_TableRooml16s
    rw [e1', br_true (by simp; omega), br_true (inB_true (by omega) (by omega))]
    obtain ⟨q, hq, hat⟩ := at_place (rB (xs.getD j.toNat [])) (rH (xs.getD j.toNat [])) (rS (xs.getD j.toNat [])) 1 (by omega) (by omega)
    have hq0 : q = 0 := by omega
    subst hq0
    have hg := get_eq (rB (xs.getD j.toNat [])) (rH (xs.getD j.toNat [])) (rS (xs.getD j.toNat [])) hat u n [rowOf (rB (xs.getD i [])) (rH (xs.getD i [])) (rS (xs.getD i [])) e0 e1 e2 e3 e4 e5 pm] (b' := rB (xs.getD i [])) (h' := rH (xs.getD i [])) (s' := rS (xs.getD i [])) rfl (rB_len hil) (rH_len hil)
    have hz : (0 : Nat) + Int.toNat j = j.toNat := Nat.zero_add _
    rw [hz]
    show ob (table_Get (rB (xs.getD j.toNat [])) (rH (xs.getD j.toNat [])) (rS (xs.getD j.toNat [])) 1 u n _) _ = _
    rw [hg, ob_some]
    have hnext := ih (j + 1) (by omega) (by omega) f
    rw [e1'] at hnext
    by_cases he : rB (xs.getD i []) = rB (xs.getD j.toNat []) ∧ rH (xs.getD i []) = rH (xs.getD j.toNat []) ∧ rS (xs.getD i []) = rS (xs.getD j.toNat [])
    · rw [if_pos he]
      simp only
      rw [wrap_small (by omega) (by omega)]
      refine (br_false ?_).trans hnext
      show (!(true == (rB (xs.getD j.toNat []) == rB (xs.getD i []) && (rH (xs.getD j.toNat []) == rH (xs.getD i []) && rS (xs.getD j.toNat []) == rS (xs.getD i []))))) = false
      rw [he.1, he.2.1, he.2.2]; simp
    · rw [if_neg he]
      simp only
      rw [wrap_small (by omega) (by omega)]
      refine (br_false ?_).trans hnext
      show (!(false == (rB (xs.getD j.toNat []) == rB (xs.getD i []) && (rH (xs.getD j.toNat []) == rH (xs.getD i []) && rS (xs.getD j.toNat []) == rS (xs.getD i []))))) = false
      have : (rB (xs.getD j.toNat []) == rB (xs.getD i []) && (rH (xs.getD j.toNat []) == rH (xs.getD i []) && rS (xs.getD j.toNat []) == rS (xs.getD i []))) = false := by
        cases hb : (rB (xs.getD j.toNat []) == rB (xs.getD i []) && (rH (xs.getD j.toNat []) == rH (xs.getD i []) && rS (xs.getD j.toNat []) == rS (xs.getD i []))) with
        | false => rfl
        | true =>
          simp only [Bool.and_eq_true, beq_iff_eq] at hb
          exact absurd ⟨hb.1.symm, hb.2.1.symm, hb.2.2.symm⟩ he
      rw [this]; rfl

/-- What the one place holds behind so many rows. -/
def roomSt (xs : List (List Int)) : Nat → Int × List (List Int)
  | 0 => (0, [List.replicate 106 0])
  | i + 1 => (1, [rowOf (rB (xs.getD i [])) (rH (xs.getD i [])) (rS (xs.getD i [])) i 0 0 0 0 0 false])

theorem room_goes (xs : List (List Int)) (hn : xs.length ≤ 30) (hl : ∀ r ∈ xs, r.length = 98) :
    ∀ (k i : Nat), i + k = xs.length → ∀ f, law18_TableRooml7v1 (f + k + 1) 0 xs.length 0 xs.length (Int.ofNat xs.length) i xs.length xs 1 (roomSt xs i).1 1 (roomSt xs i).2 = some (.inr (xs.length, xs)) := by
  intro k
  induction k with
  | zero =>
    intro i hi f
    show law18_TableRooml7v1s (law18_TableRooml7v1 (f + 0)) _ _ _ _ _ _ _ _ _ _ _ _ = _
    unfold law18_TableRooml7v1s
    rw [br_false (by simp; omega)]
  | succ k ih =>
    intro i hi f
    show law18_TableRooml7v1s (law18_TableRooml7v1 (f + k + 1)) _ _ _ _ _ _ _ _ _ _ _ _ = _
    unfold law18_TableRooml7v1s
    rw [br_true (by simp; omega), br_true (inB_true (by omega) (by omega))]
    have hz : (0 : Nat) + Int.toNat (i : Int) = i := by simp
    rw [hz]
    have hil : (xs.getD i []).length = 98 := by
      rw [List.getD_eq_getElem?_getD, List.getElem?_eq_getElem (by omega)]
      exact hl _ (List.getElem_mem _)
    obtain ⟨q, hq, hat⟩ := at_place (rB (xs.getD i [])) (rH (xs.getD i [])) (rS (xs.getD i [])) 1 (by omega) (by omega)
    have hq0 : q = 0 := by omega
    subst hq0
    have hput : table_Put (rB (xs.getD i [])) (rH (xs.getD i [])) (rS (xs.getD i [])) i 0 0 0 0 0 false 1 (roomSt xs i).1 1 (roomSt xs i).2 = some (1, 1, 1, (roomSt xs (i + 1)).2) := by
      cases i with
      | zero =>
        rw [put_eq _ _ _ _ _ _ _ _ _ _ hat _ _ _ (by rfl)]
        rfl
      | succ i =>
        have hil' : (xs.getD i []).length = 98 := by
          rw [List.getD_eq_getElem?_getD, List.getElem?_eq_getElem (by omega)]
          exact hl _ (List.getElem_mem _)
        rw [put_eq _ _ _ _ _ _ _ _ _ _ hat _ _ _ (by show (rowOf _ _ _ _ _ _ _ _ _ _).length = 106; exact rowOf_len (rB_len hil') (rH_len hil'))]
        rfl
    have hget := get_eq (rB (xs.getD i [])) (rH (xs.getD i [])) (rS (xs.getD i [])) hat 1 1 (roomSt xs (i + 1)).2 (b' := rB (xs.getD i [])) (h' := rH (xs.getD i [])) (s' := rS (xs.getD i [])) rfl (rB_len hil) (rH_len hil)
    rw [if_pos ⟨rfl, rfl, rfl⟩] at hget
    show ob (table_Put (rB (xs.getD i [])) (rH (xs.getD i [])) (rS (xs.getD i [])) i 0 0 0 0 0 false 1 (roomSt xs i).1 1 (roomSt xs i).2) _ = _
    rw [hput, ob_some]
    simp only
    show ob (table_Get (rB (xs.getD i [])) (rH (xs.getD i [])) (rS (xs.getD i [])) 1 1 1 (roomSt xs (i + 1)).2) _ = _
    rw [hget, ob_some]
    show ob (table_Get (rB (xs.getD i [])) (rH (xs.getD i [])) (rS (xs.getD i [])) 1 1 1 (roomSt xs (i + 1)).2) _ = _
    rw [hget, ob_some]
    simp only
    rw [br_false (by rfl), br_false (by rfl), br_false (by simp)]
    have hlen : table_Len 1 1 1 (roomSt xs (i + 1)).2 = some 1 := rfl
    rw [hlen, ob_some, br_false (by rfl), br_true (inLe_true (by omega) (by omega))]
    obtain ⟨g, hg⟩ := many_eq i (by omega)
    have hask := room_asks xs i (by omega) hn hl 0 (i : Int) 0 0 xs.length (Int.ofNat xs.length) rfl (i : Int) 0 0 0 0 0 false 1 1 i 0 (by omega) (Nat.le_refl _) g
    rw [← hg] at hask
    show ob (law18_TableRooml16 many 0 xs.length 0 xs.length (Int.ofNat xs.length) i 0 (Int.toNat (i : Int) - 0) (Int.ofNat (Int.toNat (i : Int) - 0)) 0 xs.length xs 1 1 (rB (xs.getD i [])) (rH (xs.getD i [])) (rS (xs.getD i [])) 1 (roomSt xs (i + 1)).2) _ = _
    rw [show (roomSt xs (i + 1)).2 = [rowOf (rB (xs.getD i [])) (rH (xs.getD i [])) (rS (xs.getD i [])) i 0 0 0 0 0 false] from rfl, hask, ob_some, sw_inr]
    simp only
    rw [wrap_small (by omega) (by omega)]
    exact ih (i + 1) (by omega) f

theorem tableRoom_true (xs : List (List Int)) (hm : xs.length ≤ maxLen) (hl : ∀ r ∈ xs, r.length = 98) : law18_TableRoom 0 xs.length xs.length xs = some true := by
  unfold law18_TableRoom
  rw [keeps_true, ob_some, br_false (by rfl)]
  by_cases hn : xs.length ≤ 30
  · rw [br_false (by simp; omega)]
    have hnew : table_New 1 = some (.inr (0, 1, 0, 1, [List.replicate 106 0])) := by kernel_rfl
    rw [hnew, ob_some, sw_inr]
    simp only
    obtain ⟨g, hg⟩ := many_eq xs.length (by omega)
    have := room_goes xs hn hl xs.length 0 (by omega) g
    rw [← hg] at this
    rw [show (law18_TableRooml7v1 many 0 xs.length 0 xs.length (Int.ofNat xs.length) 0 xs.length xs 1 0 1 [List.replicate 106 0]) = _ from this, ob_some, sw_inr]
  · rw [br_true (by simp; omega)]

end Go.Kk.Pl
