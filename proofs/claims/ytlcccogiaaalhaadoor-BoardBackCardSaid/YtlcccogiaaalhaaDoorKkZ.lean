/-
  Words for plain laws: forks whose tests are told by arithmetic, so that one call of 'simp' goes through many of them.
-/
import Derived.Test.YtlcccogiaaalhaaDoorKkBoard
namespace Go.Kk.Pl

section
variable {α : Type} {x y : α}
theorem b_lt {a b : Int} (h : a < b) : br (decide (a < b)) x y = x := br_true (by simpa using h)
theorem b_nlt {a b : Int} (h : ¬ a < b) : br (decide (a < b)) x y = y := br_false (by simpa using h)
theorem b_le {a b : Int} (h : a ≤ b) : br (decide (a ≤ b)) x y = x := br_true (by simpa using h)
theorem b_nle {a b : Int} (h : ¬ a ≤ b) : br (decide (a ≤ b)) x y = y := br_false (by simpa using h)
theorem b_gt {a b : Int} (h : a > b) : br (decide (a > b)) x y = x := br_true (by simpa using h)
theorem b_ngt {a b : Int} (h : ¬ a > b) : br (decide (a > b)) x y = y := br_false (by simpa using h)
theorem b_ge {a b : Int} (h : a ≥ b) : br (decide (a ≥ b)) x y = x := br_true (by simpa using h)
theorem b_nge {a b : Int} (h : ¬ a ≥ b) : br (decide (a ≥ b)) x y = y := br_false (by simpa using h)
theorem b_eq {a b : Int} (h : a = b) : br (a == b) x y = x := br_true (by simpa using h)
theorem b_neq {a b : Int} (h : ¬ a = b) : br (a == b) x y = y := br_false (by simpa using h)
theorem b_ne {a b : Int} (h : ¬ a = b) : br (a != b) x y = x := br_true (by simpa using h)
theorem b_nne {a b : Int} (h : a = b) : br (a != b) x y = y := br_false (by simpa using h)
theorem b_in {a : Int} {n : Nat} (h0 : 0 ≤ a) (h1 : a < n) : br (inB a n) x y = x := br_true (inB_true h0 h1)
theorem b_nin {a : Int} {n : Nat} (h : ¬ (0 ≤ a ∧ a < n)) : br (inB a n) x y = y := br_false (by simp [inB]; omega)
theorem b_t : br true x y = x := rfl
theorem b_f : br false x y = y := rfl
end
theorem w_s {n : Int} (h1 : -1000000000 ≤ n) (h2 : n ≤ 1000000000) : IntKind.wrap .i64 n = n := wrap_small h1 h2
theorem w_8 {n : Int} (h1 : -128 ≤ n) (h2 : n ≤ 127) : IntKind.wrap .i8 n = n := wrap_of_range h1 h2
theorem c_8 (n : Int) : conv IntKind.i8 IntKind.i64 n = n := rfl
theorem tn (n : Nat) : Int.toNat (n : Int) = n := rfl
theorem any_cons (p : Nat → Bool) (i n : Nat) : (List.range' i (n + 1)).any p = (p i || (List.range' (i + 1) n).any p) := by rw [List.range'_succ]; rfl
theorem range81' : List.range 81 = List.range' 0 81 := by rw [List.range_eq_range']
theorem at_i {b : List Int} {i : Nat} (h : i < b.length) : b.getD i 0 = b[i] := by rw [List.getD_eq_getElem?_getD, List.getElem?_eq_getElem h]; rfl

end Go.Kk.Pl
