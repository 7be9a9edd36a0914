/-
  Words for plain laws: forks, calls, small whole numbers.
-/
import Derived.Test.YtlcccogiaaalhaaDoorKkPl
import Derived.Test.YtlcccogiaaalhaaDoorKkO
import Derived.KernelRfl
namespace Go.Kk.Pl

theorem br_true {α : Type} {b : Bool} {x y : α} (h : b = true) : br b x y = x := by subst h; rfl
theorem br_false {α : Type} {b : Bool} {x y : α} (h : b = false) : br b x y = y := by subst h; rfl
theorem br_if {α : Type} (b : Bool) (x y : α) : br b x y = if b = true then x else y := by cases b <;> rfl
theorem br_same {α : Type} (b : Bool) (x : α) : br b x x = x := by cases b <;> rfl
theorem br_tot {α : Type} {b : Bool} {x y : Option α} (hx : ∃ v, x = some v) (hy : ∃ v, y = some v) : ∃ v, br b x y = some v := by cases b <;> assumption
theorem ob_tot {α β : Type} {m : Option α} {k : α → Option β} (hm : ∃ v, m = some v) (hk : ∀ a, ∃ v, k a = some v) : ∃ v, ob m k = some v := by
  obtain ⟨a, rfl⟩ := hm
  exact hk a
theorem ob_some {α β : Type} (a : α) (k : α → Option β) : ob (some a) k = k a := rfl
theorem ob_of {α β : Type} {m : Option α} {a : α} {k : α → Option β} (h : m = some a) : ob m k = k a := by subst h; rfl
theorem sw_inl {α β γ : Type} (a : α) (f : α → Option γ) (g : β → Option γ) : sw (.inl a) f g = f a := rfl
theorem sw_inr {α β γ : Type} (a : β) (f : α → Option γ) (g : β → Option γ) : sw (.inr a) f g = g a := rfl

theorem wrap64 {n : Int} (h1 : -9223372036854775808 ≤ n) (h2 : n ≤ 9223372036854775807) : IntKind.wrap .i64 n = n := wrap_of_range h1 h2
theorem wrap_small {n : Int} (h1 : -1000000000 ≤ n) (h2 : n ≤ 1000000000) : IntKind.wrap .i64 n = n := wrap64 (by omega) (by omega)
theorem wrap_u64 (n : Int) : 0 ≤ IntKind.wrap .u64 n ∧ IntKind.wrap .u64 n < 18446744073709551616 := by
  simp [IntKind.wrap, IntKind.signed, IntKind.bits]
  omega
theorem bitop_u64 (op : BinOp) (x y : Int) : 0 ≤ bitop op .u64 x y ∧ bitop op .u64 x y < 18446744073709551616 := by
  unfold bitop
  split <;> exact wrap_u64 _
theorem inB_true {x : Int} {n : Nat} (h1 : 0 ≤ x) (h2 : x < n) : inB x n = true := by simp [inB, h1, h2]
theorem inLe_true {x : Int} {n : Nat} (h1 : 0 ≤ x) (h2 : x ≤ n) : inLe x n = true := by simp [inLe, h1, h2]
theorem many_eq (n : Nat) (h : n ≤ 1000000) : ∃ f, many = f + n + 1 := ⟨many - n - 1, by unfold many; omega⟩
theorem bi_ne0 (x : Bool) : (bi x != 0) = x := by cases x <;> rfl
theorem ofNat_eq (n : Nat) : Int.ofNat n = (n : Int) := rfl

end Go.Kk.Pl
