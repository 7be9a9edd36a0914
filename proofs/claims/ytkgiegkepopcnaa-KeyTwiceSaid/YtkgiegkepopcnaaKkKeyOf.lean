/-
  The law KeyOf, told plainly.
-/
import Derived.Test.YtkgiegkepopcnaaKkKey
import Derived.KernelRfl
namespace Go.Kk.KkKey

theorem br_true {α : Type} {b : Bool} {x y : α} (h : b = true) : br b x y = x := by subst h; rfl
theorem br_false {α : Type} {b : Bool} {x y : α} (h : b = false) : br b x y = y := by subst h; rfl
theorem br_tot {α : Type} {b : Bool} {x y : Option α} (hx : ∃ v, x = some v) (hy : ∃ v, y = some v) : ∃ v, br b x y = some v := by cases b <;> assumption
theorem ob_tot {α β : Type} {m : Option α} {k : α → Option β} (hm : ∃ v, m = some v) (hk : ∀ a, ∃ v, k a = some v) : ∃ v, ob m k = some v := by
  obtain ⟨a, rfl⟩ := hm
  exact hk a

theorem k17_tot (x : Int) : ∃ v, k17 x = some v := by
  unfold k17
  repeat first | exact ⟨_, rfl⟩ | apply br_tot
theorem k18_tot (x : Int) : ∃ v, k18 x = some v := ⟨_, rfl⟩
theorem k10_tot (q x : Int) : ∃ v, k10 q x = some v := by
  unfold k10
  refine ob_tot (k17_tot _) fun a => ?_
  repeat first | exact ⟨_, rfl⟩ | apply br_tot | (refine ob_tot (k18_tot _) fun a => ?_)
theorem k11_tot (s k n : Int) : ∃ v, k11 s k n = some v := by
  unfold k11
  repeat first | exact ⟨_, rfl⟩ | apply br_tot | (refine ob_tot (k18_tot _) fun a => ?_)
theorem k12_tot : ∃ v, k12 = some v := by
  unfold k12
  refine ob_tot (k18_tot _) fun a => ?_
  exact ⟨_, rfl⟩

theorem k9_true : k9 = some true := by kernel_rfl

theorem wrap_small {n : Int} (h1 : -1000 ≤ n) (h2 : n ≤ 1000) : IntKind.wrap .i64 n = n := wrap_of_range (by show -9223372036854775808 ≤ n; omega) (by show n ≤ 9223372036854775807; omega)
theorem inB_true {x : Int} {n : Nat} (h1 : 0 ≤ x) (h2 : x < n) : inB x n = true := by simp [inB, h1, h2]

/-- The squares. -/
theorem squares (b h : List Int) (s : Int) : ∀ (n : Nat) (q acc : Int), q = 81 - n → n ≤ 81 →
    ∃ A, (∀ f, k3l5 (f + n + 1) acc q b h s = some (A, b, h, s)) ∧ ∀ f c d e, k13l3 (f + n + 1) acc b q c d e = some (A, c, d, e) := by
  intro n
  induction n with
  | zero =>
    intro q acc hq _
    have hq : ¬ q < 81 := by omega
    refine ⟨acc, fun f => ?_, fun f c d e => ?_⟩
    · show k3l5s (k3l5 (f + 0)) acc q b h s = _
      unfold k3l5s
      rw [br_false (by simpa using hq)]
    · show k13l3s (k13l3 (f + 0)) acc b q c d e = _
      unfold k13l3s
      rw [br_false (by simpa using hq)]
  | succ n ih =>
    intro q acc hq hn
    have hq1 : q < 81 := by omega
    have hq0 : 0 ≤ q := by omega
    obtain ⟨v, hv⟩ := k10_tot q (b.getD q.toNat 0)
    obtain ⟨A, h1, h2⟩ := ih (q + 1) (bitop .xor .u64 acc v) (by omega) (by omega)
    refine ⟨A, fun f => ?_, fun f c d e => ?_⟩
    · show k3l5s (k3l5 (f + n + 1)) acc q b h s = _
      unfold k3l5s
      rw [br_true (by simpa using hq1), br_true (inB_true hq0 hq1), hv]
      show k3l5 (f + n + 1) _ (IntKind.wrap .i64 (q + 1)) b h s = _
      rw [wrap_small (by omega) (by omega)]
      exact h1 f
    · show k13l3s (k13l3 (f + n + 1)) acc b q c d e = _
      unfold k13l3s
      rw [br_true (by simpa using hq1), br_true (inB_true hq0 hq1)]
      simp only [cond_true]
      rw [hv]
      show k13l3 (f + n + 1) _ b (IntKind.wrap .i64 (q + 1)) c d e = _
      rw [wrap_small (by omega) (by omega)]
      exact h2 f c d e

theorem getD_hand (h : List Int) (s k : Nat) (hk : k < 8) : (List.take 8 (List.drop (s * 7 + s) h)).getD k 0 = h.getD (s * 8 + k) 0 := by
  rw [List.getD_eq_getElem?_getD, List.getD_eq_getElem?_getD, List.getElem?_take, if_pos hk, List.getElem?_drop, show s * 7 + s + k = s * 8 + k by omega]

/-- One side's hand. -/
theorem hand (b h : List Int) (s sd : Int) (h0 : 0 ≤ sd) (h1 : sd < 2) : ∀ (n : Nat) (k acc : Int), k = 8 - n → n ≤ 8 →
    ∃ A, (∀ f, k3l12 (f + n + 1) acc sd k b h s = some (A, sd, b, h, s)) ∧
      ∀ f x2 x3 x6 x7 x8, k13l11 (f + n + 1) acc sd x2 x3 (List.take 8 (List.drop (sd.toNat * 7 + sd.toNat) h)) k x6 x7 x8 = some (A, x2, x3, x6, x7, x8) := by
  intro n
  induction n with
  | zero =>
    intro k acc hk _
    have hk : ¬ k < 8 := by omega
    refine ⟨acc, fun f => ?_, fun f x2 x3 x6 x7 x8 => ?_⟩
    · show k3l12s (k3l12 (f + 0)) acc sd k b h s = _
      unfold k3l12s
      rw [br_false (by simpa using hk)]
    · show k13l11s (k13l11 (f + 0)) acc sd x2 x3 _ k x6 x7 x8 = _
      unfold k13l11s
      rw [br_false (by simpa using hk)]
  | succ n ih =>
    intro k acc hk hn
    have hk1 : k < 8 := by omega
    have hk0 : 0 ≤ k := by omega
    obtain ⟨v, hv⟩ := k11_tot sd k (conv .i8 .i64 (h.getD (sd.toNat * 8 + k.toNat) 0))
    obtain ⟨A, i1, i2⟩ := ih (k + 1) (bitop .xor .u64 acc v) (by omega) (by omega)
    refine ⟨A, fun f => ?_, fun f x2 x3 x6 x7 x8 => ?_⟩
    · show k3l12s (k3l12 (f + n + 1)) acc sd k b h s = _
      unfold k3l12s
      rw [br_true (by simpa using hk1), br_true (inB_true h0 h1), br_true (inB_true hk0 hk1), hv]
      show k3l12 (f + n + 1) _ sd (IntKind.wrap .i64 (k + 1)) b h s = _
      rw [wrap_small (by omega) (by omega)]
      exact i1 f
    · show k13l11s (k13l11 (f + n + 1)) acc sd x2 x3 _ k x6 x7 x8 = _
      unfold k13l11s
      rw [br_true (by simpa using hk1), br_true (inB_true hk0 hk1)]
      simp only [cond_true]
      rw [getD_hand h sd.toNat k.toNat (by omega), hv]
      show k13l11 (f + n + 1) _ sd x2 x3 _ (IntKind.wrap .i64 (k + 1)) x6 x7 x8 = _
      rw [wrap_small (by omega) (by omega)]
      exact i2 f x2 x3 x6 x7 x8

theorem many_eq (n : Nat) (h : n ≤ 1000) : ∃ f, many = f + n + 1 := ⟨many - n - 1, by unfold many; omega⟩

/-- The hands. -/
theorem hands (b h : List Int) (s : Int) : ∀ (n : Nat) (sd acc : Int), sd = 2 - n → n ≤ 2 →
    ∃ A, (∀ f, k3l9 (f + n + 1) acc sd b h s = some (A, b, h, s)) ∧ ∀ f c e, k13l8 (f + n + 1) acc h sd c h e = some (A, c, h, e) := by
  intro n
  induction n with
  | zero =>
    intro sd acc hq _
    have hq : ¬ sd < 2 := by omega
    refine ⟨acc, fun f => ?_, fun f c e => ?_⟩
    · show k3l9s (k3l9 (f + 0)) acc sd b h s = _
      unfold k3l9s
      rw [br_false (by simpa using hq)]
    · show k13l8s (k13l8 (f + 0)) acc h sd c h e = _
      unfold k13l8s
      rw [br_false (by simpa using hq)]
  | succ n ih =>
    intro sd acc hq hn
    have hq1 : sd < 2 := by omega
    have hq0 : 0 ≤ sd := by omega
    obtain ⟨A1, j1, j2⟩ := hand b h s sd hq0 hq1 8 0 acc (by omega) (by omega)
    obtain ⟨A, h1, h2⟩ := ih (sd + 1) A1 (by omega) (by omega)
    obtain ⟨g, hg⟩ := many_eq 8 (by omega)
    refine ⟨A, fun f => ?_, fun f c e => ?_⟩
    · show k3l9s (k3l9 (f + n + 1)) acc sd b h s = _
      unfold k3l9s
      rw [br_true (by simpa using hq1), hg, j1 g]
      show k3l9 (f + n + 1) _ (IntKind.wrap .i64 (sd + 1)) b h s = _
      rw [wrap_small (by omega) (by omega)]
      exact h1 f
    · show k13l8s (k13l8 (f + n + 1)) acc h sd c h e = _
      unfold k13l8s
      rw [br_true (by simpa using hq1), br_true (inB_true hq0 hq1), hg]
      show ob (k13l11 (g + 8 + 1) acc sd h sd (List.take 8 (List.drop (sd.toNat * 7 + sd.toNat) h)) 0 c h e) _ = _
      rw [j2 g h sd c h e]
      show k13l8 (f + n + 1) _ h (IntKind.wrap .i64 (sd + 1)) c h e = _
      rw [wrap_small (by omega) (by omega)]
      exact h2 f c e

theorem keyOf_true (b h : List Int) (s : Int) : k3 b h s = some true := by
  obtain ⟨A, a1, a2⟩ := squares b h s 81 0 0 (by omega) (by omega)
  obtain ⟨B, b1, b2⟩ := hands b h s 2 0 A (by omega) (by omega)
  obtain ⟨g, hg⟩ := many_eq 81 (by omega)
  obtain ⟨g2, hg2⟩ := many_eq 2 (by omega)
  obtain ⟨w, hw⟩ := k12_tot
  have e1 : k3l5 many 0 0 b h s = some (A, b, h, s) := by rw [hg]; exact a1 g
  have e2 : k13l3 many 0 b 0 b h s = some (A, b, h, s) := by rw [hg]; exact a2 g b h s
  have e3 : k3l9 many A 0 b h s = some (B, b, h, s) := by rw [hg2]; exact b1 g2
  have e4 : k13l8 many A h 0 b h s = some (B, b, h, s) := by rw [hg2]; exact b2 g2 b s
  have e5 : k13 b h s = some (bif s == 1 then bitop .xor .u64 B w else B) := by
    unfold k13
    rw [e2]
    show ob (k13l8 many A h 0 b h s) _ = _
    rw [e4]
    show br (s == 1) (ob k12 _) (some B) = _
    rw [hw]
    cases hs : s == 1
    · rfl
    · rfl
  unfold k3
  rw [k9_true]
  show ob (k3l5 many 0 0 b h s) _ = _
  rw [e1]
  show ob (k3l9 many A 0 b h s) _ = _
  rw [e3]
  show br (s == 1) (ob k12 fun r6 => ob (k13 b h s) fun r7 => some (r7 == bitop .xor .u64 B r6)) (ob (k13 b h s) fun r6 => some (r6 == B)) = _
  rw [e5, hw]
  cases hs : s == 1
  · show some (B == B) = _; simp
  · show some (bitop .xor .u64 B w == bitop .xor .u64 B w) = _; simp
end Go.Kk.KkKey
