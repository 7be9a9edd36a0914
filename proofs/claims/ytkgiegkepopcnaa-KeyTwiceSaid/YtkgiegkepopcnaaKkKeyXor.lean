/-
  The key as a sum of what counts: told by words of 64 bits.
-/
import Derived.Test.YtkgiegkepopcnaaKkKeyOf
namespace Go.Kk.KkKey

abbrev B64 := BitVec 64
def bv (n : Int) : B64 := BitVec.ofInt 64 n
def un (x : B64) : Int := (x.toNat : Int)

theorem bv_un (x : B64) : bv (un x) = x := by
  unfold bv un
  rw [BitVec.ofInt_natCast, BitVec.ofNat_toNat]; simp
theorem un_inj {x y : B64} (h : un x = un y) : x = y := by rw [← bv_un x, h, bv_un]
theorem xor_un (a b : Int) : bitop .xor .u64 a b = un (bv a ^^^ bv b) := by
  show IntKind.wrap .u64 _ = _
  have h : IntKind.wrap .u64 ((BitVec.ofInt 64 a ^^^ BitVec.ofInt 64 b).toNat : Int) = ((BitVec.ofInt 64 a ^^^ BitVec.ofInt 64 b).toNat : Int) :=
    wrap_of_range (by show (0 : Int) ≤ _; omega) (by show _ ≤ (18446744073709551615 : Int); have := (BitVec.ofInt 64 a ^^^ BitVec.ofInt 64 b).isLt; omega)
  exact h
theorem un_range (x : B64) : 0 ≤ un x ∧ un x < 18446744073709551616 := by
  have := x.isLt
  unfold un
  omega

/-- What a piece on a square counts; a hand; the side. -/
def pcB (q x : Int) : B64 := bv ((k10 q x).getD 0)
def hnB (s k n : Int) : B64 := bv ((k11 s k n).getD 0)
def sdB : B64 := bv (k12.getD 0)

theorem k18_un (x : Int) : ∃ v : B64, k18 x = some (un v) := by
  unfold k18
  rw [xor_un]
  exact ⟨_, rfl⟩
theorem un_of {m : Option Int} (h : ∃ v : B64, m = some (un v)) : m = some (un (bv (m.getD 0))) := by
  obtain ⟨v, rfl⟩ := h
  simp [bv_un]
theorem un_zero : un 0 = 0 := rfl
theorem br_un {b : Bool} {x y : Option Int} (hx : ∃ v : B64, x = some (un v)) (hy : ∃ v : B64, y = some (un v)) : ∃ v : B64, br b x y = some (un v) := by cases b <;> assumption
theorem ob_un {α : Type} {m : Option α} {k : α → Option Int} (hm : ∃ v, m = some v) (hk : ∀ a, m = some a → ∃ v : B64, k a = some (un v)) : ∃ v : B64, ob m k = some (un v) := by
  obtain ⟨a, rfl⟩ := hm
  exact hk a rfl
theorem k10_un (q x : Int) : k10 q x = some (un (pcB q x)) := un_of (by
  unfold k10
  refine ob_un (k17_tot _) fun a _ => ?_
  refine br_un ⟨0, rfl⟩ (br_un ⟨0, rfl⟩ (br_un ⟨0, rfl⟩ (ob_un (k18_tot _) fun a ha => ?_)))
  obtain ⟨v, hv⟩ := k18_un _
  rw [hv] at ha
  cases ha
  exact ⟨v, rfl⟩)
theorem k11_un (s k n : Int) : k11 s k n = some (un (hnB s k n)) := un_of (by
  have tail : ∀ x : Int, ∃ v : B64, (ob (k18 x) fun r => some r) = some (un v) := fun x => by
    obtain ⟨v, hv⟩ := k18_un x
    exact ⟨v, by rw [hv]; rfl⟩
  unfold k11
  repeat first | exact ⟨0, rfl⟩ | exact tail _ | apply br_un)
theorem k12_un : k12 = some (un sdB) := un_of (by
  unfold k12
  obtain ⟨v, hv⟩ := k18_un 1048576
  exact ⟨v, by rw [hv]; rfl⟩)

/-- The board's sum, up to a square; a hand's, up to a kind; both hands'. -/
def boardB (b : List Int) : Nat → B64
  | 0 => 0
  | n + 1 => boardB b n ^^^ pcB n (b.getD n 0)
def handB (h : List Int) (s : Nat) : Nat → B64
  | 0 => 0
  | n + 1 => handB h s n ^^^ hnB s n (conv .i8 .i64 (h.getD (s * 8 + n) 0))
def handsB (h : List Int) : B64 := handB h 0 8 ^^^ handB h 1 8

theorem xor_cancel (a b : B64) : a ^^^ (b ^^^ a) = b := by rw [BitVec.xor_comm b a, ← BitVec.xor_assoc, BitVec.xor_self, BitVec.zero_xor]

theorem board_loop : ∀ (n : Nat) (q : Nat) (acc : B64) (b c d : List Int) (e : Int) (f : Nat), q + n = 81 →
    k13l3 (f + n + 1) (un acc) b q c d e = some (un (acc ^^^ boardB b q ^^^ boardB b 81), c, d, e) := by
  intro n
  induction n with
  | zero =>
    intro q acc b c d e f hq
    have : q = 81 := by omega
    subst this
    show k13l3s (k13l3 (f + 0)) (un acc) b _ c d e = _
    unfold k13l3s
    rw [br_false (by decide), BitVec.xor_assoc, BitVec.xor_self, BitVec.xor_zero]
  | succ n ih =>
    intro q acc b c d e f hq
    show k13l3s (k13l3 (f + n + 1)) (un acc) b q c d e = _
    unfold k13l3s
    rw [br_true (by simp; omega), br_true (inB_true (by omega) (by omega))]
    simp only [cond_true, Int.toNat_natCast]
    rw [k10_un]
    show k13l3 (f + n + 1) (bitop .xor .u64 (un acc) (un (pcB q (b.getD q 0)))) b (IntKind.wrap .i64 ((q : Int) + 1)) c d e = _
    rw [wrap_small (by omega) (by omega), xor_un, bv_un, bv_un]
    have := ih (q + 1) (acc ^^^ pcB q (b.getD q 0)) b c d e f (by omega)
    rw [Int.natCast_add] at this
    rw [show ((q : Int) + 1) = (q : Int) + (1 : Nat) from rfl, this]
    congr 3
    show acc ^^^ pcB q (b.getD q 0) ^^^ (boardB b q ^^^ pcB q (b.getD q 0)) ^^^ boardB b 81 = _
    rw [BitVec.xor_assoc acc, xor_cancel]

theorem hand_loop (s : Nat) : ∀ (n : Nat) (k : Nat) (acc : B64) (h x2 : List Int) (x3 : Int) (x6 x7 : List Int) (x8 : Int) (f : Nat), k + n = 8 →
    k13l11 (f + n + 1) (un acc) s x2 x3 (List.take 8 (List.drop (s * 7 + s) h)) k x6 x7 x8 = some (un (acc ^^^ handB h s k ^^^ handB h s 8), x2, x3, x6, x7, x8) := by
  intro n
  induction n with
  | zero =>
    intro k acc h x2 x3 x6 x7 x8 f hk
    have : k = 8 := by omega
    subst this
    show k13l11s (k13l11 (f + 0)) (un acc) s x2 x3 _ _ x6 x7 x8 = _
    unfold k13l11s
    rw [br_false (by decide), BitVec.xor_assoc, BitVec.xor_self, BitVec.xor_zero]
  | succ n ih =>
    intro k acc h x2 x3 x6 x7 x8 f hk
    show k13l11s (k13l11 (f + n + 1)) (un acc) s x2 x3 _ k x6 x7 x8 = _
    unfold k13l11s
    rw [br_true (by simp; omega), br_true (inB_true (by omega) (by omega))]
    simp only [cond_true, Int.toNat_natCast]
    rw [getD_hand h s k (by omega), k11_un]
    show k13l11 (f + n + 1) (bitop .xor .u64 (un acc) (un (hnB s k (conv .i8 .i64 (h.getD (s * 8 + k) 0))))) s x2 x3 _ (IntKind.wrap .i64 ((k : Int) + 1)) x6 x7 x8 = _
    rw [wrap_small (by omega) (by omega), xor_un, bv_un, bv_un]
    have := ih (k + 1) (acc ^^^ hnB s k (conv .i8 .i64 (h.getD (s * 8 + k) 0))) h x2 x3 x6 x7 x8 f (by omega)
    rw [Int.natCast_add] at this
    rw [show ((k : Int) + 1) = (k : Int) + (1 : Nat) from rfl, this]
    congr 3
    show acc ^^^ hnB s k (conv .i8 .i64 (h.getD (s * 8 + k) 0)) ^^^ (handB h s k ^^^ hnB s k (conv .i8 .i64 (h.getD (s * 8 + k) 0))) ^^^ handB h s 8 = _
    rw [BitVec.xor_assoc acc, xor_cancel]

theorem hands_loop (acc : B64) (h c : List Int) (e : Int) : k13l8 many (un acc) h 0 c h e = some (un (acc ^^^ handsB h), c, h, e) := by
  obtain ⟨f, hf⟩ := many_eq 2 (by omega)
  obtain ⟨g, hg⟩ := many_eq 8 (by omega)
  have step : ∀ (s : Nat) (hs : s < 2) (acc : B64) (f : Nat), k13l8 (f + 1) (un acc) h s c h e = k13l8 f (un (acc ^^^ handB h s 8)) h (s + 1 : Nat) c h e := by
    intro s hs acc f
    show k13l8s (k13l8 f) (un acc) h s c h e = _
    unfold k13l8s
    rw [br_true (by simp; omega), br_true (inB_true (by omega) (by omega)), hg]
    show ob (k13l11 (g + 8 + 1) (un acc) s h s (List.take 8 (List.drop (Int.toNat s * 7 + Int.toNat s) h)) (0 : Nat) c h e) _ = _
    rw [Int.toNat_natCast, hand_loop s 8 0 acc h h s c h e g (by omega)]
    show k13l8 f (un (acc ^^^ 0 ^^^ handB h s 8)) h (IntKind.wrap .i64 ((s : Int) + 1)) c h e = _
    have z : acc ^^^ (0 : B64) = acc := by simp
    rw [wrap_small (by omega) (by omega), z]
    rfl
  rw [hf]
  have e1 := step 0 (by omega) acc (f + 2)
  have e2 := step 1 (by omega) (acc ^^^ handB h 0 8) (f + 1)
  rw [show f + 2 + 1 = f + 2 + 1 from rfl, show (0 : Int) = ((0 : Nat) : Int) from rfl, e1]
  rw [show f + 2 = f + 1 + 1 from rfl, e2]
  show k13l8s (k13l8 f) _ h 2 c h e = _
  unfold k13l8s
  rw [br_false (by decide), BitVec.xor_assoc]
  rfl

/-- The key. -/
def keyB (b h : List Int) (s : Int) : B64 := bif s == 1 then boardB b 81 ^^^ handsB h ^^^ sdB else boardB b 81 ^^^ handsB h

theorem k13_un (b h : List Int) (s : Int) : k13 b h s = some (un (keyB b h s)) := by
  obtain ⟨g, hg⟩ := many_eq 81 (by omega)
  have e2 : k13l3 many 0 b 0 b h s = some (un (boardB b 81), b, h, s) := by
    rw [hg]
    have := board_loop 81 0 0 b b h s g (by omega)
    rw [show (0 : B64) ^^^ boardB b 0 ^^^ boardB b 81 = boardB b 81 by show (0 : B64) ^^^ 0 ^^^ _ = _; simp] at this
    exact this
  unfold k13
  rw [e2]
  show ob (k13l8 many (un (boardB b 81)) h 0 b h s) _ = _
  rw [hands_loop]
  show br (s == 1) (ob k12 fun r10 => some (bitop .xor .u64 (un (boardB b 81 ^^^ handsB h)) r10)) (some (un (boardB b 81 ^^^ handsB h))) = _
  unfold keyB
  cases hs : s == 1
  · rfl
  · rw [k12_un]
    show some (bitop .xor .u64 _ _) = _
    rw [xor_un, bv_un, bv_un]
    rfl

/-! ### one thing changed -/

theorem boardB_set (b : List Int) (i : Nat) (x : Int) (hi : i < b.length) : ∀ n, boardB (b.set i x) n = if i < n then boardB b n ^^^ pcB i (b.getD i 0) ^^^ pcB i x else boardB b n := by
  intro n
  induction n with
  | zero => rfl
  | succ n ih =>
    show boardB (b.set i x) n ^^^ pcB n ((b.set i x).getD n 0) = _
    rw [ih]
    rcases Nat.lt_trichotomy i n with h | h | h
    · rw [if_pos h, if_pos (by omega)]
      have : (b.set i x).getD n 0 = b.getD n 0 := by
        rw [List.getD_eq_getElem?_getD, List.getD_eq_getElem?_getD, List.getElem?_set_ne (by omega)]
      rw [this]
      show boardB b n ^^^ pcB i (b.getD i 0) ^^^ pcB i x ^^^ pcB n (b.getD n 0) = boardB b n ^^^ pcB n (b.getD n 0) ^^^ pcB i (b.getD i 0) ^^^ pcB i x
      ac_rfl
    · subst h
      rw [if_neg (by omega), if_pos (by omega)]
      have : (b.set i x).getD i 0 = x := by
        rw [List.getD_eq_getElem?_getD, List.getElem?_set_self hi]; rfl
      rw [this]
      show boardB b i ^^^ pcB i x = boardB b i ^^^ pcB i (b.getD i 0) ^^^ pcB i (b.getD i 0) ^^^ pcB i x
      rw [BitVec.xor_assoc (boardB b i), BitVec.xor_self, BitVec.xor_zero]
    · rw [if_neg (by omega), if_neg (by omega)]
      have : (b.set i x).getD n 0 = b.getD n 0 := by
        rw [List.getD_eq_getElem?_getD, List.getD_eq_getElem?_getD, List.getElem?_set_ne (by omega)]
      rw [this]
      rfl

theorem un_beq {x y : B64} : (un x == un y) = (x == y) := by
  cases h : x == y with
  | true => have := LawfulBEq.eq_of_beq h; subst this; simp
  | false =>
    have : x ≠ y := by simpa using h
    have : un x ≠ un y := fun e => this (un_inj e)
    simpa using this

/-- KeyMoves. -/
theorem keyMoves_true (b h : List Int) (s q x : Int) (hb : b.length = 81) (hs : IntKind.wrap .i8 s = s) : k5 b h s q x = some true := by
  unfold k5
  rw [k9_true]
  show br (decide (q < 0)) _ _ = _
  cases h0 : decide (q < 0) with
  | true => rfl
  | false =>
    have h0 : ¬ q < 0 := by simpa using h0
    show br (decide (q > 80)) _ _ = _
    cases h1 : decide (q > 80) with
    | true => rfl
    | false =>
      have h1 : ¬ q > 80 := by simpa using h1
      show br (inB q 81) _ _ = _
      rw [br_true (inB_true (by omega) (by omega)), k13_un, k13_un, k12_un, k13_un]
      simp only [ob]
      rw [br_true (inB_true (by omega) (by omega)), k10_un, k10_un]
      simp only [xor_un, bv_un, un_beq]
      have hset := boardB_set b q.toNat x (by omega) 81
      rw [if_pos (by omega), show ((q.toNat : Nat) : Int) = q by omega] at hset
      have hk : keyB (b.set q.toNat x) h s = keyB b h s ^^^ pcB q (b.getD q.toNat 0) ^^^ pcB q x := by
        unfold keyB
        rw [hset]
        cases s == 1
        · show boardB b 81 ^^^ pcB q (b.getD q.toNat 0) ^^^ pcB q x ^^^ handsB h = boardB b 81 ^^^ handsB h ^^^ pcB q (b.getD q.toNat 0) ^^^ pcB q x
          ac_rfl
        · show boardB b 81 ^^^ pcB q (b.getD q.toNat 0) ^^^ pcB q x ^^^ handsB h ^^^ sdB = boardB b 81 ^^^ handsB h ^^^ sdB ^^^ pcB q (b.getD q.toNat 0) ^^^ pcB q x
          ac_rfl
      rw [br_true (by simp [hk])]
      have turned : s = 0 ∨ s = 1 → keyB (b.set q.toNat x) h (IntKind.wrap .i8 (1 - s)) ^^^ keyB (b.set q.toNat x) h s = sdB := by
        rintro (rfl | rfl)
        · show (boardB (b.set q.toNat x) 81 ^^^ handsB h ^^^ sdB) ^^^ (boardB (b.set q.toNat x) 81 ^^^ handsB h) = sdB
          rw [BitVec.xor_comm _ sdB, BitVec.xor_assoc, BitVec.xor_self, BitVec.xor_zero]
        · show (boardB (b.set q.toNat x) 81 ^^^ handsB h) ^^^ (boardB (b.set q.toNat x) 81 ^^^ handsB h ^^^ sdB) = sdB
          rw [← BitVec.xor_assoc, BitVec.xor_self, BitVec.zero_xor]
      by_cases h2 : s = 0 ∨ s = 1
      · rw [br_true (by rw [turned h2]; simp)]
      · cases hz : (keyB (b.set q.toNat x) h (IntKind.wrap .i8 (1 - s)) ^^^ keyB (b.set q.toNat x) h s == sdB) with
        | true => rfl
        | false =>
          show br (s != 0) (some (s != 1)) (some false) = _
          rw [br_true (by simp; omega)]
          simp
          omega

theorem handB_set (h : List Int) (s0 k0 : Nat) (x : Int) (hk : k0 < 8) (hi : s0 * 8 + k0 < h.length) (s : Nat) : ∀ n, n ≤ 8 → handB (h.set (s0 * 8 + k0) x) s n =
    if s = s0 ∧ k0 < n then handB h s n ^^^ hnB s0 k0 (conv .i8 .i64 (h.getD (s0 * 8 + k0) 0)) ^^^ hnB s0 k0 (conv .i8 .i64 x) else handB h s n := by
  intro n
  induction n with
  | zero => intro _; rw [if_neg (by omega)]; rfl
  | succ n ih =>
    intro hn
    show handB (h.set (s0 * 8 + k0) x) s n ^^^ hnB s n (conv .i8 .i64 ((h.set (s0 * 8 + k0) x).getD (s * 8 + n) 0)) = _
    rw [ih (by omega)]
    by_cases hq : s * 8 + n = s0 * 8 + k0
    · have e1 : s = s0 := by omega
      have e2 : n = k0 := by omega
      subst e1
      subst e2
      rw [if_neg (by omega), if_pos (by omega)]
      have : (h.set (s * 8 + n) x).getD (s * 8 + n) 0 = x := by
        rw [List.getD_eq_getElem?_getD, List.getElem?_set_self hi]; rfl
      rw [this]
      show handB h s n ^^^ hnB s n (conv .i8 .i64 x) = handB h s n ^^^ hnB s n (conv .i8 .i64 (h.getD (s * 8 + n) 0)) ^^^ hnB s n (conv .i8 .i64 (h.getD (s * 8 + n) 0)) ^^^ hnB s n (conv .i8 .i64 x)
      rw [BitVec.xor_assoc (handB h s n), BitVec.xor_self, BitVec.xor_zero]
    · have : (h.set (s0 * 8 + k0) x).getD (s * 8 + n) 0 = h.getD (s * 8 + n) 0 := by
        rw [List.getD_eq_getElem?_getD, List.getD_eq_getElem?_getD, List.getElem?_set_ne (by omega)]
      rw [this]
      by_cases hc : s = s0 ∧ k0 < n
      · rw [if_pos hc, if_pos (by omega)]
        show _ = handB h s n ^^^ hnB s n (conv .i8 .i64 (h.getD (s * 8 + n) 0)) ^^^ _ ^^^ _
        ac_rfl
      · rw [if_neg hc, if_neg (by omega)]
        rfl

theorem handsB_set (h : List Int) (s0 k0 : Nat) (x : Int) (hs : s0 < 2) (hk : k0 < 8) (hh : h.length = 16) :
    handsB (h.set (s0 * 8 + k0) x) = handsB h ^^^ hnB s0 k0 (conv .i8 .i64 (h.getD (s0 * 8 + k0) 0)) ^^^ hnB s0 k0 (conv .i8 .i64 x) := by
  unfold handsB
  rw [handB_set h s0 k0 x hk (by omega) 0 8 (Nat.le_refl _), handB_set h s0 k0 x hk (by omega) 1 8 (Nat.le_refl _)]
  have : s0 = 0 ∨ s0 = 1 := by omega
  rcases this with rfl | rfl
  · rw [if_pos (by omega), if_neg (by omega)]; ac_rfl
  · rw [if_neg (by omega), if_pos (by omega)]; ac_rfl

/-- KeyHands. -/
theorem keyHands_true (b h : List Int) (s : Int) (hand : List Int) (hh : h.length = 16) : k7 b h s hand = some true := by
  have core : ∀ (sd k n : Int), 0 ≤ sd → sd ≤ 1 → 1 ≤ k → k ≤ 7 → 0 ≤ n → n ≤ 18 → s = 0 ∨ s = 1 →
      br (inB sd 2) (br (inB k 8) (ob (k13 b (h.set (Int.toNat sd * 8 + Int.toNat k) (conv .i64 .i8 n)) s) fun r5 => ob (k13 b h s) fun r6 => br (inB sd 2) (br (inB k 8)
        (ob (k11 sd k (conv .i8 .i64 (h.getD (Int.toNat sd * 8 + Int.toNat k) 0))) fun r7 => ob (k11 sd k n) fun r8 => br (r5 == bitop .xor .u64 (bitop .xor .u64 r6 r7) r8)
          (ob (k13 b h (IntKind.wrap .i8 (1 - s))) fun r9 => ob (k13 b h s) fun r10 => ob k12 fun r11 => some (r9 == bitop .xor .u64 r10 r11)) (some false)) none) none) none) none = some true := by
    intro sd k n s0 s1 k0 k1 n0 n1 hs
    have i1 : inB sd 2 = true := inB_true s0 (by omega)
    have i2 : inB k 8 = true := inB_true (by omega) (by omega)
    have e1 : conv .i64 .i8 n = n := by
      show IntKind.wrap .i8 n = n
      exact wrap_of_range (by show -128 ≤ n; omega) (by show n ≤ 127; omega)
    have e2 : ∀ x, conv .i8 .i64 x = x := fun _ => rfl
    have hset := handsB_set h sd.toNat k.toNat n (by omega) (by omega) hh
    rw [e2, e2, show ((sd.toNat : Nat) : Int) = sd by omega, show ((k.toNat : Nat) : Int) = k by omega] at hset
    rw [br_true i1, br_true i2, k13_un, k13_un, k13_un]
    simp only [ob]
    rw [br_true i1, br_true i2, k11_un, k11_un, k12_un]
    simp only [xor_un, bv_un, un_beq, e1, e2]
    have hk : keyB b (h.set (Int.toNat sd * 8 + Int.toNat k) n) s = keyB b h s ^^^ hnB sd k (h.getD (Int.toNat sd * 8 + Int.toNat k) 0) ^^^ hnB sd k n := by
      unfold keyB
      rw [hset]
      cases s == 1 <;> simp only [cond_true, cond_false] <;> ac_rfl
    rw [br_true (by simp [hk])]
    have turned : keyB b h (IntKind.wrap .i8 (1 - s)) = keyB b h s ^^^ sdB := by
      rcases hs with rfl | rfl
      · rfl
      · show boardB b 81 ^^^ handsB h = boardB b 81 ^^^ handsB h ^^^ sdB ^^^ sdB
        rw [BitVec.xor_assoc _ sdB, BitVec.xor_self, BitVec.xor_zero]
    rw [turned]
    simp
  unfold k7
  rw [k9_true]
  show br (decide (hand.getD 0 0 < 0)) _ _ = _
  cases h0 : decide (hand.getD 0 0 < 0) with
  | true => rfl
  | false =>
    show br (decide (hand.getD 0 0 > 1)) _ _ = _
    cases h1 : decide (hand.getD 0 0 > 1) with
    | true => rfl
    | false =>
      show br (decide (hand.getD 1 0 < 1)) _ _ = _
      cases h2 : decide (hand.getD 1 0 < 1) with
      | true => rfl
      | false =>
        show br (decide (hand.getD 1 0 > 7)) _ _ = _
        cases h3 : decide (hand.getD 1 0 > 7) with
        | true => rfl
        | false =>
          show br (decide (hand.getD 2 0 < 0)) _ _ = _
          cases h4 : decide (hand.getD 2 0 < 0) with
          | true => rfl
          | false =>
            show br (decide (hand.getD 2 0 > 18)) _ _ = _
            cases h5 : decide (hand.getD 2 0 > 18) with
            | true => rfl
            | false =>
              simp only [decide_eq_false_iff_not] at h0 h1 h2 h3 h4 h5
              show br (s != 0) _ _ = _
              cases h6 : (s != 0) with
              | true =>
                show br (s != 1) _ _ = _
                cases h7 : (s != 1) with
                | true => rfl
                | false => exact core _ _ _ (by omega) (by omega) (by omega) (by omega) (by omega) (by omega) (.inr (by simpa using h7))
              | false => exact core _ _ _ (by omega) (by omega) (by omega) (by omega) (by omega) (by omega) (.inl (by simpa using h6))
end Go.Kk.KkKey
