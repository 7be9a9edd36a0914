/-
  The key as a sum of what counts, told by words of 64 bits; the key behind a deed.
-/
import Derived.Test.YtjlgnglacdhflaaKkPieces
namespace Go.Kk.Pl

theorem getD_hand (h : List Int) (s k : Nat) (hk : k < 8) : (List.take 8 (List.drop (s * 7 + s) h)).getD k 0 = h.getD (s * 8 + k) 0 := by
  rw [List.getD_eq_getElem?_getD, List.getD_eq_getElem?_getD, List.getElem?_take, if_pos hk, List.getElem?_drop, show s * 7 + s + k = s * 8 + k by omega]

abbrev B64 := BitVec 64
def bv (n : Int) : B64 := BitVec.ofInt 64 n
def un (x : B64) : Int := (x.toNat : Int)

theorem bv_un (x : B64) : bv (un x) = x := by
  unfold bv un
  rw [BitVec.ofInt_natCast, BitVec.ofNat_toNat]; simp
theorem un_inj {x y : B64} (h : un x = un y) : x = y := by rw [← bv_un x, h, bv_un]
theorem xor_un (a b : Int) : bitop .xor .u64 a b = un (bv a ^^^ bv b) := by
  show IntKind.wrap .u64 _ = _
  have h : IntKind.wrap .u64 ((BitVec.ofInt 64 a ^^^ BitVec.ofInt 64 b).toNat : Int) = ((BitVec.ofInt 64 a ^^^ BitVec.ofInt 64 b).toNat : Int) :=
    wrap_of_range (by show (0 : Int) ≤ _; omega) (by show _ ≤ (18446744073709551615 : Int); have := (BitVec.ofInt 64 a ^^^ BitVec.ofInt 64 b).isLt; omega)
  exact h
theorem un_range (x : B64) : 0 ≤ un x ∧ un x < 18446744073709551616 := by
  have := x.isLt
  unfold un
  omega

/-- What a piece on a square counts; a hand; the side. -/
def pcB (q x : Int) : B64 := bv ((key_Piece q x).getD 0)
def hnB (s k n : Int) : B64 := bv ((key_Hand s k n).getD 0)
def sdB : B64 := bv (key_Side.getD 0)

theorem kMix_un (x : Int) : ∃ v : B64, key_mix x = some (un v) := by
  unfold key_mix
  rw [xor_un]
  exact ⟨_, rfl⟩
theorem un_of {m : Option Int} (h : ∃ v : B64, m = some (un v)) : m = some (un (bv (m.getD 0))) := by
  obtain ⟨v, rfl⟩ := h
  simp [bv_un]
theorem un_zero : un 0 = 0 := rfl
theorem br_un {b : Bool} {x y : Option Int} (hx : ∃ v : B64, x = some (un v)) (hy : ∃ v : B64, y = some (un v)) : ∃ v : B64, br b x y = some (un v) := by cases b <;> assumption
theorem ob_un {α : Type} {m : Option α} {k : α → Option Int} (hm : ∃ v, m = some v) (hk : ∀ a, m = some a → ∃ v : B64, k a = some (un v)) : ∃ v : B64, ob m k = some (un v) := by
  obtain ⟨a, rfl⟩ := hm
  exact hk a rfl
theorem kPiece_un (q x : Int) : key_Piece q x = some (un (pcB q x)) := un_of (by
  unfold key_Piece
  refine ob_un (kind_tot _) fun a _ => ?_
  refine br_un ⟨0, rfl⟩ (br_un ⟨0, rfl⟩ (br_un ⟨0, rfl⟩ (ob_un (mix_tot _) fun a ha => ?_)))
  obtain ⟨v, hv⟩ := kMix_un _
  rw [hv] at ha
  cases ha
  exact ⟨v, rfl⟩)
theorem kHand_un (s k n : Int) : key_Hand s k n = some (un (hnB s k n)) := un_of (by
  have tail : ∀ x : Int, ∃ v : B64, (ob (key_mix x) fun r => some r) = some (un v) := fun x => by
    obtain ⟨v, hv⟩ := kMix_un x
    exact ⟨v, by rw [hv]; rfl⟩
  unfold key_Hand
  repeat first | exact ⟨0, rfl⟩ | exact tail _ | apply br_un)
theorem kSide_un : key_Side = some (un sdB) := un_of (by
  unfold key_Side
  obtain ⟨v, hv⟩ := kMix_un 1048576
  exact ⟨v, by rw [hv]; rfl⟩)

/-- The board's sum, up to a square; a hand's, up to a kind; both hands'. -/
def boardB (b : List Int) : Nat → B64
  | 0 => 0
  | n + 1 => boardB b n ^^^ pcB n (b.getD n 0)
def handB (h : List Int) (s : Nat) : Nat → B64
  | 0 => 0
  | n + 1 => handB h s n ^^^ hnB s n (conv .i8 .i64 (h.getD (s * 8 + n) 0))
def handsB (h : List Int) : B64 := handB h 0 8 ^^^ handB h 1 8

theorem xor_cancel (a b : B64) : a ^^^ (b ^^^ a) = b := by rw [BitVec.xor_comm b a, ← BitVec.xor_assoc, BitVec.xor_self, BitVec.zero_xor]

theorem board_loop : ∀ (n : Nat) (q : Nat) (acc : B64) (b c d : List Int) (e : Int) (f : Nat), q + n = 81 →
    key_Ofl3 (f + n + 1) (un acc) b q c d e = some (un (acc ^^^ boardB b q ^^^ boardB b 81), c, d, e) := by
  intro n
  induction n with
  | zero =>
    intro q acc b c d e f hq
    have : q = 81 := by omega
    subst this
    show key_Ofl3s (key_Ofl3 (f + 0)) (un acc) b _ c d e = _
    unfold key_Ofl3s
    rw [br_false (by decide), BitVec.xor_assoc, BitVec.xor_self, BitVec.xor_zero]
  | succ n ih =>
    intro q acc b c d e f hq
    show key_Ofl3s (key_Ofl3 (f + n + 1)) (un acc) b q c d e = _
    unfold key_Ofl3s
    rw [br_true (by simp; omega), br_true (inB_true (by omega) (by omega))]
    simp only [cond_true, Int.toNat_natCast]
    rw [kPiece_un]
    show key_Ofl3 (f + n + 1) (bitop .xor .u64 (un acc) (un (pcB q (b.getD q 0)))) b (IntKind.wrap .i64 ((q : Int) + 1)) c d e = _
    rw [wrap_small (by omega) (by omega), xor_un, bv_un, bv_un]
    have := ih (q + 1) (acc ^^^ pcB q (b.getD q 0)) b c d e f (by omega)
    rw [Int.natCast_add] at this
    rw [show ((q : Int) + 1) = (q : Int) + (1 : Nat) from rfl, this]
    congr 3
    show acc ^^^ pcB q (b.getD q 0) ^^^ (boardB b q ^^^ pcB q (b.getD q 0)) ^^^ boardB b 81 = _
    rw [BitVec.xor_assoc acc, xor_cancel]

theorem hand_loop (s : Nat) : ∀ (n : Nat) (k : Nat) (acc : B64) (h x2 : List Int) (x3 : Int) (x6 x7 : List Int) (x8 : Int) (f : Nat), k + n = 8 →
    key_Ofl11 (f + n + 1) (un acc) s x2 x3 (List.take 8 (List.drop (s * 7 + s) h)) k x6 x7 x8 = some (un (acc ^^^ handB h s k ^^^ handB h s 8), x2, x3, x6, x7, x8) := by
  intro n
  induction n with
  | zero =>
    intro k acc h x2 x3 x6 x7 x8 f hk
    have : k = 8 := by omega
    subst this
    show key_Ofl11s (key_Ofl11 (f + 0)) (un acc) s x2 x3 _ _ x6 x7 x8 = _
    unfold key_Ofl11s
    rw [br_false (by decide), BitVec.xor_assoc, BitVec.xor_self, BitVec.xor_zero]
  | succ n ih =>
    intro k acc h x2 x3 x6 x7 x8 f hk
    show key_Ofl11s (key_Ofl11 (f + n + 1)) (un acc) s x2 x3 _ k x6 x7 x8 = _
    unfold key_Ofl11s
    rw [br_true (by simp; omega), br_true (inB_true (by omega) (by omega))]
    simp only [cond_true, Int.toNat_natCast]
    rw [getD_hand h s k (by omega), kHand_un]
    show key_Ofl11 (f + n + 1) (bitop .xor .u64 (un acc) (un (hnB s k (conv .i8 .i64 (h.getD (s * 8 + k) 0))))) s x2 x3 _ (IntKind.wrap .i64 ((k : Int) + 1)) x6 x7 x8 = _
    rw [wrap_small (by omega) (by omega), xor_un, bv_un, bv_un]
    have := ih (k + 1) (acc ^^^ hnB s k (conv .i8 .i64 (h.getD (s * 8 + k) 0))) h x2 x3 x6 x7 x8 f (by omega)
    rw [Int.natCast_add] at this
    rw [show ((k : Int) + 1) = (k : Int) + (1 : Nat) from rfl, this]
    congr 3
    show acc ^^^ hnB s k (conv .i8 .i64 (h.getD (s * 8 + k) 0)) ^^^ (handB h s k ^^^ hnB s k (conv .i8 .i64 (h.getD (s * 8 + k) 0))) ^^^ handB h s 8 = _
    rw [BitVec.xor_assoc acc, xor_cancel]

theorem hands_loop (acc : B64) (h c : List Int) (e : Int) : key_Ofl8 many (un acc) h 0 c h e = some (un (acc ^^^ handsB h), c, h, e) := by
  obtain ⟨f, hf⟩ := many_eq 2 (by omega)
  obtain ⟨g, hg⟩ := many_eq 8 (by omega)
  have step : ∀ (s : Nat) (hs : s < 2) (acc : B64) (f : Nat), key_Ofl8 (f + 1) (un acc) h s c h e = key_Ofl8 f (un (acc ^^^ handB h s 8)) h (s + 1 : Nat) c h e := by
    intro s hs acc f
    show key_Ofl8s (key_Ofl8 f) (un acc) h s c h e = _
    unfold key_Ofl8s
    rw [br_true (by simp; omega), br_true (inB_true (by omega) (by omega)), hg]
    show ob (key_Ofl11 (g + 8 + 1) (un acc) s h s (List.take 8 (List.drop (Int.toNat s * 7 + Int.toNat s) h)) (0 : Nat) c h e) _ = _
    rw [Int.toNat_natCast, hand_loop s 8 0 acc h h s c h e g (by omega)]
    show key_Ofl8 f (un (acc ^^^ 0 ^^^ handB h s 8)) h (IntKind.wrap .i64 ((s : Int) + 1)) c h e = _
    have z : acc ^^^ (0 : B64) = acc := by simp
    rw [wrap_small (by omega) (by omega), z]
    rfl
  rw [hf]
  have e1 := step 0 (by omega) acc (f + 2)
  have e2 := step 1 (by omega) (acc ^^^ handB h 0 8) (f + 1)
  rw [show f + 2 + 1 = f + 2 + 1 from rfl, show (0 : Int) = ((0 : Nat) : Int) from rfl, e1]
  rw [show f + 2 = f + 1 + 1 from rfl, e2]
  show key_Ofl8s (key_Ofl8 f) _ h 2 c h e = _
  unfold key_Ofl8s
  rw [br_false (by decide), BitVec.xor_assoc]
  rfl

/-- The key. -/
def keyB (b h : List Int) (s : Int) : B64 := bif s == 1 then boardB b 81 ^^^ handsB h ^^^ sdB else boardB b 81 ^^^ handsB h

theorem kOf_un (b h : List Int) (s : Int) : key_Of b h s = some (un (keyB b h s)) := by
  obtain ⟨g, hg⟩ := many_eq 81 (by omega)
  have e2 : key_Ofl3 many 0 b 0 b h s = some (un (boardB b 81), b, h, s) := by
    rw [hg]
    have := board_loop 81 0 0 b b h s g (by omega)
    rw [show (0 : B64) ^^^ boardB b 0 ^^^ boardB b 81 = boardB b 81 by show (0 : B64) ^^^ 0 ^^^ _ = _; simp] at this
    exact this
  unfold key_Of
  rw [e2]
  show ob (key_Ofl8 many (un (boardB b 81)) h 0 b h s) _ = _
  rw [hands_loop]
  show br (s == 1) (ob key_Side fun r10 => some (bitop .xor .u64 (un (boardB b 81 ^^^ handsB h)) r10)) (some (un (boardB b 81 ^^^ handsB h))) = _
  unfold keyB
  cases hs : s == 1
  · rfl
  · rw [kSide_un]
    show some (bitop .xor .u64 _ _) = _
    rw [xor_un, bv_un, bv_un]
    rfl

/-! ### one thing changed -/

theorem boardB_set (b : List Int) (i : Nat) (x : Int) (hi : i < b.length) : ∀ n, boardB (b.set i x) n = if i < n then boardB b n ^^^ pcB i (b.getD i 0) ^^^ pcB i x else boardB b n := by
  intro n
  induction n with
  | zero => rfl
  | succ n ih =>
    show boardB (b.set i x) n ^^^ pcB n ((b.set i x).getD n 0) = _
    rw [ih]
    rcases Nat.lt_trichotomy i n with h | h | h
    · rw [if_pos h, if_pos (by omega)]
      have : (b.set i x).getD n 0 = b.getD n 0 := by
        rw [List.getD_eq_getElem?_getD, List.getD_eq_getElem?_getD, List.getElem?_set_ne (by omega)]
      rw [this]
      show boardB b n ^^^ pcB i (b.getD i 0) ^^^ pcB i x ^^^ pcB n (b.getD n 0) = boardB b n ^^^ pcB n (b.getD n 0) ^^^ pcB i (b.getD i 0) ^^^ pcB i x
      ac_rfl
    · subst h
      rw [if_neg (by omega), if_pos (by omega)]
      have : (b.set i x).getD i 0 = x := by
        rw [List.getD_eq_getElem?_getD, List.getElem?_set_self hi]; rfl
      rw [this]
      show boardB b i ^^^ pcB i x = boardB b i ^^^ pcB i (b.getD i 0) ^^^ pcB i (b.getD i 0) ^^^ pcB i x
      rw [BitVec.xor_assoc (boardB b i), BitVec.xor_self, BitVec.xor_zero]
    · rw [if_neg (by omega), if_neg (by omega)]
      have : (b.set i x).getD n 0 = b.getD n 0 := by
        rw [List.getD_eq_getElem?_getD, List.getD_eq_getElem?_getD, List.getElem?_set_ne (by omega)]
      rw [this]
      rfl

theorem un_beq {x y : B64} : (un x == un y) = (x == y) := by
  cases h : x == y with
  | true => have := LawfulBEq.eq_of_beq h; subst this; simp
  | false =>
    have : x ≠ y := by simpa using h
    have : un x ≠ un y := fun e => this (un_inj e)
    simpa using this

theorem handB_set (h : List Int) (s0 k0 : Nat) (x : Int) (hk : k0 < 8) (hi : s0 * 8 + k0 < h.length) (s : Nat) : ∀ n, n ≤ 8 → handB (h.set (s0 * 8 + k0) x) s n =
    if s = s0 ∧ k0 < n then handB h s n ^^^ hnB s0 k0 (conv .i8 .i64 (h.getD (s0 * 8 + k0) 0)) ^^^ hnB s0 k0 (conv .i8 .i64 x) else handB h s n := by
  intro n
  induction n with
  | zero => intro _; rw [if_neg (by omega)]; rfl
  | succ n ih =>
    intro hn
    show handB (h.set (s0 * 8 + k0) x) s n ^^^ hnB s n (conv .i8 .i64 ((h.set (s0 * 8 + k0) x).getD (s * 8 + n) 0)) = _
    rw [ih (by omega)]
    by_cases hq : s * 8 + n = s0 * 8 + k0
    · have e1 : s = s0 := by omega
      have e2 : n = k0 := by omega
      subst e1
      subst e2
      rw [if_neg (by omega), if_pos (by omega)]
      have : (h.set (s * 8 + n) x).getD (s * 8 + n) 0 = x := by
        rw [List.getD_eq_getElem?_getD, List.getElem?_set_self hi]; rfl
      rw [this]
      show handB h s n ^^^ hnB s n (conv .i8 .i64 x) = handB h s n ^^^ hnB s n (conv .i8 .i64 (h.getD (s * 8 + n) 0)) ^^^ hnB s n (conv .i8 .i64 (h.getD (s * 8 + n) 0)) ^^^ hnB s n (conv .i8 .i64 x)
      rw [BitVec.xor_assoc (handB h s n), BitVec.xor_self, BitVec.xor_zero]
    · have : (h.set (s0 * 8 + k0) x).getD (s * 8 + n) 0 = h.getD (s * 8 + n) 0 := by
        rw [List.getD_eq_getElem?_getD, List.getD_eq_getElem?_getD, List.getElem?_set_ne (by omega)]
      rw [this]
      by_cases hc : s = s0 ∧ k0 < n
      · rw [if_pos hc, if_pos (by omega)]
        show _ = handB h s n ^^^ hnB s n (conv .i8 .i64 (h.getD (s * 8 + n) 0)) ^^^ _ ^^^ _
        ac_rfl
      · rw [if_neg hc, if_neg (by omega)]
        rfl

theorem handsB_set (h : List Int) (s0 k0 : Nat) (x : Int) (hs : s0 < 2) (hk : k0 < 8) (hh : h.length = 16) :
    handsB (h.set (s0 * 8 + k0) x) = handsB h ^^^ hnB s0 k0 (conv .i8 .i64 (h.getD (s0 * 8 + k0) 0)) ^^^ hnB s0 k0 (conv .i8 .i64 x) := by
  unfold handsB
  rw [handB_set h s0 k0 x hk (by omega) 0 8 (Nat.le_refl _), handB_set h s0 k0 x hk (by omega) 1 8 (Nat.le_refl _)]
  have : s0 = 0 ∨ s0 = 1 := by omega
  rcases this with rfl | rfl
  · rw [if_pos (by omega), if_neg (by omega)]; ac_rfl
  · rw [if_neg (by omega), if_pos (by omega)]; ac_rfl


/-! ### the key behind a deed -/

theorem kof_un (b h : List Int) (s : Int) : kof b h s = un (keyB b h s) := by unfold kof; rw [kOf_un]; rfl
theorem kp_un (q x : Int) : kp q x = un (pcB q x) := by unfold kp; rw [kPiece_un]; rfl
theorem kh_un (s k n : Int) : kh s k n = un (hnB s k n) := by unfold kh; rw [kHand_un]; rfl
theorem kside_un : kside = un sdB := by unfold kside; rw [kSide_un]; rfl

theorem pcB_none {q x : Int} (h : kd x = 0) : pcB q x = pcB q 0 := by
  have e : ∀ y, kd y = 0 → key_Piece q y = some 0 := by
    intro y hy
    unfold key_Piece
    rw [kind_val, ob_some, hy]
    rfl
  unfold pcB
  rw [e x h, e 0 kd_zero]

theorem keyB_put {b : List Int} (hl : b.length = 81) {q : Int} (hq : 0 ≤ q ∧ q < 81) (x : Int) (h : List Int) (s : Int) : keyB (put b q x) h s = keyB b h s ^^^ pcB q (at_ b q) ^^^ pcB q x := by
  have e : pcB q (if kd x = 0 then 0 else x) = pcB q x := by
    split
    · rename_i h; exact (pcB_none h).symm
    · rfl
  unfold keyB put at_
  rw [if_pos hq, if_pos hq]
  revert e
  generalize (if kd x = 0 then 0 else x) = y
  intro e
  have hset := boardB_set b q.toNat y (by omega) 81
  rw [if_pos (show q.toNat < 81 by omega), show ((q.toNat : Nat) : Int) = q by omega, e] at hset
  rw [hset]
  cases s == 1 <;> simp only [cond_true, cond_false] <;> ac_rfl

theorem keyB_hset {h : List Int} (hh : h.length = 16) {s k : Int} (hs : s = 0 ∨ s = 1) (k0 : 0 ≤ k) (k1 : k < 8) (d : Int) (b : List Int) (S : Int) :
    keyB b (hset h s k d) S = keyB b h S ^^^ hnB s k (hd_ h s k) ^^^ hnB s k (IntKind.wrap .i8 (hd_ h s k + d)) := by
  have e2 : ∀ x, conv .i8 .i64 x = x := fun _ => rfl
  have hset' := handsB_set h s.toNat k.toNat (IntKind.wrap .i8 (hd_ h s k + d)) (by omega) (by omega) hh
  rw [e2, e2, show ((s.toNat : Nat) : Int) = s by omega, show ((k.toNat : Nat) : Int) = k by omega] at hset'
  unfold keyB hset
  rw [hset']
  unfold hd_
  cases S == 1 <;> simp only [cond_true, cond_false] <;> ac_rfl

theorem keyB_turn {s : Int} (hs : s = 0 ∨ s = 1) (b h : List Int) : keyB b h (1 - s) = keyB b h s ^^^ sdB := by
  rcases hs with rfl | rfl
  · rfl
  · show boardB b 81 ^^^ handsB h = boardB b 81 ^^^ handsB h ^^^ sdB ^^^ sdB
    rw [BitVec.xor_assoc _ sdB, BitVec.xor_self, BitVec.xor_zero]

theorem kput_un {b : List Int} (hl : b.length = 81) {q : Int} (hq : 0 ≤ q ∧ q < 81) (x : Int) (h : List Int) (s : Int) : kput (un (keyB b h s)) b q x = un (keyB (put b q x) h s) := by
  unfold kput
  rw [kp_un, kp_un, xor_un, xor_un, bv_un, bv_un, bv_un, bv_un, keyB_put hl hq, BitVec.xor_assoc]
theorem khand_un {h : List Int} (hh : h.length = 16) {s k : Int} (hs : s = 0 ∨ s = 1) (k0 : 0 ≤ k) (k1 : k < 8) {d : Int} (b : List Int) (S : Int) (r0 : -128 ≤ hd_ h s k + d) (r1 : hd_ h s k + d ≤ 127) :
    khand (un (keyB b h S)) h s k d = un (keyB b (hset h s k d) S) := by
  unfold khand
  rw [kh_un, kh_un, xor_un, xor_un, bv_un, bv_un, bv_un, bv_un, keyB_hset hh hs k0 k1, BitVec.xor_assoc, wrap_small (by omega) (by omega), wrap8 r0 r1]
theorem kturn_un {s : Int} (hs : s = 0 ∨ s = 1) (b h : List Int) : kturn (un (keyB b h s)) = un (keyB b h (1 - s)) := by
  unfold kturn
  rw [kside_un, xor_un, bv_un, bv_un, keyB_turn hs]

theorem mkey_val {b h : List Int} {s : Int} (hS : Sound b h s) (hf : Fits8 h) (hh : h.length = 16) {f t d : Int} {p : Bool} (hP : CanP b h s f t d p) :
    mkey (kof b h s) b h s f t d p = kof (mb b s f t d p) (mh b h s t d) (1 - s) := by
  rw [kof_un, kof_un]
  unfold mkey mb mh
  by_cases hd : d = 0
  · obtain ⟨f0, f1, f2, g1, g2, g3, g4⟩ := hP.move hd
    simp only [if_neg (show ¬ (d ≠ 0) from fun h => h hd)]
    rw [kput_un hS.clean.len ⟨f0, f1⟩, kput_un (hS.clean.put f 0).len hP.to_]
    by_cases ht : at_ b t = 0
    · simp only [if_pos ht]
      rw [kturn_un hS.side]
    · have hk := (hS.clean.at_ t).resolve_left ht
      obtain ⟨r1, r2⟩ := rw_range hk g3
      have hc := hS.counts _ r1 r2
      have h0 := hS.hands (rw_ (kd (at_ b t))) (by omega) r2
      have hsd := hS.side
      simp only [if_neg ht]
      rw [khand_un hh hS.side (by omega) r2 _ _ (by rcases hsd with rfl | rfl <;> omega) (by rcases hsd with rfl | rfl <;> omega), kturn_un hS.side]
  · obtain ⟨d0, d1, d2, d3, g1, g2⟩ := hP.drop hd
    have hb := fits_hd hf s d
    simp only [if_pos (show d ≠ 0 from hd)]
    rw [khand_un hh hS.side (by omega) d1 _ _ (by omega) (by omega), kput_un hS.clean.len hP.to_, kturn_un hS.side]

theorem sound_make {b h : List Int} {s : Int} (hS : Sound b h s) (hf : Fits8 h) (hh : h.length = 16) {f t d : Int} {p : Bool} (hP : CanP b h s f t d p) : Sound (mb b s f t d p) (mh b h s t d) (1 - s) := by
  refine ⟨mb_clean hS.clean s f t d p, by have := hS.side; omega, fun k k0 k1 => ?_, fun k k0 k1 => ?_⟩
  · have hsd := hS.side
    have hk0 := hS.hands k k0 k1
    unfold mh
    by_cases hd : d = 0
    · rw [if_neg (by simpa using hd)]
      by_cases ht : at_ b t = 0
      · rw [if_pos ht]; exact hk0
      · obtain ⟨f0, f1, f2, g1, g2, g3, g4⟩ := hP.move hd
        have hk := (hS.clean.at_ t).resolve_left ht
        obtain ⟨r1, r2⟩ := rw_range hk g3
        have hc := hS.counts _ r1 r2
        have h0 := hS.hands (rw_ (kd (at_ b t))) (by omega) r2
        rw [if_neg ht, hd_hset hh hsd (by omega) r2 1 (.inl rfl) k0 k1, hd_hset hh hsd (by omega) r2 1 (.inr rfl) k0 k1]
        rcases hsd with rfl | rfl
        · rw [wrap8 (by omega) (by omega)]
          constructor <;> split <;> omega
        · rw [wrap8 (by omega) (by omega)]
          constructor <;> split <;> omega
    · obtain ⟨d0, d1, d2, d3, g1, g2⟩ := hP.drop hd
      have hb := fits_hd hf s d
      rw [if_pos hd, hd_hset hh hsd (by omega) d1 (-1) (.inl rfl) k0 k1, hd_hset hh hsd (by omega) d1 (-1) (.inr rfl) k0 k1, wrap8 (by omega) (by omega)]
      constructor <;> split <;> omega
  · have := pieces_same hS hf hh hP k0 k1
    have := hS.counts k k0 k1
    omega

end Go.Kk.Pl
