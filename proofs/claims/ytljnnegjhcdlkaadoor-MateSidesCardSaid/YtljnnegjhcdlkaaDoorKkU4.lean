/- What the program's functions come to, told plainly: the texts of this project that this claim leans on, cut down to what is used. -/
import Derived.Test.YtljnnegjhcdlkaaDoorKkU3
import Derived.Test.YtljnnegjhcdlkaaDoorKkU2
namespace Go.Kk.Pl
theorem getD_hand (h : List Int) (s k : Nat) (hk : k < 8) : (List.take 8 (List.drop (s * 7 + s) h)).getD k 0 = h.getD (s * 8 + k) 0 := by
 rw [List.getD_eq_getElem?_getD, List.getD_eq_getElem?_getD, List.getElem?_take, if_pos hk, List.getElem?_drop, show s * 7 + s + k = s * 8 + k by omega]
abbrev B64 := BitVec 64
def bv (n : Int) : B64 := BitVec.ofInt 64 n
def un (x : B64) : Int := (x.toNat : Int)
theorem bv_un (x : B64) : bv (un x) = x := by
 unfold bv un
 rw [BitVec.ofInt_natCast, BitVec.ofNat_toNat]; simp
theorem xor_un (a b : Int) : bitop .xor .u64 a b = un (bv a ^^^ bv b) := by
 show IntKind.wrap .u64 _ = _
 have h : IntKind.wrap .u64 ((BitVec.ofInt 64 a ^^^ BitVec.ofInt 64 b).toNat : Int) = ((BitVec.ofInt 64 a ^^^ BitVec.ofInt 64 b).toNat : Int) :=
  wrap_of_range (by show (0 : Int) ≤ _; omega) (by show _ ≤ (18446744073709551615 : Int); have := (BitVec.ofInt 64 a ^^^ BitVec.ofInt 64 b).isLt; omega)
 exact h
def pcB (q x : Int) : B64 := bv ((key_Piece q x).getD 0)
def hnB (s k n : Int) : B64 := bv ((key_Hand s k n).getD 0)
def sdB : B64 := bv (key_Side.getD 0)
theorem kMix_un (x : Int) : ∃ v : B64, key_mix x = some (un v) := by
 unfold key_mix
 rw [xor_un]
 exact ⟨_, rfl⟩
theorem un_of {m : Option Int} (h : ∃ v : B64, m = some (un v)) : m = some (un (bv (m.getD 0))) := by
 obtain ⟨v, rfl⟩ := h
 simp [bv_un]
theorem br_un {b : Bool} {x y : Option Int} (hx : ∃ v : B64, x = some (un v)) (hy : ∃ v : B64, y = some (un v)) : ∃ v : B64, br b x y = some (un v) := by cases b <;> assumption
theorem ob_un {α : Type} {m : Option α} {k : α → Option Int} (hm : ∃ v, m = some v) (hk : ∀ a, m = some a → ∃ v : B64, k a = some (un v)) : ∃ v : B64, ob m k = some (un v) := by
 obtain ⟨a, rfl⟩ := hm
 exact hk a rfl
theorem kPiece_un (q x : Int) : key_Piece q x = some (un (pcB q x)) := un_of (by
 unfold key_Piece
 refine ob_un (kind_tot _) fun a _ => ?_
 refine br_un ⟨0, rfl⟩ (br_un ⟨0, rfl⟩ (br_un ⟨0, rfl⟩ (ob_un (mix_tot _) fun a ha => ?_)))
 obtain ⟨v, hv⟩ := kMix_un _
 rw [hv] at ha
 cases ha
 exact ⟨v, rfl⟩)
theorem kHand_un (s k n : Int) : key_Hand s k n = some (un (hnB s k n)) := un_of (by
 have tail : ∀ x : Int, ∃ v : B64, (ob (key_mix x) fun r => some r) = some (un v) := fun x => by
  obtain ⟨v, hv⟩ := kMix_un x
  exact ⟨v, by rw [hv]; rfl⟩
 unfold key_Hand
 repeat first | exact ⟨0, rfl⟩ | exact tail _ | apply br_un)
theorem kSide_un : key_Side = some (un sdB) := un_of (by
 unfold key_Side
 obtain ⟨v, hv⟩ := kMix_un 1048576
 exact ⟨v, by rw [hv]; rfl⟩)
def boardB (b : List Int) : Nat → B64
 | 0 => 0
 | n + 1 => boardB b n ^^^ pcB n (b.getD n 0)
def handB (h : List Int) (s : Nat) : Nat → B64
 | 0 => 0
 | n + 1 => handB h s n ^^^ hnB s n (conv .i8 .i64 (h.getD (s * 8 + n) 0))
def handsB (h : List Int) : B64 := handB h 0 8 ^^^ handB h 1 8
theorem xor_cancel (a b : B64) : a ^^^ (b ^^^ a) = b := by rw [BitVec.xor_comm b a, ← BitVec.xor_assoc, BitVec.xor_self, BitVec.zero_xor]
theorem board_loop : ∀ (n : Nat) (q : Nat) (acc : B64) (b c d : List Int) (e : Int) (f : Nat), q + n = 81 →
  key_Ofl3 (f + n + 1) (un acc) b q c d e = some (un (acc ^^^ boardB b q ^^^ boardB b 81), c, d, e) := by
 intro n
 induction n with
 | zero =>
   intro q acc b c d e f hq
   have : q = 81 := by omega
   subst this
   show key_Ofl3s (key_Ofl3 (f + 0)) (un acc) b _ c d e = _
   unfold key_Ofl3s
   rw [br_false (by decide), BitVec.xor_assoc, BitVec.xor_self, BitVec.xor_zero]
 | succ n ih =>
   intro q acc b c d e f hq
   show key_Ofl3s (key_Ofl3 (f + n + 1)) (un acc) b q c d e = _
   unfold key_Ofl3s
   rw [br_true (by simp; omega), br_true (inB_true (by omega) (by omega))]
   simp only [cond_true, Int.toNat_natCast]
   rw [kPiece_un]
   show key_Ofl3 (f + n + 1) (bitop .xor .u64 (un acc) (un (pcB q (b.getD q 0)))) b (IntKind.wrap .i64 ((q : Int) + 1)) c d e = _
   rw [wrap_small (by omega) (by omega), xor_un, bv_un, bv_un]
   have := ih (q + 1) (acc ^^^ pcB q (b.getD q 0)) b c d e f (by omega)
   rw [Int.natCast_add] at this
   rw [show ((q : Int) + 1) = (q : Int) + (1 : Nat) from rfl, this]
   congr 3
   show acc ^^^ pcB q (b.getD q 0) ^^^ (boardB b q ^^^ pcB q (b.getD q 0)) ^^^ boardB b 81 = _
   rw [BitVec.xor_assoc acc, xor_cancel]
theorem hand_loop (s : Nat) : ∀ (n : Nat) (k : Nat) (acc : B64) (h x2 : List Int) (x3 : Int) (x6 x7 : List Int) (x8 : Int) (f : Nat), k + n = 8 →
  key_Ofl11 (f + n + 1) (un acc) s x2 x3 (List.take 8 (List.drop (s * 7 + s) h)) k x6 x7 x8 = some (un (acc ^^^ handB h s k ^^^ handB h s 8), x2, x3, x6, x7, x8) := by
 intro n
 induction n with
 | zero =>
   intro k acc h x2 x3 x6 x7 x8 f hk
   have : k = 8 := by omega
   subst this
   show key_Ofl11s (key_Ofl11 (f + 0)) (un acc) s x2 x3 _ _ x6 x7 x8 = _
   unfold key_Ofl11s
   rw [br_false (by decide), BitVec.xor_assoc, BitVec.xor_self, BitVec.xor_zero]
 | succ n ih =>
   intro k acc h x2 x3 x6 x7 x8 f hk
   show key_Ofl11s (key_Ofl11 (f + n + 1)) (un acc) s x2 x3 _ k x6 x7 x8 = _
   unfold key_Ofl11s
   rw [br_true (by simp; omega), br_true (inB_true (by omega) (by omega))]
   simp only [cond_true, Int.toNat_natCast]
   rw [getD_hand h s k (by omega), kHand_un]
   show key_Ofl11 (f + n + 1) (bitop .xor .u64 (un acc) (un (hnB s k (conv .i8 .i64 (h.getD (s * 8 + k) 0))))) s x2 x3 _ (IntKind.wrap .i64 ((k : Int) + 1)) x6 x7 x8 = _
   rw [wrap_small (by omega) (by omega), xor_un, bv_un, bv_un]
   have := ih (k + 1) (acc ^^^ hnB s k (conv .i8 .i64 (h.getD (s * 8 + k) 0))) h x2 x3 x6 x7 x8 f (by omega)
   rw [Int.natCast_add] at this
   rw [show ((k : Int) + 1) = (k : Int) + (1 : Nat) from rfl, this]
   congr 3
   show acc ^^^ hnB s k (conv .i8 .i64 (h.getD (s * 8 + k) 0)) ^^^ (handB h s k ^^^ hnB s k (conv .i8 .i64 (h.getD (s * 8 + k) 0))) ^^^ handB h s 8 = _
   rw [BitVec.xor_assoc acc, xor_cancel]
theorem hands_loop (acc : B64) (h c : List Int) (e : Int) : key_Ofl8 many (un acc) h 0 c h e = some (un (acc ^^^ handsB h), c, h, e) := by
 obtain ⟨f, hf⟩ := many_eq 2 (by omega)
 obtain ⟨g, hg⟩ := many_eq 8 (by omega)
 have step : ∀ (s : Nat) (hs : s < 2) (acc : B64) (f : Nat), key_Ofl8 (f + 1) (un acc) h s c h e = key_Ofl8 f (un (acc ^^^ handB h s 8)) h (s + 1 : Nat) c h e := by
  intro s hs acc f
  show key_Ofl8s (key_Ofl8 f) (un acc) h s c h e = _
  unfold key_Ofl8s
  rw [br_true (by simp; omega), br_true (inB_true (by omega) (by omega)), hg]
  show ob (key_Ofl11 (g + 8 + 1) (un acc) s h s (List.take 8 (List.drop (Int.toNat s * 7 + Int.toNat s) h)) (0 : Nat) c h e) _ = _
  rw [Int.toNat_natCast, hand_loop s 8 0 acc h h s c h e g (by omega)]
  show key_Ofl8 f (un (acc ^^^ 0 ^^^ handB h s 8)) h (IntKind.wrap .i64 ((s : Int) + 1)) c h e = _
  have z : acc ^^^ (0 : B64) = acc := by simp
  rw [wrap_small (by omega) (by omega), z]
  rfl
 rw [hf]
 have e1 := step 0 (by omega) acc (f + 2)
 have e2 := step 1 (by omega) (acc ^^^ handB h 0 8) (f + 1)
 rw [show f + 2 + 1 = f + 2 + 1 from rfl, show (0 : Int) = ((0 : Nat) : Int) from rfl, e1]
 rw [show f + 2 = f + 1 + 1 from rfl, e2]
 show key_Ofl8s (key_Ofl8 f) _ h 2 c h e = _
 unfold key_Ofl8s
 rw [br_false (by decide), BitVec.xor_assoc]
 rfl
def keyB (b h : List Int) (s : Int) : B64 := bif s == 1 then boardB b 81 ^^^ handsB h ^^^ sdB else boardB b 81 ^^^ handsB h
theorem kOf_un (b h : List Int) (s : Int) : key_Of b h s = some (un (keyB b h s)) := by
 obtain ⟨g, hg⟩ := many_eq 81 (by omega)
 have e2 : key_Ofl3 many 0 b 0 b h s = some (un (boardB b 81), b, h, s) := by
  rw [hg]
  have := board_loop 81 0 0 b b h s g (by omega)
  rw [show (0 : B64) ^^^ boardB b 0 ^^^ boardB b 81 = boardB b 81 by show (0 : B64) ^^^ 0 ^^^ _ = _; simp] at this
  exact this
 unfold key_Of
 rw [e2]
 show ob (key_Ofl8 many (un (boardB b 81)) h 0 b h s) _ = _
 rw [hands_loop]
 show br (s == 1) (ob key_Side fun r10 => some (bitop .xor .u64 (un (boardB b 81 ^^^ handsB h)) r10)) (some (un (boardB b 81 ^^^ handsB h))) = _
 unfold keyB
 cases hs : s == 1
 ·rfl
 ·rw [kSide_un]
  show some (bitop .xor .u64 _ _) = _
  rw [xor_un, bv_un, bv_un]
  rfl
theorem boardB_set (b : List Int) (i : Nat) (x : Int) (hi : i < b.length) : ∀ n, boardB (b.set i x) n = if i < n then boardB b n ^^^ pcB i (b.getD i 0) ^^^ pcB i x else boardB b n := by
 intro n
 induction n with
 | zero => rfl
 | succ n ih =>
   show boardB (b.set i x) n ^^^ pcB n ((b.set i x).getD n 0) = _
   rw [ih]
   rcases Nat.lt_trichotomy i n with h | h | h
   ·rw [if_pos h, if_pos (by omega)]
    have : (b.set i x).getD n 0 = b.getD n 0 := by
     rw [List.getD_eq_getElem?_getD, List.getD_eq_getElem?_getD, List.getElem?_set_ne (by omega)]
    rw [this]
    show boardB b n ^^^ pcB i (b.getD i 0) ^^^ pcB i x ^^^ pcB n (b.getD n 0) = boardB b n ^^^ pcB n (b.getD n 0) ^^^ pcB i (b.getD i 0) ^^^ pcB i x
    ac_rfl
   ·subst h
    rw [if_neg (by omega), if_pos (by omega)]
    have : (b.set i x).getD i 0 = x := by
     rw [List.getD_eq_getElem?_getD, List.getElem?_set_self hi]; rfl
    rw [this]
    show boardB b i ^^^ pcB i x = boardB b i ^^^ pcB i (b.getD i 0) ^^^ pcB i (b.getD i 0) ^^^ pcB i x
    rw [BitVec.xor_assoc (boardB b i), BitVec.xor_self, BitVec.xor_zero]
   ·rw [if_neg (by omega), if_neg (by omega)]
    have : (b.set i x).getD n 0 = b.getD n 0 := by
     rw [List.getD_eq_getElem?_getD, List.getD_eq_getElem?_getD, List.getElem?_set_ne (by omega)]
    rw [this]
    rfl
theorem handB_set (h : List Int) (s0 k0 : Nat) (x : Int) (hk : k0 < 8) (hi : s0 * 8 + k0 < h.length) (s : Nat) : ∀ n, n ≤ 8 → handB (h.set (s0 * 8 + k0) x) s n =
  if s = s0 ∧ k0 < n then handB h s n ^^^ hnB s0 k0 (conv .i8 .i64 (h.getD (s0 * 8 + k0) 0)) ^^^ hnB s0 k0 (conv .i8 .i64 x) else handB h s n := by
 intro n
 induction n with
 | zero => intro _; rw [if_neg (by omega)]; rfl
 | succ n ih =>
   intro hn
   show handB (h.set (s0 * 8 + k0) x) s n ^^^ hnB s n (conv .i8 .i64 ((h.set (s0 * 8 + k0) x).getD (s * 8 + n) 0)) = _
   rw [ih (by omega)]
   by_cases hq : s * 8 + n = s0 * 8 + k0
   ·have e1 : s = s0 := by omega
    have e2 : n = k0 := by omega
    subst e1
    subst e2
    rw [if_neg (by omega), if_pos (by omega)]
    have : (h.set (s * 8 + n) x).getD (s * 8 + n) 0 = x := by
     rw [List.getD_eq_getElem?_getD, List.getElem?_set_self hi]; rfl
    rw [this]
    show handB h s n ^^^ hnB s n (conv .i8 .i64 x) = handB h s n ^^^ hnB s n (conv .i8 .i64 (h.getD (s * 8 + n) 0)) ^^^ hnB s n (conv .i8 .i64 (h.getD (s * 8 + n) 0)) ^^^ hnB s n (conv .i8 .i64 x)
    rw [BitVec.xor_assoc (handB h s n), BitVec.xor_self, BitVec.xor_zero]
   ·have : (h.set (s0 * 8 + k0) x).getD (s * 8 + n) 0 = h.getD (s * 8 + n) 0 := by
     rw [List.getD_eq_getElem?_getD, List.getD_eq_getElem?_getD, List.getElem?_set_ne (by omega)]
    rw [this]
    by_cases hc : s = s0 ∧ k0 < n
    ·rw [if_pos hc, if_pos (by omega)]
     show _ = handB h s n ^^^ hnB s n (conv .i8 .i64 (h.getD (s * 8 + n) 0)) ^^^ _ ^^^ _
     ac_rfl
    ·rw [if_neg hc, if_neg (by omega)]
     rfl
theorem handsB_set (h : List Int) (s0 k0 : Nat) (x : Int) (hs : s0 < 2) (hk : k0 < 8) (hh : h.length = 16) :
  handsB (h.set (s0 * 8 + k0) x) = handsB h ^^^ hnB s0 k0 (conv .i8 .i64 (h.getD (s0 * 8 + k0) 0)) ^^^ hnB s0 k0 (conv .i8 .i64 x) := by
 unfold handsB
 rw [handB_set h s0 k0 x hk (by omega) 0 8 (Nat.le_refl _), handB_set h s0 k0 x hk (by omega) 1 8 (Nat.le_refl _)]
 have : s0 = 0 ∨ s0 = 1 := by omega
 rcases this with rfl | rfl
 ·rw [if_pos (by omega), if_neg (by omega)]; ac_rfl
 ·rw [if_neg (by omega), if_pos (by omega)]; ac_rfl
theorem kof_un (b h : List Int) (s : Int) : kof b h s = un (keyB b h s) := by unfold kof; rw [kOf_un]; rfl
theorem kp_un (q x : Int) : kp q x = un (pcB q x) := by unfold kp; rw [kPiece_un]; rfl
theorem kh_un (s k n : Int) : kh s k n = un (hnB s k n) := by unfold kh; rw [kHand_un]; rfl
theorem kside_un : kside = un sdB := by unfold kside; rw [kSide_un]; rfl
theorem pcB_none {q x : Int} (h : kd x = 0) : pcB q x = pcB q 0 := by
 have e : ∀ y, kd y = 0 → key_Piece q y = some 0 := by
  intro y hy
  unfold key_Piece
  rw [kind_val, ob_some, hy]
  rfl
 unfold pcB
 rw [e x h, e 0 kd_zero]
theorem keyB_put {b : List Int} (hl : b.length = 81) {q : Int} (hq : 0 ≤ q ∧ q < 81) (x : Int) (h : List Int) (s : Int) : keyB (put b q x) h s = keyB b h s ^^^ pcB q (at_ b q) ^^^ pcB q x := by
 have e : pcB q (if kd x = 0 then 0 else x) = pcB q x := by
  split
  ·rename_i h; exact (pcB_none h).symm
  ·rfl
 unfold keyB put at_
 rw [if_pos hq, if_pos hq]
 revert e
 generalize (if kd x = 0 then 0 else x) = y
 intro e
 have hset := boardB_set b q.toNat y (by omega) 81
 rw [if_pos (show q.toNat < 81 by omega), show ((q.toNat : Nat) : Int) = q by omega, e] at hset
 rw [hset]
 cases s == 1 <;> simp only [cond_true, cond_false] <;> ac_rfl
theorem keyB_hset {h : List Int} (hh : h.length = 16) {s k : Int} (hs : s = 0 ∨ s = 1) (k0 : 0 ≤ k) (k1 : k < 8) (d : Int) (b : List Int) (S : Int) :
  keyB b (hset h s k d) S = keyB b h S ^^^ hnB s k (hd_ h s k) ^^^ hnB s k (IntKind.wrap .i8 (hd_ h s k + d)) := by
 have e2 : ∀ x, conv .i8 .i64 x = x := fun _ => rfl
 have hset' := handsB_set h s.toNat k.toNat (IntKind.wrap .i8 (hd_ h s k + d)) (by omega) (by omega) hh
 rw [e2, e2, show ((s.toNat : Nat) : Int) = s by omega, show ((k.toNat : Nat) : Int) = k by omega] at hset'
 unfold keyB hset
 rw [hset']
 unfold hd_
 cases S == 1 <;> simp only [cond_true, cond_false] <;> ac_rfl
theorem keyB_turn {s : Int} (hs : s = 0 ∨ s = 1) (b h : List Int) : keyB b h (1 - s) = keyB b h s ^^^ sdB := by
 rcases hs with rfl | rfl
 ·rfl
 ·show boardB b 81 ^^^ handsB h = boardB b 81 ^^^ handsB h ^^^ sdB ^^^ sdB
  rw [BitVec.xor_assoc _ sdB, BitVec.xor_self, BitVec.xor_zero]
theorem kput_un {b : List Int} (hl : b.length = 81) {q : Int} (hq : 0 ≤ q ∧ q < 81) (x : Int) (h : List Int) (s : Int) : kput (un (keyB b h s)) b q x = un (keyB (put b q x) h s) := by
 unfold kput
 rw [kp_un, kp_un, xor_un, xor_un, bv_un, bv_un, bv_un, bv_un, keyB_put hl hq, BitVec.xor_assoc]
theorem khand_un {h : List Int} (hh : h.length = 16) {s k : Int} (hs : s = 0 ∨ s = 1) (k0 : 0 ≤ k) (k1 : k < 8) {d : Int} (b : List Int) (S : Int) (r0 : -128 ≤ hd_ h s k + d) (r1 : hd_ h s k + d ≤ 127) :
  khand (un (keyB b h S)) h s k d = un (keyB b (hset h s k d) S) := by
 unfold khand
 rw [kh_un, kh_un, xor_un, xor_un, bv_un, bv_un, bv_un, bv_un, keyB_hset hh hs k0 k1, BitVec.xor_assoc, wrap_small (by omega) (by omega), wrap8 r0 r1]
theorem kturn_un {s : Int} (hs : s = 0 ∨ s = 1) (b h : List Int) : kturn (un (keyB b h s)) = un (keyB b h (1 - s)) := by
 unfold kturn
 rw [kside_un, xor_un, bv_un, bv_un, keyB_turn hs]
theorem mkey_val {b h : List Int} {s : Int} (hS : Sound b h s) (hf : Fits8 h) (hh : h.length = 16) {f t d : Int} {p : Bool} (hP : CanP b h s f t d p) :
  mkey (kof b h s) b h s f t d p = kof (mb b s f t d p) (mh b h s t d) (1 - s) := by
 rw [kof_un, kof_un]
 unfold mkey mb mh
 by_cases hd : d = 0
 ·obtain ⟨f0, f1, f2, g1, g2, g3, g4⟩ := hP.move hd
  simp only [if_neg (show ¬ (d ≠ 0) from fun h => h hd)]
  rw [kput_un hS.clean.len ⟨f0, f1⟩, kput_un (hS.clean.put f 0).len hP.to_]
  by_cases ht : at_ b t = 0
  ·simp only [if_pos ht]
   rw [kturn_un hS.side]
  ·have hk := (hS.clean.at_ t).resolve_left ht
   obtain ⟨r1, r2⟩ := rw_range hk g3
   have hc := hS.counts _ r1 r2
   have h0 := hS.hands (rw_ (kd (at_ b t))) (by omega) r2
   have hsd := hS.side
   simp only [if_neg ht]
   rw [khand_un hh hS.side (by omega) r2 _ _ (by rcases hsd with rfl | rfl <;> omega) (by rcases hsd with rfl | rfl <;> omega), kturn_un hS.side]
 ·obtain ⟨d0, d1, d2, d3, g1, g2⟩ := hP.drop hd
  have hb := fits_hd hf s d
  simp only [if_pos (show d ≠ 0 from hd)]
  rw [khand_un hh hS.side (by omega) d1 _ _ (by omega) (by omega), kput_un hS.clean.len hP.to_, kturn_un hS.side]
end Go.Kk.Pl
namespace Go.Kk.Pl
structure Going (b h : List Int) (s : Int) : Prop where
 sound : Sound b h s
 fits : Fits8 h
 len : h.length = 16
end Go.Kk.Pl
namespace Go.Kk.Pl
theorem board_ext {b c : List Int} (hb : b.length = 81) (hc : c.length = 81) (h : ∀ q, 0 ≤ q → q < 81 → at_ b q = at_ c q) : b = c := by
 refine List.ext_getElem (by rw [hb, hc]) fun j h1 h2 => ?_
 have := h j (by omega) (by omega)
 unfold at_ at this
 rw [if_pos (by omega), if_pos (by omega), Int.toNat_natCast, List.getD_eq_getElem?_getD, List.getD_eq_getElem?_getD, List.getElem?_eq_getElem h1, List.getElem?_eq_getElem h2] at this
 exact this
theorem clean_or {b : List Int} (hc : Clean b) (q : Int) : (if kd (at_ b q) = 0 then 0 else at_ b q) = at_ b q := by
 rcases hc.at_ q with h | h
 ·rw [h]; rfl
 ·rw [if_neg h]
theorem back_drop {b : List Int} (hc : Clean b) {t : Int} (ht : 0 ≤ t ∧ t < 81) (h0 : at_ b t = 0) (x : Int) : put (put b t x) t 0 = b := by
 refine board_ext ((hc.put _ _).put _ _).len hc.len fun q q0 q1 => ?_
 rw [at_put (hc.put _ _).len ht, at_put hc.len ht]
 split
 ·rename_i e; subst e; rw [h0]; rfl
 ·rfl
theorem back_move {b : List Int} (hc : Clean b) {f t : Int} (hf : 0 ≤ f ∧ f < 81) (ht : 0 ≤ t ∧ t < 81) (x : Int) : put (put (put (put b f 0) t x) t (at_ b t)) f (at_ b f) = b := by
 have c1 := hc.put f 0
 have c2 := c1.put t x
 have c3 := c2.put t (at_ b t)
 refine board_ext (c3.put _ _).len hc.len fun q q0 q1 => ?_
 rw [at_put c3.len hf, at_put c2.len ht, at_put c1.len ht, at_put hc.len hf, clean_or hc, clean_or hc]
 split
 ·rename_i e; subst e; rfl
 ·split
  ·rename_i e; subst e; rfl
  ·rfl
theorem hset_back {h : List Int} (hl : h.length = 16) {s k : Int} (hs : s = 0 ∨ s = 1) (k0 : 0 ≤ k) (k1 : k < 8) {d : Int} (r0 : -128 ≤ hd_ h s k ∧ hd_ h s k ≤ 127) (r1 : -128 ≤ hd_ h s k + d ∧ hd_ h s k + d ≤ 127) :
  hset (hset h s k d) s k (-d) = h := by
 have e := hd_hset hl hs k0 k1 d hs k0 k1
 rw [if_pos ⟨rfl, rfl⟩, wrap8 r1.1 r1.2] at e
 rw [show hset (hset h s k d) s k (-d) = (hset h s k d).set (s.toNat * 8 + k.toNat) (IntKind.wrap .i8 (hd_ (hset h s k d) s k + -d)) from rfl, e, show hd_ h s k + d + -d = hd_ h s k by omega, wrap8 r0.1 r0.2]
 have hi : s.toNat * 8 + k.toNat < h.length := by rcases hs with rfl | rfl <;> simp <;> omega
 have hg : hd_ h s k = h[s.toNat * 8 + k.toNat] := by
  unfold hd_
  rw [List.getD_eq_getElem?_getD, List.getElem?_eq_getElem hi]
  rfl
 unfold hset
 rw [List.set_set, hg, List.set_getElem_self]
end Go.Kk.Pl
namespace Go.Kk.Pl
theorem gput_full {b : List Int} (hc : Clean b) (q x K : Int) (n : Nat) (h : List Int) (s : Int) (m : Nat) (st : List (List Int)) :
  deed_Game_put q x K n b h s (byOf b) (sidesOf b) m st = some (kput K b q x, n, put b q x, h, s, byOf (put b q x), sidesOf (put b q x), m, st) := by
 unfold deed_Game_put
 simp only [at_val, ob_some, kp_val, put_full hc]
 rfl
theorem gnew_full {b : List Int} (hc : Clean b) (h : List Int) (s : Int) : deed_New b h s = some (kof b h s, 0, b, h, s, byOf b, sidesOf b, 0, []) := by
 unfold deed_New
 rw [new_full hc.len, cl_id hc, ob_some]
 simp only
 rw [kof_val, ob_some]
theorem make_full {b : List Int} (hc : Clean b) (h : List Int) {s : Int} (hs : s = 0 ∨ s = 1) (f t d : Int) (p : Bool) : ∃ c, (∀ K n m st, deed_Game_Can f t d p K n b h s (byOf b) (sidesOf b) m st = some c) ∧
  ((c = false ∧ ∀ K n m st, deed_Game_Make f t d p K n b h s (byOf b) (sidesOf b) m st = some (.inl (false, K, n, b, h, s, byOf b, sidesOf b, m, st))) ∨
   (c = true ∧ CanP b h s f t d p ∧ ∀ K n m st, (n + 1) * 40 ≤ 140737488355328 → deed_Game_Make f t d p K n b h s (byOf b) (sidesOf b) m st =
    some (.inr (true, mkey K b h s f t d p, n + 1, mb b s f t d p, mh b h s t d, 1 - s, byOf (mb b s f t d p), sidesOf (mb b s f t d p), n + 1, List.append (List.take n st) [[f, t, d, bi p, at_ b t, was b s f d]])))) := by
 obtain ⟨c, hcan, hP⟩ := can_val b h hs f t d p
 refine ⟨c, fun K n m st => hcan K n _ _ m st, ?_⟩
 cases c with
 | false =>
   refine .inl ⟨rfl, fun K n m st => ?_⟩
   unfold deed_Game_Make
   rw [hcan, ob_some, br_true (by rfl)]
 | true =>
   have hP := hP rfl
   refine .inr ⟨rfl, hP, fun K n m st hn => ?_⟩
   have hn' : decide ((n + 1) * 40 ≤ 140737488355328) = true := by simpa using hn
   unfold deed_Game_Make
   rw [hcan, ob_some, br_false (by rfl), at_val, ob_some]
   by_cases hd : d = 0
   ·obtain ⟨f0, f1, f2, g1, g2, g3, g4⟩ := hP.move hd
    rw [br_false (by simpa using hd), at_val, ob_some]
    have hx : ∀ {α : Type} (k : Int → Option α), (br p (ob (piece_Kind (at_ b f)) fun a16 => ob (piece_Up a16) fun a17 => ob (piece_Of s a17) k) (k (at_ b f))) = k (laid b s f d p) := by
     intro α k
     unfold laid
     rw [if_neg (by simpa using hd)]
     cases p with
     | false => rfl
     | true =>
       obtain ⟨u1, u2, u3⟩ := up_range (g4 rfl)
       rw [br_true rfl, kind_val, ob_some, up_val, ob_some, of_val hs u1 u2 u3, ob_some, if_pos rfl]
    have p1 := gput_full hc f 0 K n h s m st
    have p2 := gput_full (hc.put f 0) t (laid b s f d p) (kput K b f 0) n h s m st
    have tail : (br (at_ b t != 0)
      (ob (piece_Kind (at_ b t)) fun a37 =>
      ob (piece_Raw a37) fun a38 =>
      ob (deed_Game_hand s a38 1 (kput (kput K b f 0) (put b f 0) t (laid b s f d p)) n (put (put b f 0) t (laid b s f d p)) h s (byOf (put (put b f 0) t (laid b s f d p))) (sidesOf (put (put b f 0) t (laid b s f d p))) m st) fun (a39_0, a39_1, a39_2, a39_3, a39_4, a39_5, a39_6, a39_7, a39_8) =>
      ob (deed_Game_turn a39_0 a39_1 a39_2 a39_3 a39_4 a39_5 a39_6 a39_7 a39_8) fun (a48_0, a48_1, a48_2, a48_3, a48_4, a48_5, a48_6, _, a48_8) =>
      br (decide ((a48_1 + 1) * 40 ≤ 140737488355328))
       (some (Sum.inr (true, a48_0, a48_1 + 1, a48_2, a48_3, a48_4, a48_5, a48_6, a48_1 + 1, List.append (List.take a48_1 a48_8) [[f, t, d, bi p, at_ b t, at_ b f]])))
       (none))
      (ob (deed_Game_turn (kput (kput K b f 0) (put b f 0) t (laid b s f d p)) n (put (put b f 0) t (laid b s f d p)) h s (byOf (put (put b f 0) t (laid b s f d p))) (sidesOf (put (put b f 0) t (laid b s f d p))) m st) fun (a37_0, a37_1, a37_2, a37_3, a37_4, a37_5, a37_6, _, a37_8) =>
      br (decide ((a37_1 + 1) * 40 ≤ 140737488355328))
       (some (Sum.inr (true, a37_0, a37_1 + 1, a37_2, a37_3, a37_4, a37_5, a37_6, a37_1 + 1, List.append (List.take a37_1 a37_8) [[f, t, d, bi p, at_ b t, at_ b f]])))
       (none)) : Option ((Bool × Int × Nat × List Int × List Int × Int × List (List Int) × List (List Int) × Nat × List (List Int)) ⊕ (Bool × Int × Nat × List Int × List Int × Int × List (List Int) × List (List Int) × Nat × List (List Int)))) =
      some (.inr (true, mkey K b h s f t d p, n + 1, mb b s f t d p, mh b h s t d, 1 - s, byOf (mb b s f t d p), sidesOf (mb b s f t d p), n + 1, List.append (List.take n st) [[f, t, d, bi p, at_ b t, was b s f d]])) := by
     unfold mkey mb mh was
     by_cases ht : at_ b t = 0
     ·rw [br_false (by simpa using ht), gturn_val hs, ob_some]
      simp only
      rw [br_true hn']
      simp [hd, ht]
     ·have hk := (hc.at_ t).resolve_left ht
      obtain ⟨r1, r2⟩ := rw_range hk g3
      obtain ⟨k1, k2, k3⟩ := kd_bounds (at_ b t)
      rw [br_true (by simpa using ht), kind_val, ob_some, raw_val k1 k2, ob_some, ghand_val hs r1 r2 1 (.inl rfl), ob_some]
      simp only
      rw [gturn_val hs, ob_some]
      simp only
      rw [br_true hn']
      simp [hd, ht]
    refine Eq.trans ?_ tail
    cases p with
    | true =>
      have hx := hx (fun a18 => ob (deed_Game_put f 0 K n b h s (byOf b) (sidesOf b) m st) fun (a19_0, a19_1, a19_2, a19_3, a19_4, a19_5, a19_6, a19_7, a19_8) =>
       ob (deed_Game_put t a18 a19_0 a19_1 a19_2 a19_3 a19_4 a19_5 a19_6 a19_7 a19_8) fun r => some r)
      rw [br_true rfl] at hx ⊢
      obtain ⟨u1, u2, u3⟩ := up_range (g4 rfl)
      have hl : laid b s f d true = 16 * s + up_ (kd (at_ b f)) := by unfold laid; rw [if_neg (by simpa using hd), if_pos rfl]
      rw [kind_val, ob_some, up_val, ob_some, of_val hs u1 u2 u3, ob_some, p1, ob_some]
      simp only
      rw [← hl, p2, ob_some]
    | false =>
      have hl : laid b s f d false = at_ b f := by unfold laid; rw [if_neg (by simpa using hd), if_neg (by simp)]
      rw [br_false rfl, p1, ob_some]
      simp only
      rw [hl] at p2 ⊢
      rw [p2, ob_some]
   ·obtain ⟨d0, d1, d2, d3, g1, g2⟩ := hP.drop hd
    have hl : laid b s f d p = 16 * s + d := by unfold laid; rw [if_pos hd]
    have e1 : piece_Of s d = some (laid b s f d p) := by rw [hl]; exact of_val hs (by omega) (by omega) (by omega)
    have p1 := gput_full hc t (laid b s f d p) (khand K h s d (-1)) n (hset h s d (-1)) s m st
    rw [br_true (by simpa using hd), e1, ob_some, ghand_val hs (by omega) d1 (-1) (.inr rfl), ob_some]
    simp only
    rw [p1, ob_some]
    simp only
    rw [gturn_val hs, ob_some]
    simp only
    rw [br_true hn']
    unfold mkey mb mh was
    simp only [if_pos hd, hl]
theorem key_back {h : List Int} (hl : h.length = 16) {s k : Int} (hs : s = 0 ∨ s = 1) (k0 : 0 ≤ k) (k1 : k < 8) {d : Int} (b : List Int) (S : Int) (r0 : -128 ≤ hd_ h s k ∧ hd_ h s k ≤ 127) (r1 : -128 ≤ hd_ h s k + d ∧ hd_ h s k + d ≤ 127) :
  khand (un (keyB b (hset h s k d) S)) (hset h s k d) s k (-d) = un (keyB b h S) := by
 have e := hd_hset hl hs k0 k1 d hs k0 k1
 rw [if_pos ⟨rfl, rfl⟩, wrap8 r1.1 r1.2] at e
 rw [khand_un (by rw [hset_len, hl]) hs k0 k1 b S (by omega) (by omega), hset_back hl hs k0 k1 r0 r1]
theorem back_full {b h : List Int} {s : Int} (hg : Going b h s) {f t d : Int} {p : Bool} (hP : CanP b h s f t d p) (n : Nat) (hn : n ≤ 1000) (m : Nat) (st : List (List Int))
  (hst : st.getD n [] = [f, t, d, bi p, at_ b t, was b s f d]) :
  deed_Game_Back (un (keyB (mb b s f t d p) (mh b h s t d) (1 - s))) (n + 1) (mb b s f t d p) (mh b h s t d) (1 - s) (byOf (mb b s f t d p)) (sidesOf (mb b s f t d p)) m st = some (true, un (keyB b h s), n, b, h, s, byOf b, sidesOf b, m, st) := by
 have hS := hg.sound
 have hs' : 1 - s = 0 ∨ 1 - s = 1 := by have := hS.side; omega
 unfold deed_Game_Back
 have e1 : IntKind.wrap .i64 (Int.ofNat (n + 1) - 1) = (n : Int) := by
  have : Int.ofNat (n + 1) = (n : Int) + 1 := rfl
  rw [this, wrap_small (by omega) (by omega)]
  omega
 rw [br_false (by simp; omega), e1, br_true (inB_true (by omega) (by omega)), br_true (inLe_true (by omega) (by omega)), gturn_val hs', ob_some, kturn_un hs', show (1 : Int) - (1 - s) = s by omega]
 simp only [Int.toNat_natCast, hst, Nat.sub_zero]
 simp only [List.take_succ_cons, List.take_zero, List.headD_cons, List.tail_cons]
 by_cases hd : d = 0
 ·obtain ⟨f0, f1, f2, g1, g2, g3, g4⟩ := hP.move hd
  have hw : was b s f d = at_ b f := by unfold was; rw [if_neg (by simpa using hd)]
  have hmb : mb b s f t d p = put (put b f 0) t (laid b s f d p) := by unfold mb; rw [if_neg (by simpa using hd)]
  rw [br_false (by simpa using hd), hw, hmb]
  have p1 := gput_full ((hS.clean.put f 0).put t (laid b s f d p)) t (at_ b t) (un (keyB (put (put b f 0) t (laid b s f d p)) (mh b h s t d) s)) n (mh b h s t d) s m st
  rw [kput_un ((hS.clean.put f 0).put t (laid b s f d p)).len hP.to_] at p1
  have p2 := gput_full (((hS.clean.put f 0).put t (laid b s f d p)).put t (at_ b t)) f (at_ b f) (un (keyB (put (put (put b f 0) t (laid b s f d p)) t (at_ b t)) (mh b h s t d) s)) n (mh b h s t d) s m st
  rw [kput_un (((hS.clean.put f 0).put t (laid b s f d p)).put t (at_ b t)).len ⟨f0, f1⟩] at p2
  rw [back_move hS.clean ⟨f0, f1⟩ hP.to_] at p2
  rw [p1, ob_some]
  simp only
  rw [p2, ob_some]
  simp only
  by_cases ht : at_ b t = 0
  ·have hmh : mh b h s t d = h := by unfold mh; rw [if_neg (by simpa using hd), if_pos ht]
   rw [br_false (by simpa using ht), hmh]
  ·have hk := (hS.clean.at_ t).resolve_left ht
   obtain ⟨r1, r2⟩ := rw_range hk g3
   obtain ⟨k1, k2, k3⟩ := kd_bounds (at_ b t)
   have hc := hS.counts _ r1 r2
   have h0 := hS.hands (rw_ (kd (at_ b t))) (by omega) r2
   have hsd := hS.side
   have hmh : mh b h s t d = hset h s (rw_ (kd (at_ b t))) 1 := by unfold mh; rw [if_neg (by simpa using hd), if_neg ht]
   rw [br_true (by simpa using ht), kind_val, ob_some, raw_val k1 k2, ob_some, ghand_val hS.side r1 r2 (-1) (.inr rfl), ob_some, hmh,
    hset_back hg.len hS.side (by omega) r2 (fits_hd hg.fits _ _) (by rcases hsd with rfl | rfl <;> constructor <;> omega),
    key_back hg.len hS.side (by omega) r2 _ _ (fits_hd hg.fits _ _) (by rcases hsd with rfl | rfl <;> constructor <;> omega)]
 ·obtain ⟨d0, d1, d2, d3, g1, g2⟩ := hP.drop hd
  have hmb : mb b s f t d p = put b t (laid b s f d p) := by unfold mb; rw [if_pos hd]
  have hmh : mh b h s t d = hset h s d (-1) := by unfold mh; rw [if_pos hd]
  have hb := fits_hd hg.fits s d
  have p1 := gput_full (hS.clean.put t (laid b s f d p)) t 0 (un (keyB (put b t (laid b s f d p)) (mh b h s t d) s)) n (mh b h s t d) s m st
  rw [kput_un (hS.clean.put t (laid b s f d p)).len hP.to_] at p1
  rw [back_drop hS.clean hP.to_ g2] at p1
  rw [br_true (by simpa using hd), hmb, p1, ob_some]
  simp only
  have hbk : hset (hset h s d (-1)) s d 1 = h := hset_back hg.len hS.side (by omega) d1 (d := -1) hb (by constructor <;> omega)
  rw [ghand_val hS.side (by omega) d1 1 (.inl rfl), ob_some, hmh]
  have hky : khand (un (keyB b (hset h s d (-1)) s)) (hset h s d (-1)) s d 1 = un (keyB b h s) := key_back hg.len hS.side (by omega) d1 (d := -1) _ _ hb (by constructor <;> omega)
  rw [hbk, hky]
end Go.Kk.Pl
namespace Go.Kk.Pl
theorem mates_true : law12_mates_v1 = some true := by kernel_rfl
structure PosP (b h : List Int) (s : Int) : Prop where
 len : b.length = 81
 fits : Fits8 h
 hlen : h.length = 16
 zero : atkS b h s = 0
theorem PosP.clean {b h : List Int} {s : Int} (hp : PosP b h s) : Clean b := (pos_ok hp.len hp.zero).1
theorem PosP.side {b h : List Int} {s : Int} (hp : PosP b h s) : s = 0 ∨ s = 1 := (pos_ok hp.len hp.zero).2.1
theorem PosP.going {b h : List Int} {s : Int} (hp : PosP b h s) : Going b h s := ⟨sound_of hp.len hp.fits (atk_chk hp.zero), hp.fits, hp.hlen⟩
theorem PosP.after {b h : List Int} {s : Int} (hp : PosP b h s) {m : List Int} (hm : m ∈ lgL b h s) : PosP (mbM b s m) (mhM b h s m) (1 - s) := by
 obtain ⟨hc, hs, hno, k, k', hk, hk'⟩ := pos_ok hp.len hp.zero
 obtain ⟨_, hm2, _, hm4⟩ := lgL_full hc hs hno hk hk' hm
 have hsafe : inC (mb b s (m0 m) (m1 m) (m2 m) (m3 m)) s = false := by simpa [safeM, mbM] using hm4
 exact ⟨(mb_clean hc _ _ _ _ _).1, mh_fits hp.fits _ _ _ _, mh_len hp.hlen _ _ _ _, atk_after hp.len hp.fits hp.hlen (atk_chk hp.zero) hm2 hsafe⟩
def mtd (b h : List Int) (s : Int) : Bool := inC b s && decide ((lgL b h s).length = 0)
theorem PosP.mated {b h : List Int} {s : Int} (hp : PosP b h s) : mate_Mated b h s (byOf b) (sidesOf b) = some (mtd b h s, b, h, s, byOf b, sidesOf b) := by
 obtain ⟨hc, hs, hno, k, k', hk, hk'⟩ := pos_ok hp.len hp.zero
 exact mated_val hc h hs hk hk'
theorem PosP.stuck {b h : List Int} {s : Int} (hp : PosP b h s) : mate_Stuck b h s (byOf b) (sidesOf b) = some (decide ((lgL b h s).length = 0), b, h, s, byOf b, sidesOf b) := by
 obtain ⟨hc, hs, hno, k, k', hk, hk'⟩ := pos_ok hp.len hp.zero
 exact stuck_val hc h hs hk hk'
theorem PosP.lists {b h : List Int} {s : Int} (hp : PosP b h s) : lgL b h s = rlL b h s := by
 obtain ⟨hc, hs, hno, k, k', hk, hk'⟩ := pos_ok hp.len hp.zero
 exact lists_eq hc h hs hno hk hk'
theorem PosP.all {b h : List Int} {s : Int} (hp : PosP b h s) : legal_All b h s (byOf b) (sidesOf b) = some ((lgL b h s).length, b, h, s, byOf b, sidesOf b, (lgL b h s).length, lgL b h s) := by
 obtain ⟨hc, hs, hno, k, k', hk, hk'⟩ := pos_ok hp.len hp.zero
 exact legalAll_val hc h hs hk hk'
theorem PosP.full {b h : List Int} {s : Int} (hp : PosP b h s) {m : List Int} (hm : m ∈ lgL b h s) : Mv4 m ∧ movS b h s (m0 m) (m1 m) (m2 m) (m3 m) = true := by
 obtain ⟨hc, hs, hno, k, k', hk, hk'⟩ := pos_ok hp.len hp.zero
 have := lgL_full hc hs hno hk hk' hm
 exact ⟨this.1, this.2.1⟩
def giv (b h : List Int) (s : Int) (f t d : Int) (p : Bool) : Bool := canS b h s f t d p && inC (mb b s f t d p) (1 - s)
theorem gives_val {b h : List Int} {s : Int} (hg : Going b h s) (f t d : Int) (p : Bool) (m : Nat) (st : List (List Int)) : ∃ m' st', 
  mate_Gives_v1 f t d p (kof b h s) 0 b h s (byOf b) (sidesOf b) m st = some (.inl (giv b h s f t d p, kof b h s, 0, b, h, s, byOf b, sidesOf b, m', st')) ∨
  mate_Gives_v1 f t d p (kof b h s) 0 b h s (byOf b) (sidesOf b) m st = some (.inr (giv b h s f t d p, kof b h s, 0, b, h, s, byOf b, sidesOf b, m', st')) := by
 have hc := hg.sound.clean
 have hs := hg.sound.side
 obtain ⟨c, hcan, hm⟩ := make_full hc h hs f t d p
 have e : canS b h s f t d p = c := Option.some.inj ((can_full b h hs f t d p 0 0 (byOf b) (sidesOf b) 0 []).symm.trans (hcan 0 0 0 []))
 unfold mate_Gives_v1 giv
 rw [e]
 rcases hm with ⟨rfl, hm⟩ | ⟨rfl, hP, hm⟩
 ·rw [hm, ob_some]
  exact ⟨m, st, .inl rfl⟩
 ·have hc2 := mb_clean hc s f t d p
  rw [hm _ _ _ _ (by omega), ob_some, sw_inr]
  simp only
  rw [Bool.not_true, b_f, inCheck_val hc2 _ _ (by omega), ob_some, mkey_val hg.sound hg.fits hg.len hP, kof_un]
  have hst : (List.append (List.take 0 st) [[f, t, d, bi p, at_ b t, was b s f d]]).getD 0 [] = [f, t, d, bi p, at_ b t, was b s f d] := rfl
  rw [back_full hg hP 0 (by omega) _ _ hst, ob_some, kof_un]
  exact ⟨_, _, .inr rfl⟩
def ckM (b : List Int) (s : Int) (m : List Int) : Bool := inC (mbM b s m) (1 - s)
def ckL (b h : List Int) (s : Int) : List (List Int) := (lgL b h s).filter (ckM b s)
theorem ckL_len (b h : List Int) (s : Int) : (ckL b h s).length ≤ 20000 := Nat.le_trans (List.length_filter_le _ _) (lgL_len b h s)
theorem mchecks_goes {b h : List Int} {s : Int} (hp : PosP b h s) (N : Nat) : ∀ (n i : Nat), i + n = (lgL b h s).length → ∀ (L : List (List Int)) (x0 x6 : Nat) (m : Nat) (st : List (List Int)), x0 = L.length → x6 = L.length → L.length + n ≤ 1000000 → ∀ F,
  mate_Checks_v1l4 (F + n + 1) x0 (lgL b h s).length (lgL b h s).length i (kof b h s) 0 x6 L N (lgL b h s) b h s (byOf b) (sidesOf b) m st =
   some ((L ++ ((lgL b h s).drop i).filter (ckM b s)).length, (L ++ ((lgL b h s).drop i).filter (ckM b s)).length, L ++ ((lgL b h s).drop i).filter (ckM b s)) := by
 have hlen := lgL_len b h s
 intro n
 induction n with
 | zero =>
   intro i hi L x0 x6 m st e0 e6 hb F
   show mate_Checks_v1l4s (mate_Checks_v1l4 (F + 0)) _ _ _ _ _ _ _ _ _ _ _ _ _ _ _ _ _ = _
   unfold mate_Checks_v1l4s
   rw [b_nlt (by omega), List.drop_eq_nil_of_le (by omega), List.filter_nil, List.append_nil, e0, e6]
 | succ n ih =>
   intro i hi L x0 x6 m st e0 e6 hb F
   show mate_Checks_v1l4s (mate_Checks_v1l4 (F + n + 1)) _ _ _ _ _ _ _ _ _ _ _ _ _ _ _ _ _ = _
   unfold mate_Checks_v1l4s
   have hil : i < (lgL b h s).length := by omega
   obtain ⟨⟨hm1, _⟩, hm2⟩ := hp.full (List.getElem_mem hil)
   rw [b_lt (by omega), b_in (by omega) (by omega), tn, atL hil]
   simp only [hdM]
   obtain ⟨m', st', hg⟩ := gives_val hp.going (m0 (lgL b h s)[i]) (m1 (lgL b h s)[i]) (m2 (lgL b h s)[i]) (m3 (lgL b h s)[i]) m st
   have hgiv : giv b h s (m0 (lgL b h s)[i]) (m1 (lgL b h s)[i]) (m2 (lgL b h s)[i]) (m3 (lgL b h s)[i]) = ckM b s (lgL b h s)[i] := by
    unfold giv ckM mbM
    rw [movS_can hm2, Bool.true_and]
   rw [hgiv] at hg
   rw [w_s (n := (i : Int) + 1) (by omega) (by omega), List.drop_eq_getElem_cons hil, List.filter_cons]
   have rest : br (ckM b s (lgL b h s)[i]) (mate_Checks_v1l4 (F + n + 1) (x0 + 1) (lgL b h s).length (lgL b h s).length ((i : Int) + 1) (kof b h s) 0 (x0 + 1) (L ++ [(lgL b h s)[i]]) N (lgL b h s) b h s (byOf b) (sidesOf b) m' st')
     (mate_Checks_v1l4 (F + n + 1) x0 (lgL b h s).length (lgL b h s).length ((i : Int) + 1) (kof b h s) 0 x6 L N (lgL b h s) b h s (byOf b) (sidesOf b) m' st') =
     some ((L ++ if ckM b s (lgL b h s)[i] = true then (lgL b h s)[i] :: ((lgL b h s).drop (i + 1)).filter (ckM b s) else ((lgL b h s).drop (i + 1)).filter (ckM b s)).length,
      (L ++ if ckM b s (lgL b h s)[i] = true then (lgL b h s)[i] :: ((lgL b h s).drop (i + 1)).filter (ckM b s) else ((lgL b h s).drop (i + 1)).filter (ckM b s)).length,
      L ++ if ckM b s (lgL b h s)[i] = true then (lgL b h s)[i] :: ((lgL b h s).drop (i + 1)).filter (ckM b s) else ((lgL b h s).drop (i + 1)).filter (ckM b s)) := by
    cases hck : ckM b s (lgL b h s)[i] with
    | true =>
      rw [b_t]
      refine (ih (i + 1) (by omega) (L ++ [(lgL b h s)[i]]) (x0 + 1) (x0 + 1) m' st' (by simp; omega) (by simp; omega) (by simp; omega) F).trans ?_
      simp
    | false =>
      rw [b_f]
      exact ih (i + 1) (by omega) L x0 x6 m' st' e0 e6 (by omega) F
   rcases hg with hg | hg
   ·rw [hg, ob_some, sw_inl]
    simp only
    rw [b_leN (by omega), ← hm1, tkA e0]
    exact rest
   ·rw [hg, ob_some, sw_inr]
    simp only
    rw [b_leN (by omega), ← hm1, tkA e0]
    exact rest
theorem PosP.checks {b h : List Int} {s : Int} (hp : PosP b h s) : mate_Checks_v1 b h s = some ((ckL b h s).length, (ckL b h s).length, ckL b h s) := by
 have hlen := lgL_len b h s
 unfold mate_Checks_v1
 rw [gnew_full hp.clean, ob_some]
 simp only
 rw [hp.all, ob_some]
 simp only
 obtain ⟨g, hg⟩ := many_eq (lgL b h s).length (by omega)
 have := mchecks_goes hp (lgL b h s).length (lgL b h s).length 0 (by omega) [] 0 0 0 [] rfl rfl (by simp only [List.length_nil]; omega) g
 rw [← hg, List.drop_zero, List.nil_append] at this
 rw [show mate_Checks_v1l4 many 0 (lgL b h s).length (Int.ofNat (lgL b h s).length) 0 (kof b h s) 0 0 [] (lgL b h s).length (lgL b h s) b h s (byOf b) (sidesOf b) 0 [] = _ from this, ob_some]
 rfl
def mtM (b h : List Int) (s : Int) (m : List Int) : Bool := mtd (mbM b s m) (mhM b h s m) (1 - s)
theorem inone_goes {b h : List Int} {s : Int} (hp : PosP b h s) (x6 x7 x8 : Int) (x9 : Bool) (N : Nat) : ∀ (n i : Nat), i + n = (ckL b h s).length → ∀ F,
  mate_InOne_v1l2 (F + n + 1) (ckL b h s).length (ckL b h s).length i b h s x6 x7 x8 x9 N (ckL b h s) =
   some (match ((ckL b h s).drop i).find? (mtM b h s) with
    | some m => .inl (true, m0 m, m1 m, m2 m, m3 m)
    | none => .inr (x6, x7, x8, x9)) := by
 have hlen := ckL_len b h s
 have hs := hp.side
 intro n
 induction n with
 | zero =>
   intro i hi F
   show mate_InOne_v1l2s (mate_InOne_v1l2 (F + 0)) _ _ _ _ _ _ _ _ _ _ _ _ = _
   unfold mate_InOne_v1l2s
   rw [b_nlt (by omega), List.drop_eq_nil_of_le (by omega)]
   rfl
 | succ n ih =>
   intro i hi F
   show mate_InOne_v1l2s (mate_InOne_v1l2 (F + n + 1)) _ _ _ _ _ _ _ _ _ _ _ _ = _
   unfold mate_InOne_v1l2s
   have hil : i < (ckL b h s).length := by omega
   have hml : (ckL b h s)[i] ∈ lgL b h s := (List.mem_filter.mp (List.getElem_mem hil)).1
   obtain ⟨_, hm2⟩ := hp.full hml
   have hp2 := hp.after hml
   rw [b_lt (by omega), b_in (by omega) (by omega), tn, atL hil]
   simp only [hdM]
   rw [after_full hp.clean h hs, movS_can hm2, if_pos rfl, ob_some]
   simp only
   rw [b_t, new_full (by exact hp2.len), cl_id (by exact hp2.clean), ob_some]
   simp only
   have := hp2.mated
   unfold mbM mhM at this
   rw [this, ob_some, w_s (n := (i : Int) + 1) (by omega) (by omega), List.drop_eq_getElem_cons hil, List.find?_cons]
   show br (mtM b h s (ckL b h s)[i]) _ _ = _
   cases hmt : mtM b h s (ckL b h s)[i] with
   | true => rfl
   | false =>
     rw [b_f]
     exact ih (i + 1) (by omega) F
def ioV (b h : List Int) (s : Int) : Int × Int × Int × Bool × Bool := match (ckL b h s).find? (mtM b h s) with
 | some m => (m0 m, m1 m, m2 m, m3 m, true)
 | none => (0, 0, 0, false, false)
theorem PosP.inone {b h : List Int} {s : Int} (hp : PosP b h s) : mate_InOne_v1 b h s = some (ioV b h s) := by
 have hlen := ckL_len b h s
 unfold mate_InOne_v1
 rw [hp.checks, ob_some]
 simp only
 obtain ⟨g, hg⟩ := many_eq (ckL b h s).length (by omega)
 have := inone_goes hp 0 0 0 false (ckL b h s).length (ckL b h s).length 0 (by omega) g
 rw [← hg, List.drop_zero] at this
 rw [show mate_InOne_v1l2 many (ckL b h s).length (Int.ofNat (ckL b h s).length) 0 b h s 0 0 0 false (ckL b h s).length (ckL b h s) = _ from this, ob_some]
 unfold ioV
 cases (ckL b h s).find? (mtM b h s) <;> rfl
end Go.Kk.Pl
namespace Go.Kk.Pl
end Go.Kk.Pl
namespace Go.Kk.Pl
def trnP (x : Int) : Int := if x = 0 then 0 else if sd x = 1 then x - 16 else x + 16
def trnB (b : List Int) : List Int := (List.range 81).map fun j => trnP (b.getD (80 - j) 0)
def trnH (h : List Int) : List Int := h.drop 8 ++ h.take 8
theorem trn_len (b : List Int) : (trnB b).length = 81 := by simp [trnB]
theorem trn_get (b : List Int) {j : Nat} (hj : j < 81) : (trnB b).getD j 0 = trnP (b.getD (80 - j) 0) := by
 rw [at_i (by rw [trn_len]; exact hj)]
 simp [trnB]
theorem kd_rng {x : Int} (h : kd x ≠ 0) : 1 ≤ x ∧ x ≤ 31 ∧ x ≠ 16 ∧ x ≠ 13 ∧ x ≠ 29 := by
 unfold kd at h
 split at h
 ·exact absurd rfl h
 ·omega
theorem trn_all : ∀ n : Fin 32, kd ((n.val : Nat) : Int) ≠ 0 → kd (trnP ((n.val : Nat) : Int)) = kd ((n.val : Nat) : Int) ∧ sd (trnP ((n.val : Nat) : Int)) = 1 - sd ((n.val : Nat) : Int) := by decide +kernel
theorem trn_ks {x : Int} (h : kd x ≠ 0) : kd (trnP x) = kd x ∧ sd (trnP x) = 1 - sd x := by
 obtain ⟨h1, h2, _⟩ := kd_rng h
 obtain ⟨n, rfl⟩ := fin32 (by omega) h2
 exact trn_all n h
theorem trn_zero : trnP 0 = 0 := rfl
theorem trn_clean {b : List Int} (hc : Clean b) : Clean (trnB b) := ⟨trn_len b, fun i hi => by
 rw [trn_get b hi]
 rcases hc.ok (80 - i) (by omega) with h | h
 ·left; rw [h]; rfl
 ·right; rw [(trn_ks h).1]; exact h⟩
theorem trn_tk {b : List Int} (hc : Clean b) {i : Nat} (hi : i < 81) : tk (trnB b) i = tk b (80 - i) := by
 unfold tk
 rw [trn_get b hi]
 rcases hc.ok (80 - i) (by omega) with h | h
 ·rw [h]; rfl
 ·have h1 : trnP (b.getD (80 - i) 0) ≠ 0 := fun hh => by
   have := (trn_ks h).1
   rw [hh] at this
   exact h (this.symm.trans (by decide))
  have h2 : b.getD (80 - i) 0 ≠ 0 := fun hh => by rw [hh] at h; exact h (by decide)
  rw [decide_eq_true h1, decide_eq_true h2]
theorem sd_val {b : List Int} (hc : Clean b) {i : Nat} (hi : i < 81) {S : Int} (hS : S = 0 ∨ S = 1) : (sd (trnP (b.getD i 0)) = 1 - S) ↔ (sd (b.getD i 0) = S) := by
 rcases hc.ok i hi with h | h
 ·rw [h, trn_zero]
  have : sd 0 = -1 := sd_zero
  omega
 ·rw [(trn_ks h).2]; omega
theorem kd_val {b : List Int} (hc : Clean b) {i : Nat} (hi : i < 81) : kd (trnP (b.getD i 0)) = kd (b.getD i 0) := by
 rcases hc.ok i hi with h | h
 ·rw [h]; rfl
 ·exact (trn_ks h).1
theorem df_turn {a c : Nat} (ha : a < 81) (hc : c < 81) : df (80 - a) (80 - c) = - df a c ∧ dr (80 - a) (80 - c) = - dr a c := by unfold df dr fl rn; omega
theorem btw_turn_all : ∀ (a c : Fin 81), btw (80 - a.val) (80 - c.val) = (btw a.val c.val).map fun s => 80 - s := by decide +kernel
theorem stp_bound {k d u : Int} (h : stpK k d u) : -1 ≤ d ∧ d ≤ 1 := by unfold stpK at h; omega
theorem stp_turn (k d u : Int) : stpK k (-d) u ↔ stpK k d u := by
 by_cases h : -1 ≤ d ∧ d ≤ 1
 ·obtain rfl | rfl | rfl : d = -1 ∨ d = 0 ∨ d = 1 := by omega
  ·simp [stpK]
  ·simp
  ·simp [stpK]
 ·constructor
  ·intro hh; have := stp_bound hh; omega
  ·intro hh; have := stp_bound hh; omega
theorem sl_turn (k d u : Int) : slK k (-d) u ↔ slK k d u := by unfold slK; omega
theorem up_turn {x : Int} (hx : kd x ≠ 0) {a c : Nat} (ha : a < 81) (hc : c < 81) : upS (trnP x) (80 - a) (80 - c) = upS x a c := by
 unfold upS
 rw [(trn_ks hx).2, (df_turn ha hc).2]
 rcases sd_range hx with h | h
 ·rw [h, if_pos (by omega), if_neg (by omega)]
 ·rw [h, if_neg (by omega), if_pos (by omega)]; omega
theorem rch_trn {b : List Int} (hcl : Clean b) {x : Int} (hx : kd x ≠ 0) {a c : Nat} (ha : a < 81) (hc : c < 81) : rch (trnP x) (80 - a) (80 - c) (tk (trnB b)) = rch x a c (tk b) := by
 unfold rch stepB slideB
 rw [(trn_ks hx).1, (df_turn ha hc).1, up_turn hx ha hc]
 have e1 : decide (stpK (kd x) (-df a c) (upS x a c)) = decide (stpK (kd x) (df a c) (upS x a c)) := by rw [decide_eq_decide]; exact stp_turn _ _ _
 have e2 : decide (slK (kd x) (-df a c) (upS x a c)) = decide (slK (kd x) (df a c) (upS x a c)) := by rw [decide_eq_decide]; exact sl_turn _ _ _
 have e3 : freeS (80 - a) (80 - c) (tk (trnB b)) = freeS a c (tk b) := by
  unfold freeS
  rw [btw_turn_all ⟨a, ha⟩ ⟨c, hc⟩, List.all_map, Bool.eq_iff_iff, List.all_eq_true, List.all_eq_true]
  have hq : ∀ s ∈ btw a c, tk (trnB b) (80 - s) = tk b s := fun s hs => by
   have := btw_mem ha hc hs
   rw [trn_tk hcl (by omega), show 80 - (80 - s) = s by omega]
  constructor
  ·intro h s hs
   have := h s hs
   simp only [Function.comp] at this
   rwa [hq s hs] at this
  ·intro h s hs
   simp only [Function.comp]
   rw [hq s hs]; exact h s hs
 rw [e1, e2, e3]
theorem far_turn {s : Int} (hs : s = 0 ∨ s = 1) {i : Nat} (hi : i < 81) : farS (1 - s) (80 - i) = farS s i := by
 unfold farS
 rcases hs with rfl | rfl <;> simp <;> omega
theorem farI_turn {s : Int} (hs : s = 0 ∨ s = 1) {i : Nat} (hi : i < 81) : farI (1 - s) ((80 : Int) - i) = farI s i := by
 unfold farI
 rw [if_pos (by omega), if_pos (by omega), tn, show ((80 : Int) - i).toNat = 80 - i by omega, far_turn hs hi]
theorem inZ_turn {s : Int} (hs : s = 0 ∨ s = 1) {i : Nat} (hi : i < 81) : inZ (1 - s) ((80 : Int) - i) = inZ s i := by unfold inZ; rw [farI_turn hs hi]
theorem dead_turn {x : Int} (hx : kd x ≠ 0) {i : Nat} (hi : i < 81) : deadI (trnP x) ((80 : Int) - i) = deadI x i := by
 unfold deadI
 rw [(trn_ks hx).1, (trn_ks hx).2, farI_turn (sd_range hx) hi]
theorem nF_turn {b : List Int} (hc : Clean b) {S : Int} (hS : S = 0 ∨ S = 1) {f : Nat} (hf : f < 9) : nF (trnB b) (16 * (1 - S) + 1) (8 - f) = nF b (16 * S + 1) f := by
 have key : ∀ r, r < 9 → ((trnB b).getD (9 * (8 - f) + r) 0 == 16 * (1 - S) + 1) = (b.getD (9 * f + (8 - r)) 0 == 16 * S + 1) := by
  intro r hr
  rw [trn_get b (by omega), show 80 - (9 * (8 - f) + r) = 9 * f + (8 - r) by omega]
  generalize hy : b.getD (9 * f + (8 - r)) 0 = y
  rcases hc.ok (9 * f + (8 - r)) (by omega) with h | h
  ·rw [hy] at h; subst h
   rw [trn_zero, Bool.eq_iff_iff, beq_iff_eq, beq_iff_eq]; omega
  ·rw [hy] at h
   obtain ⟨h1, h2, h3, _⟩ := kd_rng h
   have hs : sd y = if y < 16 then 0 else 1 := by unfold sd; rw [if_neg h]
   have : trnP y = if y < 16 then y + 16 else y - 16 := by
    unfold trnP
    rw [if_neg (by omega), hs]
    by_cases hl : y < 16
    ·rw [if_pos hl, if_neg (by omega), if_pos hl]
    ·rw [if_neg hl, if_pos rfl, if_neg hl]
   rw [this, Bool.eq_iff_iff, beq_iff_eq, beq_iff_eq]
   split <;> omega
 unfold nF
 have e1 : (List.range 9).countP (fun r => (trnB b).getD (9 * (8 - f) + r) 0 == 16 * (1 - S) + 1) = (List.range 9).countP (fun r => b.getD (9 * f + (8 - r)) 0 == 16 * S + 1) :=
  List.countP_congr fun r hr => by rw [key r (by simpa using hr)]
 rw [e1]
 have e2 : ((List.range 9).map fun r => 8 - r) = (List.range 9).reverse := by decide
 have e3 : (List.range 9).countP (fun r => b.getD (9 * f + (8 - r)) 0 == 16 * S + 1) = ((List.range 9).map fun r => 8 - r).countP (fun r => b.getD (9 * f + r) 0 == 16 * S + 1) := by
  rw [List.countP_map]; rfl
 rw [e3, e2, List.countP_reverse]
theorem hd_turn {h : List Int} (hh : h.length = 16) {S k : Int} (hS : S = 0 ∨ S = 1) (hk : 0 ≤ k ∧ k < 8) : hd_ (trnH h) (1 - S) k = hd_ h S k := by
 unfold hd_ trnH
 rcases hS with rfl | rfl
 ·rw [List.getD_eq_getElem?_getD, List.getD_eq_getElem?_getD, List.getElem?_append_right (by simp; omega)]
  congr 1
  rw [List.getElem?_take_of_lt (by simp; omega)]
  congr 1
  simp; omega
 ·rw [List.getD_eq_getElem?_getD, List.getD_eq_getElem?_getD, List.getElem?_append_left (by simp; omega), List.getElem?_drop]
  congr 1
  show h[8 + (0 * 8 + k.toNat)]? = h[1 * 8 + k.toNat]?
  congr 1
  omega
theorem chk0 {f t : Int} (p : Bool) (h1 : 0 ≤ f ∧ f < 81) (h2 : 0 ≤ t ∧ t < 81) : chkM f t 0 p = if f = t then 70 else 0 := by
 unfold chkM
 rw [if_neg (c := ¬ (0 ≤ t ∧ t < 81)) (fun h => h h2), if_neg (c := (0 : Int) ≠ 0) (fun h => h rfl), if_neg (c := ¬ (0 ≤ f ∧ f < 81)) (fun h => h h1)]
theorem chkD {t d : Int} (h2 : 0 ≤ t ∧ t < 81) (hd : 1 ≤ d ∧ d ≤ 7) : chkM 0 t d false = 0 := by
 unfold chkM
 rw [if_neg (c := ¬ (0 ≤ t ∧ t < 81)) (fun h => h h2), if_pos (c := d ≠ 0) (by omega), if_pos ⟨hd.1, hd.2, rfl, rfl⟩]
theorem mov0 (b h : List Int) (s f t : Int) (p : Bool) : movS b h s f t 0 p = ((decide (chkM f t 0 p = 0) && (decide (s = 0 ∨ s = 1) && (decide (sd (at_ b f) = s ∧ sd (at_ b t) ≠ s ∧ kd (at_ b t) ≠ 8) && (!p || decide (up_ (kd (at_ b f)) ≠ 0))))) &&
  (rch (at_ b f) f.toNat t.toNat (tk b) && if p = true then mayS (at_ b f) f t else !mustS (at_ b f) t)) := by
 unfold movS canS
 rw [if_neg (c := (0 : Int) ≠ 0) (fun h => h rfl), if_neg (c := (0 : Int) ≠ 0) (fun h => h rfl)]
theorem movD (b h : List Int) (s t : Int) {d : Int} (hd : d ≠ 0) : movS b h s 0 t d false = ((decide (chkM 0 t d false = 0) && (decide (s = 0 ∨ s = 1) && (decide (0 < hd_ h s d) && decide (at_ b t = 0)))) &&
  (!deadI (16 * s + d) t && (decide (d ≠ 1) || decide (nF b (16 * s + d) (t.toNat / 9) = 0)))) := by
 unfold movS canS
 rw [if_pos (c := d ≠ 0) hd, if_pos (c := d ≠ 0) hd]
theorem mov_turn {b h : List Int} (hc : Clean b) (hh : h.length = 16) {S : Int} (hS : S = 0 ∨ S = 1) {f t : Nat} (hf : f < 81) (ht : t < 81) (p : Bool) :
  movS (trnB b) (trnH h) (1 - S) ((80 : Int) - f) ((80 : Int) - t) 0 p = movS b h S f t 0 p := by
 have hc' := trn_clean hc
 have hS' : (1 : Int) - S = 0 ∨ (1 : Int) - S = 1 := by omega
 have ef : at_ (trnB b) ((80 : Int) - f) = trnP (b.getD f 0) := by
  rw [at_in (by omega), show ((80 : Int) - f).toNat = 80 - f by omega, trn_get b (by omega), show 80 - (80 - f) = f by omega]
 have et : at_ (trnB b) ((80 : Int) - t) = trnP (b.getD t 0) := by
  rw [at_in (by omega), show ((80 : Int) - t).toNat = 80 - t by omega, trn_get b (by omega), show 80 - (80 - t) = t by omega]
 have em : chkM ((80 : Int) - f) ((80 : Int) - t) 0 p = chkM f t 0 p := by
  rw [chk0 p (by omega) (by omega), chk0 p (by omega) (by omega)]
  by_cases hft : f = t
  ·rw [if_pos (by omega), if_pos (by omega)]
  ·rw [if_neg (by omega), if_neg (by omega)]
 rw [mov0, mov0, em, ef, et, decide_eq_true (p := (1 : Int) - S = 0 ∨ (1 : Int) - S = 1) hS', decide_eq_true (p := S = 0 ∨ S = 1) hS,
  at_in (b := b) (q := (f : Int)) (by omega), at_in (b := b) (q := (t : Int)) (by omega), tn, tn, show ((80 : Int) - f).toNat = 80 - f by omega, show ((80 : Int) - t).toNat = 80 - t by omega, kd_val hc hf, kd_val hc ht]
 by_cases hs : sd (b.getD f 0) = S
 ·have hk : kd (b.getD f 0) ≠ 0 := fun hk => by
   have := sd_none hk
   omega
  have e1 : decide (sd (trnP (b.getD f 0)) = 1 - S ∧ sd (trnP (b.getD t 0)) ≠ 1 - S ∧ kd (b.getD t 0) ≠ 8) = decide (sd (b.getD f 0) = S ∧ sd (b.getD t 0) ≠ S ∧ kd (b.getD t 0) ≠ 8) := by
   rw [decide_eq_decide, sd_val hc hf hS, Ne, Ne, sd_val hc ht hS]
  rw [e1, rch_trn hc hk hf ht]
  have e2 : mayS (trnP (b.getD f 0)) ((80 : Int) - f) ((80 : Int) - t) = mayS (b.getD f 0) f t := by
   unfold mayS
   rw [(trn_ks hk).1, (trn_ks hk).2, inZ_turn (sd_range hk) hf, inZ_turn (sd_range hk) ht]
  have e3 : mustS (trnP (b.getD f 0)) ((80 : Int) - t) = mustS (b.getD f 0) t := by
   unfold mustS
   rw [(trn_ks hk).1, dead_turn hk ht]
  rw [e2, e3]
 ·have e1 : decide (sd (trnP (b.getD f 0)) = 1 - S ∧ sd (trnP (b.getD t 0)) ≠ 1 - S ∧ kd (b.getD t 0) ≠ 8) = false := decide_eq_false fun hh => hs ((sd_val hc hf hS).1 hh.1)
  have e2 : decide (sd (b.getD f 0) = S ∧ sd (b.getD t 0) ≠ S ∧ kd (b.getD t 0) ≠ 8) = false := decide_eq_false fun hh => hs hh.1
  rw [e1, e2]
  simp
theorem drop_turn {b h : List Int} (hc : Clean b) (hh : h.length = 16) {S : Int} (hS : S = 0 ∨ S = 1) {d : Int} (hd : 1 ≤ d ∧ d ≤ 7) {t : Nat} (ht : t < 81) :
  movS (trnB b) (trnH h) (1 - S) 0 ((80 : Int) - t) d false = movS b h S 0 t d false := by
 have hS' : (1 : Int) - S = 0 ∨ (1 : Int) - S = 1 := by omega
 have et : decide (at_ (trnB b) ((80 : Int) - t) = 0) = decide (at_ b t = 0) := by
  rw [at_in (by omega), at_in (by omega), show ((80 : Int) - t).toNat = 80 - t by omega, tn]
  have := trn_tk hc (i := 80 - t) (by omega)
  unfold tk at this
  rw [show 80 - (80 - t) = t by omega] at this
  simpa using this
 have hk : kd (16 * S + d) ≠ 0 ∧ trnP (16 * S + d) = 16 * (1 - S) + d := by
  have e : ∀ S ∈ [(0 : Int), 1], ∀ d ∈ [(1 : Int), 2, 3, 4, 5, 6, 7], kd (16 * S + d) ≠ 0 ∧ trnP (16 * S + d) = 16 * (1 - S) + d := by decide +kernel
  refine e S (by rcases hS with h | h <;> simp [h]) d ?_
  obtain h | h | h | h | h | h | h : d = 1 ∨ d = 2 ∨ d = 3 ∨ d = 4 ∨ d = 5 ∨ d = 6 ∨ d = 7 := by omega
  all_goals simp [h]
 rw [movD _ _ _ _ (show d ≠ 0 by omega), movD _ _ _ _ (show d ≠ 0 by omega), chkD (by omega) hd, chkD (by omega) hd, decide_eq_true (p := (1 : Int) - S = 0 ∨ (1 : Int) - S = 1) hS', decide_eq_true (p := S = 0 ∨ S = 1) hS, hd_turn hh hS (by omega), et, ← hk.2, dead_turn hk.1 ht]
 by_cases h1 : d = 1
 ·subst h1
  rw [hk.2, show ((80 : Int) - t).toNat / 9 = 8 - t / 9 by omega, tn, nF_turn hc hS (by omega)]
 ·rw [decide_eq_true (p := d ≠ 1) h1, Bool.true_or, Bool.true_or]
def trnM (m : List Int) : List Int := if m.getD 2 0 = 0 then [80 - m.getD 0 0, 80 - m.getD 1 0, m.getD 2 0, m.getD 3 0] else [0, 80 - m.getD 1 0, m.getD 2 0, m.getD 3 0]
theorem trnM_mem {b h : List Int} (hc : Clean b) (hh : h.length = 16) {S : Int} (hS : S = 0 ∨ S = 1) {m : List Int} (hm : m ∈ mvs b h S) : trnM m ∈ mvs (trnB b) (trnH h) (1 - S) := by
 obtain ⟨f, t, d, p, rfl, hok⟩ := mvs_mem hc hS hm
 have hbi : bi (p != 0) = p := by rcases hok.pp with h0 | h0 <;> rw [h0] <;> rfl
 have ht := hok.tr
 have hf := hok.fr
 have hd := hok.dr
 unfold trnM
 simp only [List.getD_cons_zero, List.getD_cons_succ]
 by_cases h0 : d = 0
 ·subst h0
  rw [if_pos rfl, ← hbi]
  refine mem_mvs (trn_clean hc) (by omega) ?_
  have := mov_turn hc hh hS (f := f.toNat) (t := t.toNat) (by omega) (by omega) (p != 0)
  rw [show ((f.toNat : Nat) : Int) = f by omega, show ((t.toNat : Nat) : Int) = t by omega] at this
  rw [this]; exact hok.mov
 ·obtain ⟨rfl, rfl, _, _⟩ := hok.drop h0
  rw [if_neg h0]
  have h1 := mem_mvs (h := trnH h) (S := 1 - S) (f := 0) (t := 80 - t) (d := d) (p := false) (trn_clean hc) (by omega) (by
   have := drop_turn hc hh hS (d := d) (by omega) (t := t.toNat) (by omega)
   rw [show ((t.toNat : Nat) : Int) = t by omega] at this
   rw [this]; exact hok.mov)
  exact h1
theorem trnM_inj {b h : List Int} (hc : Clean b) {S : Int} (hS : S = 0 ∨ S = 1) {m n : List Int} (hm : m ∈ mvs b h S) (hn : n ∈ mvs b h S) (he : trnM m = trnM n) : m = n := by
 obtain ⟨f, t, d, p, rfl, hok⟩ := mvs_mem hc hS hm
 obtain ⟨f', t', d', p', rfl, hok'⟩ := mvs_mem hc hS hn
 unfold trnM at he
 simp only [List.getD_cons_zero, List.getD_cons_succ] at he
 have e1 := hok.drop
 have e2 := hok'.drop
 by_cases h0 : d = 0 <;> by_cases h0' : d' = 0
 ·rw [if_pos h0, if_pos h0'] at he
  simp only [List.cons.injEq, and_true] at he ⊢
  omega
 ·rw [if_pos h0, if_neg h0'] at he
  simp only [List.cons.injEq, and_true] at he ⊢
  omega
 ·rw [if_neg h0, if_pos h0'] at he
  simp only [List.cons.injEq, and_true] at he ⊢
  omega
 ·rw [if_neg h0, if_neg h0'] at he
  have := e1 h0
  have := e2 h0'
  simp only [List.cons.injEq, and_true] at he ⊢
  omega
theorem trnB_trnB {b : List Int} (hc : Clean b) : trnB (trnB b) = b := by
 apply List.ext_getElem (by rw [trn_len, hc.len])
 intro j h1 h2
 rw [trn_len] at h1
 have h3 := at_i (b := trnB (trnB b)) (i := j) (by rw [trn_len]; exact h1)
 have h4 := at_i (b := b) (i := j) h2
 rw [← h3, ← h4, trn_get _ h1, trn_get _ (by omega), show 80 - (80 - j) = j by omega]
 rcases hc.ok j h1 with h | h
 ·rw [h]; rfl
 ·have e : ∀ n : Fin 32, kd ((n.val : Nat) : Int) ≠ 0 → trnP (trnP ((n.val : Nat) : Int)) = ((n.val : Nat) : Int) := by decide +kernel
  obtain ⟨q1, q2, _⟩ := kd_rng h
  obtain ⟨n, hn⟩ := fin32 (x := b.getD j 0) (by omega) q2
  rw [hn] at h ⊢
  exact e n h
theorem trnH_trnH {h : List Int} (hh : h.length = 16) : trnH (trnH h) = h := by
 unfold trnH
 have a : (h.drop 8).length = 8 := by simp; omega
 rw [List.drop_left' a, List.take_left' a]
 exact List.take_append_drop 8 h
theorem sub_len {α : Type} [DecidableEq α] : ∀ {l m : List α}, l.Nodup → (∀ x ∈ l, x ∈ m) → l.length ≤ m.length
 | [], m, _, _ => Nat.zero_le _
 | a :: l, m, hn, hs => by
   have ha := hs a (by simp)
   have := sub_len (l := l) (m := m.erase a) (List.nodup_cons.1 hn).2 fun x hx => by
    have hne : x ≠ a := fun h => (List.nodup_cons.1 hn).1 (h ▸ hx)
    exact (List.mem_erase_of_ne hne).2 (hs x (by simp [hx]))
   rw [List.length_erase_of_mem ha] at this
   have h2 : 0 < m.length := List.length_pos_of_mem ha
   simp only [List.length_cons]
   omega
theorem nodup_map {α β : Type} {f : α → β} : ∀ {l : List α}, l.Nodup → (∀ x ∈ l, ∀ y ∈ l, f x = f y → x = y) → (l.map f).Nodup
 | [], _, _ => List.nodup_nil
 | a :: l, hn, hi => by
   rw [List.map_cons, List.nodup_cons]
   refine ⟨fun hm => ?_, nodup_map (List.nodup_cons.1 hn).2 fun x hx y hy => hi x (by simp [hx]) y (by simp [hy])⟩
   obtain ⟨x, hx, he⟩ := List.mem_map.1 hm
   have := hi x (by simp [hx]) a (by simp) he
   subst this
   exact (List.nodup_cons.1 hn).1 hx
end Go.Kk.Pl
namespace Go.Kk.Pl
end Go.Kk.Pl
namespace Go.Kk.Pl
theorem trn_pc {s k : Int} (hs : s = 0 ∨ s = 1) (h1 : 1 ≤ k) (h2 : k ≤ 15) (h3 : k ≠ 13) : trnP (16 * s + k) = 16 * (1 - s) + k := by
 have hx := sd_pc hs h1 h2 h3
 rw [pc_ok hs h1 h2 h3] at hx
 unfold trnP
 rw [if_neg (by omega), hx.1]
 rcases hs with rfl | rfl
 ·rw [if_neg (by omega)]; omega
 ·rw [if_pos rfl]; omega
theorem trn_iff {x : Int} (hx : x = 0 ∨ kd x ≠ 0) {s : Int} (hs : s = 0 ∨ s = 1) : trnP x = pc (1 - s) 8 ↔ x = pc s 8 := by
 have hs' : 1 - s = 0 ∨ 1 - s = 1 := by omega
 rw [pc8 hs, pc8 hs']
 constructor
 ·intro h
  rcases hx with rfl | hx
  ·rw [trn_zero] at h; omega
  ·have hk := trn_ks hx
   rw [h, kd_of hs' (by omega) (by omega) (by omega)] at hk
   have h2 := sd_pc hs' (k := 8) (by omega) (by omega) (by omega)
   rw [pc8 hs'] at h2
   rw [h2.1] at hk
   have h3 := pc_of hx
   rw [show sd x = s by omega, ← hk.1, pc8 hs] at h3
   exact h3
 ·rintro rfl
  exact trn_pc hs (by omega) (by omega) (by omega)
theorem ks_turn {b : List Int} (hc : Clean b) {s : Int} (hs : s = 0 ∨ s = 1) {k : Nat} (hk : KS b s k) : KS (trnB b) (1 - s) (80 - k) := by
 refine ⟨by omega, fun i hi => ?_⟩
 rw [trn_get b hi, trn_iff (hc.ok (80 - i) (by omega)) hs, hk.2 (80 - i) (by omega)]
 have := hk.1
 omega
theorem inC_turn {b : List Int} (hc : Clean b) {s : Int} (hs : s = 0 ∨ s = 1) {k : Nat} (hk : KS b s k) : inC (trnB b) (1 - s) = inC b s := by
 have hs' : 1 - s = 0 ∨ 1 - s = 1 := by omega
 have hk2 := ks_turn hc hs hk
 have key : ∀ c, c < 81 → chs (trnB b) (1 - s) (80 - c) = chs b s c := by
  intro c hcc
  rw [chs_atk hs' (hk2.kg hs') hk2.1, chs_atk hs (hk.kg hs) hk.1]
  unfold atk enm
  rw [trn_get b (by omega), show 80 - (80 - c) = c by omega]
  rcases hc.ok c hcc with h0 | h0
  ·rw [h0, trn_zero, sd_zero, decide_eq_false (by omega), decide_eq_false (by omega)]
   rfl
  ·rw [rch_trn hc h0 hcc hk.1]
   have := (trn_ks h0).2
   congr 1
   rw [decide_eq_decide, this]
   omega
 unfold inC
 congr 1
 rw [Bool.eq_iff_iff, isE_iff, isE_iff]
 constructor
 ·intro h i hi; rw [← key i hi]; exact h _ (by omega)
 ·intro h i hi
  have := key (80 - i) (by omega)
  rw [show 80 - (80 - i) = i by omega] at this
  rw [this]
  exact h _ (by omega)
theorem trnH_len {h : List Int} (hh : h.length = 16) : (trnH h).length = 16 := by simp [trnH]; omega
theorem hands_ext {h h' : List Int} (hl : h.length = 16) (hl' : h'.length = 16) (he : ∀ s k : Int, (s = 0 ∨ s = 1) → 0 ≤ k → k < 8 → hd_ h s k = hd_ h' s k) : h = h' := by
 apply List.ext_getElem (by omega)
 intro i h1 h2
 rw [← at_i h1, ← at_i h2]
 have := he ((i / 8 : Nat) : Int) ((i % 8 : Nat) : Int) (by omega) (by omega) (by omega)
 unfold hd_ at this
 rw [Int.toNat_natCast, Int.toNat_natCast, show i / 8 * 8 + i % 8 = i by omega] at this
 exact this
theorem hset_turn {h : List Int} (hh : h.length = 16) {s k : Int} (hs : s = 0 ∨ s = 1) (k0 : 0 ≤ k) (k1 : k < 8) (d : Int) : hset (trnH h) (1 - s) k d = trnH (hset h s k d) := by
 have hs' : 1 - s = 0 ∨ 1 - s = 1 := by omega
 apply hands_ext (by rw [hset_len, trnH_len hh]) (trnH_len (by rw [hset_len, hh]))
 intro s2 k2 h2 k20 k21
 rw [hd_hset (trnH_len hh) hs' k0 k1 d h2 k20 k21, hd_turn hh hs ⟨k0, k1⟩]
 have e := hd_turn (h := hset h s k d) (by rw [hset_len, hh]) (S := 1 - s2) (k := k2) (by omega) ⟨k20, k21⟩
 rw [show 1 - (1 - s2) = s2 by omega] at e
 rw [e, hd_hset hh hs k0 k1 d (by omega) k20 k21]
 have e2 := hd_turn (h := h) hh (S := 1 - s2) (k := k2) (by omega) ⟨k20, k21⟩
 rw [show 1 - (1 - s2) = s2 by omega] at e2
 rw [e2]
 by_cases hc : s2 = 1 - s ∧ k2 = k
 ·rw [if_pos hc, if_pos (by omega)]
 ·rw [if_neg hc, if_neg (by omega)]
theorem trnM_parts {m : List Int} (hm : Mv4 m) : m2 (trnM m) = m2 m ∧ m3 (trnM m) = m3 m ∧ m1 (trnM m) = 80 - m1 m ∧ (m2 m = 0 → m0 (trnM m) = 80 - m0 m) ∧ (m2 m ≠ 0 → m0 (trnM m) = 0) := by
 unfold trnM
 by_cases h0 : m.getD 2 0 = 0
 ·rw [if_pos h0]
  exact ⟨rfl, rfl, rfl, fun _ => rfl, fun h => absurd h0 h⟩
 ·rw [if_neg h0]
  exact ⟨rfl, rfl, rfl, fun h => absurd h h0, fun _ => rfl⟩
theorem at_turn {b : List Int} {q : Int} (hq : 0 ≤ q ∧ q < 81) : at_ (trnB b) (80 - q) = trnP (at_ b q) := by
 rw [at_in (by omega), at_in hq, trn_get b (by omega), show 80 - (80 - q).toNat = q.toNat by omega]
theorem kd_turn {b : List Int} (hc : Clean b) {q : Int} (hq : 0 ≤ q ∧ q < 81) : kd (at_ (trnB b) (80 - q)) = kd (at_ b q) := by
 rw [at_turn hq, at_in hq]
 exact kd_val hc (by omega)
theorem after_turn {b h : List Int} (hc : Clean b) (hh : h.length = 16) {s : Int} (hs : s = 0 ∨ s = 1) {m : List Int} (hm : m ∈ mvs b h s) :
  mbM (trnB b) (1 - s) (trnM m) = trnB (mbM b s m) ∧ mhM (trnB b) (trnH h) (1 - s) (trnM m) = trnH (mhM b h s m) := by
 have hs' : 1 - s = 0 ∨ 1 - s = 1 := by omega
 obtain ⟨hm4, hmv⟩ := mvs_ok hc hs hm
 obtain ⟨_, hmv2⟩ := mvs_ok (trn_clean hc) hs' (trnM_mem hc hh hs hm)
 obtain ⟨e2, e3, e1, e0, e0'⟩ := trnM_parts hm4
 have hP := (movP hmv).2
 have hP2 := (movP hmv2).2
 have ht := hP.to_
 have hc2 : Clean (mbM b s m) := mb_clean hc _ _ _ _ _
 constructor
 ·have hc3 : Clean (mbM (trnB b) (1 - s) (trnM m)) := mb_clean (trn_clean hc) _ _ _ _ _
  apply List.ext_getElem (by rw [hc3.len, trn_len])
  intro i h1 h2
  have hi : i < 81 := by rw [trn_len] at h2; exact h2
  rw [← at_i h1, ← at_i h2, trn_get _ hi]
  unfold mbM
  rw [mb_getD (trn_clean hc) hs' hP2 hi, mb_getD hc hs hP (by omega), trn_get b hi, e1, e2, e3]
  by_cases hd : m2 m = 0
  ·have hmm := hP.move hd
   have hmm2 := hP2.move (e2.trans hd)
   rw [e0 hd]
   by_cases h3 : i = (80 - m1 m).toNat
   ·rw [if_pos h3, if_pos (c := 80 - i = (m1 m).toNat) (by omega)]
    unfold laid
    rw [if_neg (c := m2 m ≠ 0) (by simpa using hd), if_neg (c := m2 m ≠ 0) (by simpa using hd), kd_turn hc ⟨hmm.1, hmm.2.1⟩, at_turn ⟨hmm.1, hmm.2.1⟩]
    cases hp3 : m3 m with
    | false => rfl
    | true =>
      rw [if_pos rfl, if_pos rfl]
      obtain ⟨u1, u2, u3⟩ := up_range (hmm.2.2.2.2.2.2 hp3)
      exact (trn_pc hs u1 u2 u3).symm
   ·rw [if_neg h3, if_neg (c := 80 - i = (m1 m).toNat) (by omega)]
    by_cases h4 : i = (80 - m0 m).toNat
    ·rw [if_pos (c := m2 m = 0 ∧ i = (80 - m0 m).toNat) ⟨hd, h4⟩, if_pos (c := m2 m = 0 ∧ 80 - i = (m0 m).toNat) ⟨hd, by omega⟩]; rfl
    ·rw [if_neg (c := m2 m = 0 ∧ i = (80 - m0 m).toNat) (fun h => h4 h.2), if_neg (c := m2 m = 0 ∧ 80 - i = (m0 m).toNat) (by omega)]
  ·have hdr := hP.drop hd
   rw [e0' hd]
   by_cases h3 : i = (80 - m1 m).toNat
   ·rw [if_pos h3, if_pos (c := 80 - i = (m1 m).toNat) (by omega)]
    unfold laid
    rw [if_pos (c := m2 m ≠ 0) hd, if_pos (c := m2 m ≠ 0) hd]
    exact (trn_pc hs (by omega) (by omega) (by omega)).symm
   ·rw [if_neg h3, if_neg (c := 80 - i = (m1 m).toNat) (by omega), if_neg (c := m2 m = 0 ∧ i = (0 : Int).toNat) (fun h => hd h.1), if_neg (c := m2 m = 0 ∧ 80 - i = (m0 m).toNat) (fun h => hd h.1)]
 ·unfold mhM mh
  rw [e1, e2]
  by_cases hd : m2 m = 0
  ·have hmm := hP.move hd
   rw [if_neg (c := m2 m ≠ 0) (by simpa using hd), if_neg (c := m2 m ≠ 0) (by simpa using hd), kd_turn hc ht, at_turn ht]
   have hz : trnP (at_ b (m1 m)) = 0 ↔ at_ b (m1 m) = 0 := by
    constructor
    ·intro h0
     rcases hc.at_ (m1 m) with h1 | h1
     ·exact h1
     ·have := (trn_ks h1).1
      rw [h0, kd_zero] at this
      exact absurd this.symm h1
    ·intro h0; rw [h0]; rfl
   by_cases h0 : at_ b (m1 m) = 0
   ·rw [if_pos (hz.mpr h0), if_pos h0]
   ·rw [if_neg (fun h => h0 (hz.mp h)), if_neg h0]
    have hr := rw_range ((hc.at_ (m1 m)).resolve_left h0) hmm.2.2.2.2.2.1
    exact hset_turn hh hs (by omega) (by omega) 1
  ·have hdr := hP.drop hd
   rw [if_pos (c := m2 m ≠ 0) hd, if_pos (c := m2 m ≠ 0) hd]
   exact hset_turn hh hs (by omega) (by omega) (-1)
theorem cnt_turn {b : List Int} (hc : Clean b) {k : Int} (hk : 1 ≤ k) : cnt (trnB b) k = cnt b k := by
 have hb : b = (List.range 81).map fun i => b.getD i 0 := by
  apply List.ext_getElem (by rw [hc.len]; simp)
  intro i h1 h2
  rw [List.getElem_map, List.getElem_range, ← at_i h1]
 have hr : (List.range 81).map (fun j => 80 - j) = (List.range 81).reverse := by decide +kernel
 have e1 : cnt (trnB b) k = ((List.range 81).map fun j => 80 - j).countP fun i => rw_ (kd (b.getD i 0)) == k := by
  unfold cnt trnB
  rw [List.countP_map, List.countP_map]
  apply List.countP_congr
  intro j hj
  have hj := List.mem_range.mp hj
  show ((rw_ (kd (trnP (b.getD (80 - j) 0))) == k) = true ↔ (rw_ (kd (b.getD (80 - j) 0)) == k) = true)
  rw [kd_val hc (by omega)]
 have e2 : cnt b k = (List.range 81).countP fun i => rw_ (kd (b.getD i 0)) == k := by
  unfold cnt
  conv => lhs; rw [hb]
  rw [List.countP_map]
  rfl
 rw [e1, e2, hr, List.countP_reverse]
theorem pos_turn {b h : List Int} {s : Int} (hp : PosP b h s) : PosP (trnB b) (trnH h) (1 - s) := by
 obtain ⟨hc, hs, hno, k, k', hk, hk'⟩ := pos_ok hp.len hp.zero
 have hs' : 1 - s = 0 ∨ 1 - s = 1 := by omega
 have hct := trn_clean hc
 have hC := chkP_iff.mp (atk_chk hp.zero)
 have hhd : ∀ j : Nat, j < 2 → ∀ i : Nat, i < 8 → (trnH h).getD (j * 8 + i) 0 = h.getD ((1 - j) * 8 + i) 0 := by
  intro j hj i hi
  have e := hd_turn (h := h) hp.hlen (S := 1 - (j : Int)) (k := (i : Int)) (by omega) ⟨by omega, by omega⟩
  rw [show 1 - (1 - (j : Int)) = j by omega] at e
  unfold hd_ at e
  rw [show (1 - (j : Int)).toNat = 1 - j by omega, Int.toNat_natCast, Int.toNat_natCast] at e
  exact e
 have hz : chkS (trnB b) (trnH h) (1 - s) = 0 := by
  rw [chkP_iff]
  refine ⟨hs', fun i hi => ?_, fun i hi j hj => ?_, ?_, fun i i1 i2 => ?_, fun i hi => ?_, fun g hg => ?_⟩
  ·unfold bsP
   rw [decide_eq_false_iff_not]
   rintro ⟨h1, h2⟩
   exact (hct.ok i hi).elim h1 (fun h => h h2)
  ·have := hC.hands i hi (1 - j) (by omega)
   unfold bsH at this ⊢
   rw [hhd j hj i hi]
   exact this
  ·have e1 := nP_KS (ks_turn hc hs hk)
   have e2 := nP_KS (ks_turn hc hs' hk')
   rw [pc8 hs'] at e1
   rw [show 1 - (1 - s) = s by omega, pc8 hs] at e2
   rcases hs with rfl | rfl
   ·exact ⟨e2, e1⟩
   ·exact ⟨e1, e2⟩
  ·have := hC.over i i1 i2
   unfold overS at this ⊢
   rw [decide_eq_false_iff_not] at this ⊢
   rw [cnt_turn hc (k := (i : Int)) (by omega)]
   have h0 := hhd 0 (by omega) i (by omega)
   have h1 := hhd 1 (by omega) i (by omega)
   unfold hd_ at this ⊢
   rw [show (0 : Int).toNat = 0 from rfl, show (1 : Int).toNat = 1 from rfl, Int.toNat_natCast] at this ⊢
   rw [h0, h1]
   rw [show 1 - 0 = 1 from rfl, show 1 - 1 = 0 from rfl]
   omega
  ·rw [trn_get b hi]
   have hdd := hC.dead (80 - i) (by omega)
   rcases hc.ok (80 - i) (by omega) with h0 | h0
   ·rw [h0, trn_zero]; unfold deadS; rw [kd_zero]; simp
   ·have := dead_turn h0 (i := 80 - i) (by omega)
    rw [show (80 : Int) - ((80 - i : Nat) : Int) = (i : Int) by omega, deadI_nat _ hi, deadI_nat _ (by omega), hdd] at this
    exact this
  ·have hn := hC.nifu (8 - g) (by omega)
   have n0 := nF_turn hc (S := 0) (.inl rfl) (f := 8 - g) (by omega)
   have n1 := nF_turn hc (S := 1) (.inr rfl) (f := 8 - g) (by omega)
   rw [show 8 - (8 - g) = g by omega] at n0 n1
   unfold nifuS at hn ⊢
   have e0 : nF (trnB b) 17 g = nF b 1 (8 - g) := n0
   have e1 : nF (trnB b) 1 g = nF b 17 (8 - g) := n1
   rw [e0, e1, Bool.or_comm]
   exact hn
 refine ⟨trn_len b, ?_, trnH_len hp.hlen, ?_⟩
 ·intro i
  rcases Nat.lt_or_ge i 16 with hi | hi
  ·have := hhd (i / 8) (by omega) (i % 8) (by omega)
   rw [show i / 8 * 8 + i % 8 = i by omega] at this
   rw [this]
   exact hp.fits _
  ·rw [List.getD_eq_getElem?_getD, List.getElem?_eq_none (by rw [trnH_len hp.hlen]; exact hi)]
   simp
 ·unfold atkS
  rw [if_neg (by rw [hz]; simp), show 1 - (1 - s) = 1 - (1 - s) from rfl, inC_turn hc hs' hk', hno]
  rfl
theorem pos_back {b h : List Int} {s : Int} (hp : PosP b h s) : trnB (trnB b) = b ∧ trnH (trnH h) = h ∧ 1 - (1 - s) = s := ⟨trnB_trnB hp.clean, trnH_trnH hp.hlen, by omega⟩
theorem safe_turn {b h : List Int} (hc : Clean b) (hh : h.length = 16) {s : Int} (hs : s = 0 ∨ s = 1) {k : Nat} (hk : KS b s k) {m : List Int} (hm : m ∈ mvs b h s) : safeM (trnB b) (1 - s) (trnM m) = safeM b s m := by
 have hP := (movP (mvs_ok hc hs hm).2).2
 unfold safeM
 rw [(after_turn hc hh hs hm).1, inC_turn (b := mbM b s m) (mb_clean hc _ _ _ _ _) hs (ks_mb hc hs hP hk)]
theorem check_turn {b h : List Int} (hc : Clean b) (hh : h.length = 16) {s : Int} (hs : s = 0 ∨ s = 1) {k : Nat} (hk : KS b (1 - s) k) {m : List Int} (hm : m ∈ mvs b h s) : inC (mbM (trnB b) (1 - s) (trnM m)) (1 - (1 - s)) = inC (mbM b s m) (1 - s) := by
 have hP := (movP (mvs_ok hc hs hm).2).2
 rw [(after_turn hc hh hs hm).1, inC_turn (b := mbM b s m) (mb_clean hc _ _ _ _ _) (by omega) (ks_mb' hc hs hP hk)]
theorem stuck_le {b h : List Int} (hc : Clean b) (hh : h.length = 16) {s : Int} (hs : s = 0 ∨ s = 1) {k : Nat} (hk : KS b s k) (hst : stuckS (trnB b) (trnH h) (1 - s) = true) : stuckS b h s = true := by
 unfold stuckS at hst ⊢
 rw [List.all_eq_true] at hst ⊢
 intro m hm
 have := hst _ (trnM_mem hc hh hs hm)
 rw [safe_turn hc hh hs hk hm] at this
 exact this
theorem stuck_turn {b h : List Int} (hc : Clean b) (hh : h.length = 16) {s : Int} (hs : s = 0 ∨ s = 1) {k : Nat} (hk : KS b s k) : stuckS (trnB b) (trnH h) (1 - s) = stuckS b h s := by
 rw [Bool.eq_iff_iff]
 refine ⟨stuck_le hc hh hs hk, fun hst => ?_⟩
 refine stuck_le (trn_clean hc) (trnH_len hh) (by omega) (ks_turn hc hs hk) ?_
 rw [trnB_trnB hc, trnH_trnH hh, show 1 - (1 - s) = s by omega]
 exact hst
theorem lgl_turn {b h : List Int} {s : Int} (hp : PosP b h s) {m : List Int} (hm : m ∈ mvs b h s) : lglM (trnB b) (trnH h) (1 - s) (trnM m) = lglM b h s m := by
 obtain ⟨hc, hs, hno, k, k', hk, hk'⟩ := pos_ok hp.len hp.zero
 obtain ⟨hm4, hmv⟩ := mvs_ok hc hs hm
 have hP := (movP hmv).2
 obtain ⟨a1, a2⟩ := after_turn hc hp.hlen hs hm
 unfold lglM
 rw [safe_turn hc hp.hlen hs hk hm, check_turn hc hp.hlen hs hk' hm, (trnM_parts hm4).1, a1, a2,
  stuck_turn (b := mbM b s m) (h := mhM b h s m) (mb_clean hc _ _ _ _ _) (mh_len hp.hlen _ _ _ _) (s := 1 - s) (by omega) (ks_mb' hc hs hP hk')]
theorem lg_mem {b h : List Int} {s : Int} (hp : PosP b h s) {m : List Int} : m ∈ lgL b h s ↔ m ∈ mvs b h s ∧ lglM b h s m = true := by
 rw [hp.lists]
 unfold rlL
 rw [List.mem_filter]
theorem lg_turn {b h : List Int} {s : Int} (hp : PosP b h s) {m : List Int} (hm : m ∈ lgL b h s) : trnM m ∈ lgL (trnB b) (trnH h) (1 - s) := by
 rw [lg_mem hp] at hm
 rw [lg_mem (pos_turn hp), lgl_turn hp hm.1]
 exact ⟨trnM_mem hp.clean hp.hlen hp.side hm.1, hm.2⟩
theorem lg_nodup {b h : List Int} {s : Int} (hp : PosP b h s) : (lgL b h s).Nodup := by
 rw [hp.lists]
 exact (mvs_nodup b h s).sublist List.filter_sublist
theorem lg_le {b h : List Int} {s : Int} (hp : PosP b h s) : (lgL b h s).length ≤ (lgL (trnB b) (trnH h) (1 - s)).length := by
 have hn : ((lgL b h s).map trnM).Nodup := nodup_map (lg_nodup hp) fun x hx y hy e => trnM_inj hp.clean hp.side (lgL_ok hp.clean hp.side hx) (lgL_ok hp.clean hp.side hy) e
 have := sub_len hn (m := lgL (trnB b) (trnH h) (1 - s)) fun x hx => by
  obtain ⟨y, hy, rfl⟩ := List.mem_map.mp hx
  exact lg_turn hp hy
 rw [List.length_map] at this
 exact this
theorem lg_len_turn {b h : List Int} {s : Int} (hp : PosP b h s) : (lgL (trnB b) (trnH h) (1 - s)).length = (lgL b h s).length := by
 have h1 := lg_le hp
 have h2 := lg_le (pos_turn hp)
 obtain ⟨e1, e2, e3⟩ := pos_back hp
 rw [e1, e2, e3] at h2
 omega
theorem mtd_turn {b h : List Int} {s : Int} (hp : PosP b h s) : mtd (trnB b) (trnH h) (1 - s) = mtd b h s := by
 obtain ⟨hc, hs, hno, k, k', hk, hk'⟩ := pos_ok hp.len hp.zero
 unfold mtd
 rw [inC_turn hc hs hk, lg_len_turn hp]
theorem ck_mem {b h : List Int} {s : Int} (hp : PosP b h s) {m : List Int} (hm : m ∈ lgL b h s) : ckM (trnB b) (1 - s) (trnM m) = ckM b s m := by
 obtain ⟨hc, hs, hno, k, k', hk, hk'⟩ := pos_ok hp.len hp.zero
 exact check_turn hc hp.hlen hs hk' (lgL_ok hc hs hm)
theorem ck_le {b h : List Int} {s : Int} (hp : PosP b h s) : (ckL b h s).length ≤ (ckL (trnB b) (trnH h) (1 - s)).length := by
 have hsub : ∀ x ∈ ckL b h s, x ∈ lgL b h s := fun x hx => (List.mem_filter.mp hx).1
 have hn : ((ckL b h s).map trnM).Nodup := nodup_map ((lg_nodup hp).sublist List.filter_sublist) fun x hx y hy e => trnM_inj hp.clean hp.side (lgL_ok hp.clean hp.side (hsub x hx)) (lgL_ok hp.clean hp.side (hsub y hy)) e
 have := sub_len hn (m := ckL (trnB b) (trnH h) (1 - s)) fun x hx => by
  obtain ⟨y, hy, rfl⟩ := List.mem_map.mp hx
  have hy' := List.mem_filter.mp hy
  exact List.mem_filter.mpr ⟨lg_turn hp hy'.1, by rw [ck_mem hp hy'.1]; exact hy'.2⟩
 rw [List.length_map] at this
 exact this
theorem ck_len_turn {b h : List Int} {s : Int} (hp : PosP b h s) : (ckL (trnB b) (trnH h) (1 - s)).length = (ckL b h s).length := by
 have h1 := ck_le hp
 have h2 := ck_le (pos_turn hp)
 obtain ⟨e1, e2, e3⟩ := pos_back hp
 rw [e1, e2, e3] at h2
 omega
theorem io_turn {b h : List Int} {s : Int} (hp : PosP b h s) (hio : (ioV b h s).2.2.2.2 = true) : (ioV (trnB b) (trnH h) (1 - s)).2.2.2.2 = true := by
 unfold ioV at hio ⊢
 cases hfi : (ckL b h s).find? (mtM b h s) with
 | none => rw [hfi] at hio; cases hio
 | some m =>
   have hmt := List.find?_some hfi
   have hmc := List.mem_filter.mp (List.mem_of_find?_eq_some hfi)
   have hmem : trnM m ∈ ckL (trnB b) (trnH h) (1 - s) := List.mem_filter.mpr ⟨lg_turn hp hmc.1, by rw [ck_mem hp hmc.1]; exact hmc.2⟩
   have hmt2 : mtM (trnB b) (trnH h) (1 - s) (trnM m) = true := by
    unfold mtM
    obtain ⟨a1, a2⟩ := after_turn hp.clean hp.hlen hp.side (lgL_ok hp.clean hp.side hmc.1)
    rw [a1, a2, mtd_turn (hp.after hmc.1)]
    exact hmt
   cases hf2 : (ckL (trnB b) (trnH h) (1 - s)).find? (mtM (trnB b) (trnH h) (1 - s)) with
   | some x => rfl
   | none =>
     rw [List.find?_eq_none] at hf2
     exact absurd hmt2 (hf2 _ hmem)
theorem io_turn_eq {b h : List Int} {s : Int} (hp : PosP b h s) : (ioV b h s).2.2.2.2 = (ioV (trnB b) (trnH h) (1 - s)).2.2.2.2 := by
 rw [Bool.eq_iff_iff]
 refine ⟨io_turn hp, fun hio => ?_⟩
 have := io_turn (pos_turn hp) hio
 obtain ⟨e1, e2, e3⟩ := pos_back hp
 rw [e1, e2, e3] at this
 exact this
theorem mturn_goes {b : List Int} (hc : Clean b) (h u : List Int) (S v : Int) : ∀ (n i : Nat), i + n = 81 → ∀ B, B.length = 81 → (∀ j, j < 81 → B.getD j 0 = if 80 - j < i then trnP (b.getD (80 - j) 0) else 0) → ∀ F,
  law12_MateSides_v1l7 (F + n + 1) i b h S B u v = some (b, h, S, trnB b, u, v) := by
 intro n
 induction n with
 | zero =>
   intro i hi B hB hj F
   show law12_MateSides_v1l7s (law12_MateSides_v1l7 (F + 0)) _ _ _ _ _ _ _ = _
   unfold law12_MateSides_v1l7s
   have : B = trnB b := by
    apply List.ext_getElem (by rw [hB, trn_len])
    intro j h1 h2
    rw [← at_i h1, ← at_i h2, hj j (by omega), trn_get b (by omega), if_pos (by omega)]
   rw [b_nlt (by omega), this]
 | succ n ih =>
   intro i hi B hB hj F
   show law12_MateSides_v1l7s (law12_MateSides_v1l7 (F + n + 1)) _ _ _ _ _ _ _ = _
   unfold law12_MateSides_v1l7s
   rw [b_lt (by omega), b_in (by omega) (by omega), tn, w_s (n := (i : Int) + 1) (by omega) (by omega), w_s (n := 80 - (i : Int)) (by omega) (by omega)]
   have put : ∀ v' : Int, v' = trnP (b.getD i 0) → law12_MateSides_v1l7 (F + n + 1) ((i + 1 : Nat) : Int) b h S (List.set B (80 - i) v') u v = some (b, h, S, trnB b, u, v) := by
    rintro v' rfl
    refine ih (i + 1) (by omega) _ (by simp [hB]) (fun j hjl => ?_) F
    rw [getD_set (by omega)]
    by_cases h2 : j = 80 - i
    ·subst h2
     rw [if_pos rfl, if_pos (by omega), show 80 - (80 - i) = i by omega]
    ·rw [if_neg h2, hj j hjl]
     by_cases h1 : 80 - j < i
     ·rw [if_pos h1, if_pos (by omega)]
     ·rw [if_neg h1, if_neg (by omega)]
   rw [c_8, show (80 - (i : Int)).toNat = 80 - i by omega]
   rcases hc.ok i (by omega) with h0 | h0
   ·rw [h0, b_ngt (by omega), b_ngt (by omega)]
    refine ih (i + 1) (by omega) B hB (fun j hjl => ?_) F
    rw [hj j hjl]
    by_cases h1 : 80 - j < i
    ·rw [if_pos h1, if_pos (by omega)]
    ·rw [if_neg h1]
     by_cases h2 : 80 - j = i
     ·rw [if_pos (by omega), h2, h0]; rfl
     ·rw [if_neg (by omega)]
   ·obtain ⟨q1, q2, q3, q4, q5⟩ := kd_rng h0
    have hsd : sd (b.getD i 0) = if b.getD i 0 < 16 then 0 else 1 := by unfold sd; rw [if_neg h0]
    by_cases hs : b.getD i 0 > 16
    ·rw [b_gt hs, b_in (by omega) (by omega), w_s (n := b.getD i 0 - 16) (by omega) (by omega)]
     refine put _ ?_
     have ht : trnP (b.getD i 0) = b.getD i 0 - 16 := by
      unfold trnP
      rw [if_neg (by omega), show sd (b.getD i 0) = 1 from by rw [hsd, if_neg (by omega)], if_pos rfl]
     rw [ht]
     unfold conv
     exact w_8 (by omega) (by omega)
    ·rw [b_ngt hs, b_gt (by omega), b_in (by omega) (by omega), w_s (n := b.getD i 0 + 16) (by omega) (by omega)]
     refine put _ ?_
     have ht : trnP (b.getD i 0) = b.getD i 0 + 16 := by
      unfold trnP
      rw [if_neg (by omega), show sd (b.getD i 0) = 0 from by rw [hsd, if_pos (by omega)], if_neg (by omega)]
     rw [ht]
     unfold conv
     exact w_8 (by omega) (by omega)
theorem mateSides_true {b h : List Int} (s : Int) (hl : b.length = 81) (hf : Fits8 h) (hh : h.length = 16) : law12_MateSides_v1 b h s = some true := by
 unfold law12_MateSides_v1
 rw [mates_true, ob_some]
 simp only [Bool.not_true, b_f]
 rw [rattackCheck_val hl hf, ob_some]
 by_cases hz : atkS b h s = 0
 ·have hp : PosP b h s := ⟨hl, hf, hh, hz⟩
  have hp2 := pos_turn hp
  have hc := hp.clean
  have hS := hp.side
  have eh : List.append (List.append (List.take 8 (List.append (List.take 8 (List.drop 8 h)) [0, 0, 0, 0, 0, 0, 0, 0])) (List.take 8 h)) (List.drop 16 (List.append (List.take 8 (List.drop 8 h)) [0, 0, 0, 0, 0, 0, 0, 0])) = trnH h := by
   have a1 : List.take 8 (List.drop 8 h) = List.drop 8 h := List.take_of_length_le (by simp; omega)
   have a2 : (List.drop 8 h).length = 8 := by simp; omega
   show (List.take 8 (List.take 8 (List.drop 8 h) ++ [0, 0, 0, 0, 0, 0, 0, 0]) ++ List.take 8 h) ++ List.drop 16 (List.take 8 (List.drop 8 h) ++ [0, 0, 0, 0, 0, 0, 0, 0]) = _
   have a3 : List.drop 16 (List.drop 8 h ++ [(0 : Int), 0, 0, 0, 0, 0, 0, 0]) = [] := List.drop_eq_nil_of_le (by simp; omega)
   rw [a1, List.take_left' a2, a3, List.append_nil]
   rfl
  have es : IntKind.wrap IntKind.i8 (1 - s) = 1 - s := by rcases hS with rfl | rfl <;> rfl
  obtain ⟨g, hg⟩ := many_eq 81 (by omega)
  have t7 := mturn_goes hc h (trnH h) s (1 - s) 81 0 (by omega) (List.replicate 81 0) rfl (fun j hj => by
   rw [if_neg (by omega), at_i (by simpa using hj), List.getElem_replicate]) g
  rw [← hg] at t7
  rw [b_nne hz, eh, es]
  show ob (law12_MateSides_v1l7 many ((0 : Nat) : Int) b h s (List.replicate 81 0) (trnH h) (1 - s)) _ = _
  rw [t7, ob_some]
  simp only
  rw [hp.inone, ob_some, hp2.inone, ob_some, new_full hl, cl_id hc, ob_some]
  simp only
  rw [hp.stuck, ob_some]
  simp only
  rw [new_full hp2.len, cl_id hp2.clean, ob_some]
  simp only
  rw [hp2.stuck, ob_some, lg_len_turn hp]
  simp only [beq_self_eq_true, b_t]
  rw [ob_some]
  simp only
  rw [hp.mated, ob_some]
  simp only [ob_some]
  rw [hp2.mated, ob_some, mtd_turn hp]
  simp only [beq_self_eq_true, b_t]
  rw [hp.checks, ob_some]
  simp only
  rw [hp2.checks, ob_some, ck_len_turn hp]
  simp only [beq_self_eq_true, b_t]
  rw [← io_turn_eq hp, beq_self_eq_true]
 ·rw [b_ne hz]
end Go.Kk.Pl
