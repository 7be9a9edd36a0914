/-
  Games, plainly: what may be done, and what doing it brings about.
-/
import Derived.Test.YtlcccogiaaalhaaDoorKkChk2
namespace Go.Kk.Pl

/-! ### pieces, further -/

/-- A kind turned over; 0 where there is none. -/
def up_ (k : Int) : Int := if k = 1 ∨ k = 2 ∨ k = 3 ∨ k = 4 ∨ k = 6 ∨ k = 7 then k + 8 else 0
theorem up_val (k : Int) : piece_Up k = some (up_ k) := by
  unfold piece_Up up_
  by_cases h1 : k = 1
  · subst h1; rfl
  rw [br_false (by simpa using h1)]
  by_cases h2 : k = 2
  · subst h2; rfl
  rw [br_false (by simpa using h2)]
  by_cases h3 : k = 3
  · subst h3; rfl
  rw [br_false (by simpa using h3)]
  by_cases h4 : k = 4
  · subst h4; rfl
  rw [br_false (by simpa using h4)]
  by_cases h6 : k = 6
  · subst h6; rfl
  rw [br_false (by simpa using h6)]
  by_cases h7 : k = 7
  · subst h7; rfl
  rw [br_false (by simpa using h7), if_neg (by omega)]

theorem of_all0 : ∀ n : Fin 16, piece_Of 0 ((n.val : Nat) : Int) = some (if n.val = 0 ∨ n.val = 13 then 0 else (n.val : Int)) := by decide +kernel
theorem of_all1 : ∀ n : Fin 16, piece_Of 1 ((n.val : Nat) : Int) = some (if n.val = 0 ∨ n.val = 13 then 0 else 16 + (n.val : Int)) := by decide +kernel
theorem raw_all : ∀ n : Fin 16, piece_Raw ((n.val : Nat) : Int) = some (rw_ ((n.val : Nat) : Int)) := by decide +kernel
theorem fin16 {x : Int} (h0 : 0 ≤ x) (h1 : x ≤ 15) : ∃ n : Fin 16, x = ((n.val : Nat) : Int) := ⟨⟨x.toNat, by omega⟩, by simp; omega⟩
theorem of_val {s k : Int} (hs : s = 0 ∨ s = 1) (h1 : 1 ≤ k) (h2 : k ≤ 15) (h3 : k ≠ 13) : piece_Of s k = some (16 * s + k) := by
  obtain ⟨n, rfl⟩ := fin16 (by omega) h2
  rcases hs with rfl | rfl
  · rw [of_all0, if_neg (by omega)]; simp
  · rw [of_all1, if_neg (by omega)]; simp
theorem kd_bounds (x : Int) : 0 ≤ kd x ∧ kd x ≤ 15 ∧ kd x ≠ 13 := by
  unfold kd
  split <;> omega
theorem raw_val {k : Int} (h0 : 0 ≤ k) (h1 : k ≤ 15) : piece_Raw k = some (rw_ k) := by
  obtain ⟨n, rfl⟩ := fin16 h0 h1
  exact raw_all n
theorem kd_of {s k : Int} (hs : s = 0 ∨ s = 1) (h1 : 1 ≤ k) (h2 : k ≤ 15) (h3 : k ≠ 13) : kd (16 * s + k) = k := by
  unfold kd
  rw [if_neg (by omega)]
  omega
theorem rw_range {x : Int} (h : kd x ≠ 0) (h8 : kd x ≠ 8) : 1 ≤ rw_ (kd x) ∧ rw_ (kd x) < 8 := by
  have := kd_bounds x
  unfold rw_
  rw [if_neg (by omega)]
  split <;> omega

/-! ### keys -/

def kp (q x : Int) : Int := (key_Piece q x).getD 0
def kh (s k n : Int) : Int := (key_Hand s k n).getD 0
def kside : Int := key_Side.getD 0
theorem kp_val (q x : Int) : key_Piece q x = some (kp q x) := by
  obtain ⟨v, hv⟩ := keyPiece_tot q x
  unfold kp; rw [hv]; rfl
theorem kh_val (s k n : Int) : key_Hand s k n = some (kh s k n) := by
  obtain ⟨v, hv⟩ := keyHand_tot s k n
  unfold kh; rw [hv]; rfl
theorem kside_val : key_Side = some kside := by
  obtain ⟨v, hv⟩ := keySide_tot
  unfold kside; rw [hv]; rfl

/-! ### hands -/

theorem hand_val {s k : Int} (hs : s = 0 ∨ s = 1) (h1 : 1 ≤ k) (h2 : k < 8) (b h : List Int) (S : Int) (by_ sides : List (List Int)) : board_Hand s k b h S by_ sides = some (hd_ h s k) := by
  unfold board_Hand
  have e : (br (decide (k < 1)) (some (0 : Int)) (br (decide (k ≥ 8)) (some 0) (br (inB s 2) (br (inB k 8) (some (conv .i8 .i64 (List.getD h (s.toNat * 8 + k.toNat) 0))) none) none))) = some (hd_ h s k) := by
    rw [br_false (by simp; omega), br_false (by simp; omega), br_true (inB_true (by omega) (by omega)), br_true (inB_true (by omega) (by omega))]
    rfl
  rcases hs with rfl | rfl
  · rw [br_false (by rfl)]; exact e
  · rw [br_true (by rfl), br_false (by rfl)]; exact e

/-! ### what may be done -/

theorem moveCheck_val (f t d : Int) (p : Bool) : ∃ v, move_Check f t d p = some v ∧ (v = 0 → 0 ≤ t ∧ t < 81 ∧ (d ≠ 0 → 0 < d ∧ d < 8 ∧ f = 0 ∧ p = false) ∧ (d = 0 → 0 ≤ f ∧ f < 81 ∧ f ≠ t)) := by
  unfold move_Check
  by_cases h1 : t < 0
  · rw [br_true (by simpa using h1)]; exact ⟨1, rfl, fun h => by cases h⟩
  rw [br_false (by simpa using h1)]
  by_cases h2 : 81 ≤ t
  · rw [br_true (by simpa using h2)]; exact ⟨1, rfl, fun h => by cases h⟩
  rw [br_false (by simpa using h2)]
  by_cases h3 : d = 0
  · rw [br_false (by simpa using h3)]
    by_cases h4 : f < 0
    · rw [br_true (by simpa using h4)]; exact ⟨1, rfl, fun h => by cases h⟩
    rw [br_false (by simpa using h4)]
    by_cases h5 : 81 ≤ f
    · rw [br_true (by simpa using h5)]; exact ⟨1, rfl, fun h => by cases h⟩
    rw [br_false (by simpa using h5)]
    by_cases h6 : f = t
    · rw [br_true (by simpa using h6)]; exact ⟨70, rfl, fun h => by cases h⟩
    · rw [br_false (by simpa using h6)]
      exact ⟨0, rfl, fun _ => ⟨by omega, by omega, fun h => absurd h3 h, fun _ => ⟨by omega, by omega, h6⟩⟩⟩
  · rw [br_true (by simpa using h3)]
    by_cases h4 : d < 0
    · rw [br_true (by simpa using h4)]; exact ⟨70, rfl, fun h => by cases h⟩
    rw [br_false (by simpa using h4)]
    by_cases h5 : 8 ≤ d
    · rw [br_true (by simpa using h5)]; exact ⟨70, rfl, fun h => by cases h⟩
    rw [br_false (by simpa using h5)]
    by_cases h6 : f = 0
    · rw [br_false (by simpa using h6)]
      cases p with
      | true => exact ⟨70, rfl, fun h => by cases h⟩
      | false => exact ⟨0, rfl, fun _ => ⟨by omega, by omega, fun _ => ⟨by omega, by omega, h6, rfl⟩, fun h => absurd h h3⟩⟩
    · rw [br_true (by simpa using h6)]; exact ⟨70, rfl, fun h => by cases h⟩

/-- What may be done, told. -/
structure CanP (b h : List Int) (s f t d : Int) (p : Bool) : Prop where
  to_ : 0 ≤ t ∧ t < 81
  drop : d ≠ 0 → 0 < d ∧ d < 8 ∧ f = 0 ∧ p = false ∧ hd_ h s d > 0 ∧ at_ b t = 0
  move : d = 0 → 0 ≤ f ∧ f < 81 ∧ f ≠ t ∧ sd (at_ b f) = s ∧ sd (at_ b t) ≠ s ∧ kd (at_ b t) ≠ 8 ∧ (p = true → up_ (kd (at_ b f)) ≠ 0)

theorem can_val (b h : List Int) {s : Int} (hs : s = 0 ∨ s = 1) (f t d : Int) (p : Bool) : ∃ c, (∀ K n by_ sides m st, deed_Game_Can f t d p K n b h s by_ sides m st = some c) ∧ (c = true → CanP b h s f t d p) := by
  obtain ⟨v, hv, hv0⟩ := moveCheck_val f t d p
  by_cases hz : v = 0
  · subst hz
    obtain ⟨t0, t1, hd, hm⟩ := hv0 rfl
    have key : ∃ c : Bool, (∀ by_ sides, (br (d != 0)
        (ob (board_Hand s d b h s by_ sides) fun a14 =>
        br (decide (a14 > 0))
         (ob (board_At t b h s by_ sides) fun a15 =>
         some (a15 == 0))
         (some (false)))
        (ob (board_At f b h s by_ sides) fun a14 =>
        ob (board_At t b h s by_ sides) fun a15 =>
        ob (piece_Side a14) fun a16 =>
        br (a16 == s)
         (ob (piece_Side a15) fun a17 =>
         br (a17 != s)
          (ob (piece_Kind a15) fun a18 =>
          br (a18 != 8)
           (br (!p)
            (some (true))
            (ob (piece_Kind a14) fun a19 =>
            ob (piece_Up a19) fun a20 =>
            some (a20 != 0)))
           (some (false)))
          (some (false)))
         (some (false)))) = some c) ∧ (c = true → CanP b h s f t d p) := by
      by_cases hd0 : d = 0
      · subst hd0
        obtain ⟨f0, f1, f2⟩ := hm rfl
        simp only [br_false (show ((0 : Int) != 0) = false from rfl), at_val, ob_some, side_val, kind_val, up_val]
        by_cases g1 : sd (at_ b f) = s
        · rw [br_true (by simpa using g1)]
          by_cases g2 : sd (at_ b t) = s
          · rw [br_false (by simpa using g2)]; exact ⟨false, fun _ _ => rfl, fun h => by cases h⟩
          rw [br_true (by simpa using g2)]
          by_cases g3 : kd (at_ b t) = 8
          · rw [br_false (by simpa using g3)]; exact ⟨false, fun _ _ => rfl, fun h => by cases h⟩
          rw [br_true (by simpa using g3)]
          cases p with
          | false => exact ⟨true, fun _ _ => rfl, fun _ => ⟨⟨t0, t1⟩, fun h => absurd rfl h, fun _ => ⟨f0, f1, f2, g1, g2, g3, fun h => by cases h⟩⟩⟩
          | true => exact ⟨up_ (kd (at_ b f)) != 0, fun _ _ => rfl, fun hu => ⟨⟨t0, t1⟩, fun h => absurd rfl h, fun _ => ⟨f0, f1, f2, g1, g2, g3, fun _ => by simpa using hu⟩⟩⟩
        · rw [br_false (by simpa using g1)]; exact ⟨false, fun _ _ => rfl, fun h => by cases h⟩
      · obtain ⟨d0, d1, d2, d3⟩ := hd hd0
        simp only [br_true (show (d != 0) = true by simpa using hd0), hand_val hs (show 1 ≤ d by omega) d1, at_val, ob_some]
        by_cases g1 : hd_ h s d > 0
        · rw [br_true (by simpa using g1)]
          exact ⟨at_ b t == 0, fun _ _ => rfl, fun g => ⟨⟨t0, t1⟩, fun _ => ⟨d0, d1, d2, d3, g1, by simpa using g⟩, fun h => absurd h hd0⟩⟩
        · rw [br_false (by simpa using g1)]; exact ⟨false, fun _ _ => rfl, fun h => by cases h⟩
    obtain ⟨c, k1, k2⟩ := key
    refine ⟨c, fun K n by_ sides m st => ?_, k2⟩
    unfold deed_Game_Can
    rw [hv, ob_some, br_false (by rfl)]
    rcases hs with rfl | rfl
    · rw [br_false (by rfl)]; exact k1 by_ sides
    · rw [br_true (by rfl), br_false (by rfl)]; exact k1 by_ sides
  · refine ⟨false, fun K n by_ sides m st => ?_, fun h => by cases h⟩
    unfold deed_Game_Can
    rw [hv, ob_some, br_true (by simpa using hz)]

/-! ### steps of a game -/

def kput (K : Int) (b : List Int) (q x : Int) : Int := bitop .xor .u64 K (bitop .xor .u64 (kp q (at_ b q)) (kp q x))
def khand (K : Int) (h : List Int) (s k d : Int) : Int := bitop .xor .u64 K (bitop .xor .u64 (kh s k (hd_ h s k)) (kh s k (IntKind.wrap .i64 (hd_ h s k + d))))
def kturn (K : Int) : Int := bitop .xor .u64 K kside
/-- Hands with one word turned. -/
def hset (h : List Int) (s k d : Int) : List Int := h.set (s.toNat * 8 + k.toNat) (IntKind.wrap .i8 (hd_ h s k + d))

theorem gput_val {b : List Int} (hc : Clean b) (q x K : Int) (n : Nat) (h : List Int) (s : Int) (by_ sides : List (List Int)) (m : Nat) (st : List (List Int)) :
    ∃ by' sides', deed_Game_put q x K n b h s by_ sides m st = some (kput K b q x, n, put b q x, h, s, by', sides', m, st) := by
  obtain ⟨by', sides', hp⟩ := put_val hc q x h s by_ sides
  refine ⟨by', sides', ?_⟩
  unfold deed_Game_put
  simp only [at_val, ob_some, kp_val, hp]
  rfl
theorem ghand_val {s k : Int} (hs : s = 0 ∨ s = 1) (h1 : 1 ≤ k) (h2 : k < 8) (d : Int) (hd : d = 1 ∨ d = -1) (K : Int) (n : Nat) (b h : List Int) (S : Int) (by_ sides : List (List Int)) (m : Nat) (st : List (List Int)) :
    deed_Game_hand s k d K n b h S by_ sides m st = some (khand K h s k d, n, b, hset h s k d, S, by_, sides, m, st) := by
  unfold deed_Game_hand
  have e1 : inB s 2 = true := inB_true (by omega) (by omega)
  have e2 : inB k 8 = true := inB_true (by omega) (by omega)
  have e3 : conv .i64 .i8 d = d := by rcases hd with rfl | rfl <;> rfl
  simp only [hand_val hs h1 h2, ob_some, kh_val, br_true e1, br_true e2, e3]
  rfl
theorem gturn_val {s : Int} (hs : s = 0 ∨ s = 1) (K : Int) (n : Nat) (b h : List Int) (by_ sides : List (List Int)) (m : Nat) (st : List (List Int)) :
    deed_Game_turn K n b h s by_ sides m st = some (kturn K, n, b, h, 1 - s, by_, sides, m, st) := by
  unfold deed_Game_turn
  rw [kside_val, ob_some]
  rcases hs with rfl | rfl <;> rfl

end Go.Kk.Pl
