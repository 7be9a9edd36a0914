/-
  The law DeedKeys, told plainly.
-/
import Derived.Test.YtjlgnglacdhflaaKkKxor
namespace Go.Kk.Pl

/-- What is known of a game that goes on. -/
structure Going (b h : List Int) (s : Int) : Prop where
  sound : Sound b h s
  fits : Fits8 h
  len : h.length = 16
theorem going_make {b h : List Int} {s : Int} (hg : Going b h s) {f t d : Int} {p : Bool} (hP : CanP b h s f t d p) : Going (mb b s f t d p) (mh b h s t d) (1 - s) :=
  ⟨sound_make hg.sound hg.fits hg.len hP, mh_fits hg.fits b s t d, mh_len hg.len b s t d⟩

theorem keys_goes (xs : List (List Int)) (N : Nat) (hN : N ≤ 100) (x4 : Nat) : ∀ (n i : Nat), i + n = N → ∀ (b h : List Int) (s : Int), Going b h s → ∀ (n0 : Nat), n0 ≤ i → ∀ by_ sides m st,
    ∀ f, law09_DeedKeysl8 (f + n + 1) 0 N N i x4 xs (kof b h s) n0 b h s by_ sides m st = some (.inr (x4, xs)) := by
  intro n
  induction n with
  | zero =>
    intro i hi b h s hg n0 hn0 by_ sides m st f
    show law09_DeedKeysl8s (law09_DeedKeysl8 (f + 0)) _ _ _ _ _ _ _ _ _ _ _ _ _ _ _ = _
    unfold law09_DeedKeysl8s
    rw [br_false (by simp; omega)]
  | succ n ih =>
    intro i hi b h s hg n0 hn0 by_ sides m st f
    show law09_DeedKeysl8s (law09_DeedKeysl8 (f + n + 1)) _ _ _ _ _ _ _ _ _ _ _ _ _ _ _ = _
    unfold law09_DeedKeysl8s
    rw [br_true (by simp; omega), br_true (inB_true (by omega) (by omega))]
    have tail : ∀ (b h : List Int) (s : Int), Going b h s → ∀ (n0 : Nat), n0 ≤ i + 1 → ∀ by_ sides m st,
        (ob (deed_Game_Key (kof b h s) n0 b h s by_ sides m st) fun a46 =>
         ob (key_Of b h s) fun a47 =>
         br (a46 != a47)
          (some (Sum.inl (false, x4, xs)))
          (ob (board_New b h s) fun (a48_0, a48_1, a48_2, _, _) =>
          br (!(b == a48_0 && (h == a48_1 && s == a48_2)))
           (some (Sum.inl (false, x4, xs)))
           (law09_DeedKeysl8 (f + n + 1) 0 N N (IntKind.wrap IntKind.i64 ((i : Int) + 1)) x4 xs (kof b h s) n0 b h s by_ sides m st))) = some (.inr (x4, xs)) := by
      intro b h s hg n0 hn0 by_ sides m st
      have e : deed_Game_Key (kof b h s) n0 b h s by_ sides m st = some (kof b h s) := rfl
      obtain ⟨by1, sides1, hb⟩ := bnew_val hg.sound.clean h s
      rw [e, ob_some, kof_val, ob_some, br_false (by simp), hb, ob_some]
      simp only
      rw [br_false (by simp), wrap_small (by omega) (by omega)]
      exact ih (i + 1) (by omega) b h s hg n0 (by omega) by_ sides m st f
    obtain ⟨c, _, hm⟩ := make_val hg.sound.clean h hg.sound.side
      (List.headD (List.take 4 (List.getD xs (0 + Int.toNat (i : Int)) [])) 0) (List.headD (List.tail (List.take 4 (List.getD xs (0 + Int.toNat (i : Int)) []))) 0)
      (List.headD (List.tail (List.tail (List.take 4 (List.getD xs (0 + Int.toNat (i : Int)) [])))) 0) (List.headD (List.tail (List.tail (List.tail (List.take 4 (List.getD xs (0 + Int.toNat (i : Int)) []))))) 0 != 0)
    rcases hm with ⟨_, hm⟩ | ⟨_, hP, hm⟩
    · rw [hm, ob_some, sw_inl]
      exact tail b h s hg n0 (by omega) by_ sides m st
    · obtain ⟨by', sides', hm⟩ := hm (kof b h s) n0 by_ sides m st (by omega)
      rw [hm, ob_some, sw_inr]
      simp only
      rw [mkey_val hg.sound hg.fits hg.len hP]
      exact tail _ _ _ (going_make hg hP) (n0 + 1) (by omega) by' sides' _ _

theorem deedKeys_true {b h : List Int} (hl : b.length = 81) (hf : Fits8 h) (hh : h.length = 16) (s : Int) (xs : List (List Int)) (x5 : Nat) : law09_DeedKeys b h s 0 xs.length x5 xs = some true := by
  unfold law09_DeedKeys
  rw [makes_true, ob_some, br_false (by rfl)]
  obtain ⟨b1, hc, h1⟩ := clean_val b h s hl
  rw [h1, ob_some]
  simp only
  obtain ⟨v, hv, hv0⟩ := check_val hc hf s
  rw [hv, ob_some]
  by_cases hz : v = 0
  · have hS := hv0 hz
    rw [br_false (by simpa using hz)]
    by_cases hn : xs.length ≤ 100
    · rw [br_false (by simp; omega)]
      obtain ⟨by_, sides, hnew⟩ := gnew_val hc h s
      rw [hnew, ob_some]
      simp only
      obtain ⟨g, hg⟩ := many_eq xs.length (by omega)
      have h3 := keys_goes xs xs.length hn x5 xs.length 0 (by omega) b1 h s ⟨hS, hf, hh⟩ 0 (by omega) by_ sides 0 [] g
      rw [← hg] at h3
      have h3 : law09_DeedKeysl8 many 0 xs.length (Int.ofNat xs.length) 0 x5 xs (kof b1 h s) 0 b1 h s by_ sides 0 [] = some (.inr (x5, xs)) := h3
      rw [h3, ob_some, sw_inr]
    · rw [br_true (by simp; omega)]
  · rw [br_true (by simpa using hz)]

end Go.Kk.Pl
