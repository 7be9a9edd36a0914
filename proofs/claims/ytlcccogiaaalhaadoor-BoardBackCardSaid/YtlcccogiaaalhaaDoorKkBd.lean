/-
  Boards, plainly: pieces, squares, what putting does.
-/
import Derived.Test.YtlcccogiaaalhaaDoorKkTab
namespace Go.Kk.Pl

/-! ### pieces -/

/-- A piece's kind; 0 for none. -/
def kd (x : Int) : Int := if x < 1 ∨ 31 < x ∨ x = 13 ∨ x = 16 ∨ x = 29 then 0 else x % 16
/-- A piece's side; -1 for none. -/
def sd (x : Int) : Int := if kd x = 0 then -1 else if x < 16 then 0 else 1

theorem fin32 {x : Int} (h0 : 0 ≤ x) (h1 : x ≤ 31) : ∃ n : Fin 32, x = ((n.val : Nat) : Int) := ⟨⟨x.toNat, by omega⟩, by simp; omega⟩

theorem kind_all : ∀ n : Fin 32, piece_Kind ((n.val : Nat) : Int) = some (kd ((n.val : Nat) : Int)) := by decide +kernel
theorem refKind_all : ∀ n : Fin 32, ref02_Kind ((n.val : Nat) : Int) = some (kd ((n.val : Nat) : Int)) := by decide +kernel

theorem kind_val (x : Int) : piece_Kind x = some (kd x) := by
  by_cases h0 : 0 ≤ x
  · by_cases h1 : x ≤ 31
    · obtain ⟨n, rfl⟩ := fin32 h0 h1
      exact kind_all n
    · unfold piece_Kind
      rw [br_false (by simp; omega), br_true (by simp; omega), br_false (by simp; omega), br_false (by simp; omega)]
      unfold kd
      rw [if_pos (by omega)]
  · unfold piece_Kind
    rw [br_true (by simp; omega), br_false (by simp; omega), br_false (by simp; omega)]
    unfold kd
    rw [if_pos (by omega)]
theorem refKind_val (x : Int) : ref02_Kind x = some (kd x) := by
  by_cases h0 : 0 ≤ x
  · by_cases h1 : x ≤ 31
    · obtain ⟨n, rfl⟩ := fin32 h0 h1
      exact refKind_all n
    · unfold ref02_Kind
      rw [br_false (by simp; omega), br_true (by simp; omega)]
      unfold kd
      rw [if_pos (by omega)]
  · unfold ref02_Kind
    rw [br_true (by simp; omega)]
    unfold kd
    rw [if_pos (by omega)]

theorem side_val (x : Int) : piece_Side x = some (sd x) := by
  unfold piece_Side
  rw [kind_val, ob_some]
  unfold sd
  by_cases h : kd x = 0
  · rw [br_true (by simp [h]), if_pos h]
  · rw [br_false (by simpa using h), if_neg h]
    by_cases h2 : x < 16
    · rw [br_true (by simpa using h2), if_pos h2]
    · rw [br_false (by simpa using h2), if_neg h2]

theorem kd_zero : kd 0 = 0 := by decide
theorem kd_range {x : Int} (h : kd x ≠ 0) : 1 ≤ x ∧ x ≤ 31 := by
  unfold kd at h
  split at h
  · exact absurd rfl h
  · omega
theorem sd_range {x : Int} (h : kd x ≠ 0) : sd x = 0 ∨ sd x = 1 := by
  unfold sd
  rw [if_neg h]
  split <;> simp

/-! ### sets of squares: that they come to something -/

theorem bit_tot (q : Int) : ∃ p, set_bit q = some p := by
  unfold set_bit
  by_cases h0 : q < 0
  · rw [br_true (by simpa using h0)]; exact ⟨_, rfl⟩
  rw [br_false (by simpa using h0)]
  by_cases h1 : 81 ≤ q
  · rw [br_true (by simpa using h1)]; exact ⟨_, rfl⟩
  rw [br_false (by simpa using h1)]
  by_cases h2 : q < 63
  · rw [br_true (by simpa using h2), br_false (by simp; omega)]; exact ⟨_, rfl⟩
  · rw [br_false (by simpa using h2), wrap_small (by omega) (by omega), br_false (by simp; omega)]; exact ⟨_, rfl⟩
theorem with_tot (x y q : Int) : ∃ p, set_With x y q = some p := by
  unfold set_With
  refine ob_tot ?_ fun ⟨_, _⟩ => ob_tot ?_ fun ⟨_, _⟩ => ⟨_, rfl⟩
  · exact bit_tot q
  · unfold set_Or
    repeat first | exact ⟨_, rfl⟩ | apply br_tot
theorem without_tot (x y q : Int) : ∃ p, set_Without x y q = some p := by
  unfold set_Without
  refine ob_tot ?_ fun ⟨_, _⟩ => ob_tot ?_ fun ⟨_, _⟩ => ⟨_, rfl⟩
  · exact bit_tot q
  · unfold set_Minus
    repeat first | exact ⟨_, rfl⟩ | apply br_tot

/-! ### squares -/

/-- A board whose squares hold pieces or nothing. -/
structure Clean (b : List Int) : Prop where
  len : b.length = 81
  ok : ∀ i, i < 81 → b.getD i 0 = 0 ∨ kd (b.getD i 0) ≠ 0

/-- What lies on a square; nothing off the board. -/
def at_ (b : List Int) (q : Int) : Int := if 0 ≤ q ∧ q < 81 then b.getD q.toNat 0 else 0
/-- A square filled anew. -/
def put (b : List Int) (q x : Int) : List Int := if 0 ≤ q ∧ q < 81 then b.set q.toNat (if kd x = 0 then 0 else x) else b

theorem at_val (q : Int) (b h : List Int) (s : Int) (by_ sides : List (List Int)) : board_At q b h s by_ sides = some (at_ b q) := by
  unfold board_At at_
  by_cases h0 : q < 0
  · rw [br_true (by simpa using h0), if_neg (by omega)]
  · rw [br_false (by simpa using h0)]
    by_cases h1 : 81 ≤ q
    · rw [br_true (by simpa using h1), if_neg (by omega)]
    · rw [br_false (by simpa using h1), br_true (inB_true (by omega) (by omega)), if_pos (by omega)]

theorem Clean.at_ {b : List Int} (hc : Clean b) (q : Int) : at_ b q = 0 ∨ kd (at_ b q) ≠ 0 := by
  unfold Pl.at_
  split
  · exact hc.ok _ (by omega)
  · exact .inl rfl

theorem Clean.put {b : List Int} (hc : Clean b) (q x : Int) : Clean (put b q x) := by
  unfold Pl.put
  split
  · rename_i hq
    refine ⟨by rw [List.length_set]; exact hc.len, fun i hi => ?_⟩
    by_cases hqi : q.toNat = i
    · subst hqi
      rw [List.getD_eq_getElem?_getD, List.getElem?_set_self (by rw [hc.len]; exact hi), Option.getD_some]
      split
      · exact .inl rfl
      · rename_i h; exact .inr h
    · rw [List.getD_eq_getElem?_getD, List.getElem?_set_ne hqi, ← List.getD_eq_getElem?_getD]
      exact hc.ok i hi
  · exact hc

theorem at_put {b : List Int} (hl : b.length = 81) {q : Int} (hq : 0 ≤ q ∧ q < 81) (x p : Int) : at_ (put b q x) p = if p = q then (if kd x = 0 then 0 else x) else at_ b p := by
  unfold at_ put
  rw [if_pos hq]
  by_cases hp : 0 ≤ p ∧ p < 81
  · rw [if_pos hp]
    by_cases hpq : p = q
    · subst hpq
      rw [if_pos rfl, List.getD_eq_getElem?_getD, List.getElem?_set_self (by omega), Option.getD_some]
    · rw [if_neg hpq, if_pos hp, List.getD_eq_getElem?_getD, List.getElem?_set_ne (by omega), ← List.getD_eq_getElem?_getD]
  · rw [if_neg hp, if_neg (fun h : p = q => hp (by subst h; exact hq)), if_neg hp]

theorem put_val {b : List Int} (hc : Clean b) (q x : Int) (h : List Int) (s : Int) (by_ sides : List (List Int)) :
    ∃ by' sides', board_Put q x b h s by_ sides = some (put b q x, h, s, by', sides') := by
  unfold board_Put put
  by_cases h0 : q < 0
  · rw [br_true (by simpa using h0), if_neg (by omega)]
    exact ⟨_, _, rfl⟩
  rw [br_false (by simpa using h0)]
  by_cases h1 : 81 ≤ q
  · rw [br_true (by simpa using h1), if_neg (by omega)]
    exact ⟨_, _, rfl⟩
  rw [br_false (by simpa using h1), br_true (inB_true (by omega) (by omega)), if_pos (by omega)]
  simp only [side_val, kind_val, ob_some]
  have hq81 : inB q 81 = true := inB_true (by omega) (by omega)
  have hb := hc.ok q.toNat (by omega)
  by_cases hz : b.getD q.toNat 0 = 0
  · rw [br_false (by simpa using hz)]
    by_cases hk : kd x = 0
    · rw [br_true (by simpa using hk), br_true hq81, if_pos hk]
      exact ⟨_, _, rfl⟩
    · have hx := kd_range hk
      rw [br_false (by simpa using hk), br_true hq81, br_true (by simp; omega), br_true (inB_true (by omega) (by omega)), if_neg hk]
      obtain ⟨⟨w1, w2⟩, hw⟩ := with_tot (List.headD (List.take 2 (List.getD by_ (Int.toNat x) [])) 0) (List.headD (List.tail (List.take 2 (List.getD by_ (Int.toNat x) []))) 0) q
      obtain ⟨⟨v1, v2⟩, hv⟩ := with_tot (List.headD (List.take 2 (List.getD sides (Int.toNat (sd x)) [])) 0) (List.headD (List.tail (List.take 2 (List.getD sides (Int.toNat (sd x)) []))) 0) q
      have hs : inB (sd x) 2 = true := by rcases sd_range hk with h | h <;> rw [h] <;> rfl
      rw [hw, ob_some]
      simp only
      rw [br_true (inB_true (by omega) (by omega)), br_true hs, hv, ob_some]
      simp only
      rw [br_true hs]
      exact ⟨_, _, rfl⟩
  · have hkb := hb.resolve_left hz
    have hxb := kd_range hkb
    have hsb : inB (sd (b.getD q.toNat 0)) 2 = true := by rcases sd_range hkb with h | h <;> rw [h] <;> rfl
    have hb32 : inB (b.getD q.toNat 0) 32 = true := inB_true (by omega) (by omega)
    rw [br_true (by simpa using hz), br_true hb32]
    obtain ⟨⟨a1, a2⟩, ha⟩ := without_tot (List.headD (List.take 2 (List.getD by_ (Int.toNat (List.getD b (Int.toNat q) 0)) [])) 0) (List.headD (List.tail (List.take 2 (List.getD by_ (Int.toNat (List.getD b (Int.toNat q) 0)) []))) 0) q
    rw [ha, ob_some]
    simp only
    obtain ⟨⟨c1, c2⟩, hcc⟩ := without_tot (List.headD (List.take 2 (List.getD sides (Int.toNat (sd (List.getD b (Int.toNat q) 0))) [])) 0) (List.headD (List.tail (List.take 2 (List.getD sides (Int.toNat (sd (List.getD b (Int.toNat q) 0))) []))) 0) q
    rw [br_true hb32, br_true hsb, hcc, ob_some]
    simp only
    rw [br_true hsb]
    by_cases hk : kd x = 0
    · rw [br_true (by simpa using hk), br_true hq81, if_pos hk]
      exact ⟨_, _, rfl⟩
    · have hx := kd_range hk
      have hs : inB (sd x) 2 = true := by rcases sd_range hk with h | h <;> rw [h] <;> rfl
      rw [br_false (by simpa using hk), br_true hq81, br_true (by simp; omega), br_true (inB_true (by omega) (by omega)), if_neg hk]
      generalize List.set by_ _ _ = by2
      generalize List.set sides _ _ = sides2
      obtain ⟨⟨w1, w2⟩, hw⟩ := with_tot (List.headD (List.take 2 (List.getD by2 (Int.toNat x) [])) 0) (List.headD (List.tail (List.take 2 (List.getD by2 (Int.toNat x) []))) 0) q
      obtain ⟨⟨v1, v2⟩, hv⟩ := with_tot (List.headD (List.take 2 (List.getD sides2 (Int.toNat (sd x)) [])) 0) (List.headD (List.tail (List.take 2 (List.getD sides2 (Int.toNat (sd x)) []))) 0) q
      rw [hw, ob_some]
      simp only
      rw [br_true (inB_true (by omega) (by omega)), br_true hs, hv, ob_some]
      simp only
      rw [br_true hs]
      exact ⟨_, _, rfl⟩

end Go.Kk.Pl
