/-
  Checked positions, plainly: the cleaned board, counts, what a check that finds nothing tells.
-/
import Derived.Test.YtlcccogiaaalhaaDoorKkBd
namespace Go.Kk.Pl

/-! ### the cleaned board -/

theorem clean_goes (h c d : List Int) (s e : Int) : ∀ (n i : Nat), i + n = 81 → ∀ b : List Int, b.length = 81 → (∀ j, j < i → b.getD j 0 = 0 ∨ kd (b.getD j 0) ≠ 0) →
    ∃ b', Clean b' ∧ ∀ f, ref09_Cleanl2 (f + n + 1) i b h s c d e = some (b', h, s, c, d, e) := by
  intro n
  induction n with
  | zero =>
    intro i hi b hl hb
    refine ⟨b, ⟨hl, fun j hj => hb j (by omega)⟩, fun f => ?_⟩
    show ref09_Cleanl2s (ref09_Cleanl2 (f + 0)) _ _ _ _ _ _ _ = _
    unfold ref09_Cleanl2s
    rw [br_false (by simp; omega)]
  | succ n ih =>
    intro i hi b hl hb
    have hstep : ∀ f, ref09_Cleanl2 (f + (n + 1) + 1) i b h s c d e = ref09_Cleanl2 (f + n + 1) (i + 1 : Nat) (if kd (b.getD i 0) = 0 then b.set i 0 else b) h s c d e := by
      intro f
      show ref09_Cleanl2s (ref09_Cleanl2 (f + n + 1)) _ _ _ _ _ _ _ = _
      unfold ref09_Cleanl2s
      have hz : Int.toNat (i : Int) = i := by simp
      rw [br_true (by simp; omega), br_true (inB_true (by omega) (by omega)), hz, wrap_small (by omega) (by omega)]
      show ob (ref02_Kind (List.getD b i 0)) _ = _
      rw [refKind_val, ob_some]
      by_cases hk : kd (b.getD i 0) = 0
      · rw [br_true (by simpa using hk), br_true (inB_true (by omega) (by omega)), if_pos hk]; rfl
      · rw [br_false (by simpa using hk), if_neg hk]; rfl
    obtain ⟨b', h1, h2⟩ := ih (i + 1) (by omega) (if kd (b.getD i 0) = 0 then b.set i 0 else b) (by split <;> simp [hl]) (by
      intro j hj
      split
      · rename_i hk
        by_cases hji : i = j
        · subst hji
          rw [List.getD_eq_getElem?_getD, List.getElem?_set_self (by omega)]
          exact .inl rfl
        · rw [List.getD_eq_getElem?_getD, List.getElem?_set_ne hji, ← List.getD_eq_getElem?_getD]
          exact hb j (by omega)
      · rename_i hk
        by_cases hji : i = j
        · subst hji; exact .inr hk
        · exact hb j (by omega))
    exact ⟨b', h1, fun f => by rw [hstep]; exact h2 f⟩

theorem clean_val (b h : List Int) (s : Int) (hl : b.length = 81) : ∃ b', Clean b' ∧ ref09_Clean b h s = some (b', h, s) := by
  obtain ⟨g, hg⟩ := many_eq 81 (by omega)
  obtain ⟨b', h1, h2⟩ := clean_goes h (List.replicate 81 0) (List.replicate 16 0) s 0 81 0 (by omega) b hl (fun j hj => by omega)
  refine ⟨b', h1, ?_⟩
  have h2 := h2 g
  rw [← hg] at h2
  unfold ref09_Clean
  have h2 : ref09_Cleanl2 many 0 b h s (List.replicate 81 0) (List.replicate 16 0) 0 = some (b', h, s, List.replicate 81 0, List.replicate 16 0, 0) := h2
  show ob (ref09_Cleanl2 many 0 b h s (List.replicate 81 0) (List.replicate 16 0) 0) _ = _
  rw [h2, ob_some]

/-! ### counts -/

/-- A kind turned back. -/
def rw_ (x : Int) : Int := if x < 1 ∨ 15 < x ∨ x = 13 then 0 else if 8 < x then x - 8 else x
theorem refRaw_val (x : Int) : ref02_Raw x = some (rw_ x) := by
  unfold ref02_Raw rw_
  by_cases h1 : x < 1
  · rw [br_true (by simpa using h1), if_pos (by omega)]
  rw [br_false (by simpa using h1)]
  by_cases h2 : 15 < x
  · rw [br_true (by simpa using h2), if_pos (by omega)]
  rw [br_false (by simpa using h2)]
  by_cases h3 : x = 13
  · rw [br_true (by simpa using h3), if_pos (by omega)]
  rw [br_false (by simpa using h3), if_neg (by omega)]
  by_cases h4 : 8 < x
  · rw [br_true (by simpa using h4), if_pos h4, wrap_small (by omega) (by omega)]
  · rw [br_false (by simpa using h4), if_neg h4]

/-- How many squares hold a kind, turned back. -/
def cnt (l : List Int) (k : Int) : Nat := l.countP fun x => rw_ (kd x) == k

theorem count_goes (b h : List Int) (s k : Int) (hl : b.length = 81) : ∀ (n i : Nat), i + n = 81 → ∀ acc : Int, 0 ≤ acc → acc ≤ i → ∀ f,
    ref05_Countl3 (f + n + 1) k acc i b h s = some (k, acc + cnt (b.drop i) k, b, h, s) := by
  intro n
  induction n with
  | zero =>
    intro i hi acc _ _ f
    show ref05_Countl3s (ref05_Countl3 (f + 0)) _ _ _ _ _ _ = _
    unfold ref05_Countl3s
    rw [br_false (by simp; omega), List.drop_eq_nil_of_le (by omega)]
    simp [cnt]
  | succ n ih =>
    intro i hi acc ha0 ha1 f
    show ref05_Countl3s (ref05_Countl3 (f + n + 1)) _ _ _ _ _ _ = _
    unfold ref05_Countl3s
    have hz : Int.toNat (i : Int) = i := by simp
    rw [br_true (by simp; omega), br_true (inB_true (by omega) (by omega)), hz, wrap_small (by omega) (by omega), wrap_small (by omega) (by omega)]
    show ob (ref02_Kind (List.getD b i 0)) _ = _
    rw [refKind_val, ob_some, refRaw_val, ob_some]
    have hd : b.drop i = b.getD i 0 :: b.drop (i + 1) := by
      rw [List.drop_eq_getElem_cons (by omega), List.getD_eq_getElem?_getD, List.getElem?_eq_getElem (by omega)]
      rfl
    rw [hd]
    unfold cnt
    rw [List.countP_cons]
    cases hb : rw_ (kd (b.getD i 0)) == k with
    | true =>
      rw [br_true rfl]
      refine (ih (i + 1) (by omega) (acc + 1) (by omega) (by omega) f).trans ?_
      simp [cnt]; omega
    | false =>
      rw [br_false rfl]
      refine (ih (i + 1) (by omega) acc (by omega) (by omega) f).trans ?_
      simp [cnt]

/-- What lies in hand. -/
def hd_ (h : List Int) (s k : Int) : Int := h.getD (s.toNat * 8 + k.toNat) 0
/-- Hands that fit their words. -/
def Fits8 (h : List Int) : Prop := ∀ i, -128 ≤ h.getD i 0 ∧ h.getD i 0 ≤ 127

theorem cnt_le {b : List Int} (hl : b.length = 81) (k : Int) : cnt b k ≤ 81 := by rw [← hl]; exact List.countP_le_length

theorem count_val {b h : List Int} (hl : b.length = 81) (hf : Fits8 h) (s k : Int) (h0 : 0 ≤ k) (h1 : k < 8) : ref05_Count b h s k = some (cnt b k + hd_ h 0 k + hd_ h 1 k) := by
  obtain ⟨g, hg⟩ := many_eq 81 (by omega)
  have hc := count_goes b h s k hl 81 0 (by omega) 0 (by omega) (by omega) g
  rw [← hg] at hc
  have hc : ref05_Countl3 many k 0 0 b h s = some (k, (0 : Int) + (cnt b k : Int), b, h, s) := hc
  unfold ref05_Count
  rw [hc, ob_some]
  simp only
  rw [br_true (inB_true h0 (by omega)), br_true (inB_true h0 (by omega))]
  have e1 := hf (0 + k.toNat)
  have e2 := hf (8 + k.toNat)
  have e3 := cnt_le hl k
  have c1 : conv .i8 .i64 (List.getD h (0 + k.toNat) 0) = List.getD h (0 + k.toNat) 0 := rfl
  have c2 : conv .i8 .i64 (List.getD h (8 + k.toNat) 0) = List.getD h (8 + k.toNat) 0 := rfl
  rw [c1, c2, wrap_small (n := 0 + (cnt b k : Int) + _) (by omega) (by omega), wrap_small (by omega) (by omega)]
  unfold hd_
  simp

end Go.Kk.Pl
