/-
  Boards with their sets, plainly: the sets are those of the squares.
-/
import Derived.Test.YtlcccogiaaalhaaDoorKkCnt
import Derived.Test.YtlcccogiaaalhaaDoorKkBd
namespace Go.Kk.Pl

/-- A set as its two words. -/
def prS (f : Nat → Bool) : List Int := [sLo f, sHi f]
theorem prS_congr {f g : Nat → Bool} (h : ∀ i, i < 81 → f i = g i) : prS f = prS g := by
  obtain ⟨h1, h2⟩ := set_congr h
  unfold prS; rw [h1, h2]

/-- Where a piece stands; where a side's pieces stand. -/
def pcs (b : List Int) (x : Int) (i : Nat) : Bool := decide (x ≠ 0 ∧ b.getD i 0 = x)
def sds (b : List Int) (s : Int) (i : Nat) : Bool := decide (sd (b.getD i 0) = s)
def byOf (b : List Int) : List (List Int) := (List.range 32).map fun (x : Nat) => prS (pcs b x)
def sidesOf (b : List Int) : List (List Int) := (List.range 2).map fun (s : Nat) => prS (sds b s)

theorem map_set {α : Type} (G : Nat → α) (n k : Nat) (v : α) : ((List.range n).map G).set k v = (List.range n).map fun j => if j = k then v else G j := by
  apply List.ext_getElem
  · simp
  · intro i h1 h2
    simp only [List.length_set, List.length_map, List.length_range] at h1
    rw [List.getElem_set]
    simp only [List.getElem_map, List.getElem_range]
    by_cases h : k = i
    · simp [h]
    · simp [h, Ne.symm h]
theorem map_getD {α : Type} (G : Nat → α) {n k : Nat} (h : k < n) (d : α) : ((List.range n).map G).getD k d = G k := by
  rw [List.getD_eq_getElem?_getD, List.getElem?_map, List.getElem?_range h]; rfl
theorem by_get (b : List Int) {x : Int} (h0 : 0 ≤ x) (h1 : x < 32) : (byOf b).getD x.toNat [] = prS (pcs b x) := by
  unfold byOf
  rw [map_getD _ (by omega), show ((x.toNat : Nat) : Int) = x by omega]
theorem sides_get (b : List Int) {s : Int} (h0 : 0 ≤ s) (h1 : s < 2) : (sidesOf b).getD s.toNat [] = prS (sds b s) := by
  unfold sidesOf
  rw [map_getD _ (by omega), show ((s.toNat : Nat) : Int) = s by omega]
theorem prS_hd (f : Nat → Bool) : List.headD (List.take 2 (prS f)) 0 = sLo f := rfl
theorem prS_tl (f : Nat → Bool) : List.headD (List.tail (List.take 2 (prS f))) 0 = sHi f := rfl
theorem prS_mk (f : Nat → Bool) (g : Nat → Bool) : sLo f :: sHi f :: List.drop 2 (prS g) = prS f := rfl

theorem sd_zero : sd 0 = -1 := by decide
theorem sd_none {x : Int} (h : kd x = 0) : sd x = -1 := by unfold sd; rw [if_pos h]

theorem getD_set {b : List Int} {q : Nat} (hq : q < b.length) (x : Int) (i : Nat) : (b.set q x).getD i 0 = if i = q then x else b.getD i 0 := by
  rw [List.getD_eq_getElem?_getD]
  by_cases h : i = q
  · subst h; rw [List.getElem?_set_self hq, if_pos rfl]; rfl
  · rw [List.getElem?_set_ne (Ne.symm h), if_neg h, List.getD_eq_getElem?_getD]

theorem by_set {b b' : List Int} {F : Nat → Bool} {x : Int} (h0 : 0 ≤ x) (h : ∀ j : Nat, j < 32 → ∀ i, i < 81 → (if (j : Int) = x then F i else pcs b j i) = pcs b' j i) : List.set (byOf b) x.toNat (prS F) = byOf b' := by
  unfold byOf
  rw [map_set]
  apply List.map_congr_left
  intro j hj
  simp only [List.mem_range] at hj
  have h := h j hj
  split
  · rename_i hjx
    exact prS_congr fun i hi => by rw [← h i hi, if_pos (by omega)]
  · rename_i hjx
    exact prS_congr fun i hi => by rw [← h i hi, if_neg (by omega)]
theorem sides_set {b b' : List Int} {F : Nat → Bool} {x : Int} (h0 : 0 ≤ x) (h : ∀ j : Nat, j < 2 → ∀ i, i < 81 → (if (j : Int) = x then F i else sds b j i) = sds b' j i) : List.set (sidesOf b) x.toNat (prS F) = sidesOf b' := by
  unfold sidesOf
  rw [map_set]
  apply List.map_congr_left
  intro j hj
  simp only [List.mem_range] at hj
  have h := h j hj
  split
  · rename_i hjx
    exact prS_congr fun i hi => by rw [← h i hi, if_pos (by omega)]
  · rename_i hjx
    exact prS_congr fun i hi => by rw [← h i hi, if_neg (by omega)]

section
variable {b : List Int} {q : Int} (hq0 : 0 ≤ q) (hql : q.toNat < b.length)
include hq0 hql

theorem by_with (hz : b.getD q.toNat 0 = 0) {x : Int} (hx : 1 ≤ x) : List.set (byOf b) x.toNat (prS fun i => pcs b x i || only q i) = byOf (b.set q.toNat x) := by
  refine by_set (by omega) fun j hj i hi => ?_
  unfold pcs only
  rw [getD_set hql, Bool.eq_iff_iff]
  by_cases hi : i = q.toNat
  · subst hi
    rw [hz]
    split <;> simp <;> omega
  · have : ¬ (i : Int) = q := by omega
    split
    · rename_i hjx
      simp [hi, this, hjx]
    · simp [hi]
theorem sides_with (hz : b.getD q.toNat 0 = 0) {x : Int} (hx : sd x = 0 ∨ sd x = 1) : List.set (sidesOf b) (sd x).toNat (prS fun i => sds b (sd x) i || only q i) = sidesOf (b.set q.toNat x) := by
  refine sides_set (by omega) fun j hj i hi => ?_
  unfold sds only
  rw [getD_set hql, Bool.eq_iff_iff]
  by_cases hi : i = q.toNat
  · subst hi
    rw [hz, sd_zero]
    split <;> simp <;> omega
  · have : ¬ (i : Int) = q := by omega
    split
    · rename_i hjx
      simp [hi, this, hjx]
    · simp [hi]
theorem by_without {x : Int} (hz : b.getD q.toNat 0 = x) (hx : 1 ≤ x) : List.set (byOf b) x.toNat (prS fun i => pcs b x i && !only q i) = byOf (b.set q.toNat 0) := by
  refine by_set (by omega) fun j hj i hi => ?_
  unfold pcs only
  rw [getD_set hql, Bool.eq_iff_iff]
  by_cases hi : i = q.toNat
  · subst hi
    rw [hz]
    split <;> simp <;> omega
  · have : ¬ (i : Int) = q := by omega
    split
    · rename_i hjx
      simp [hi, this, hjx]
    · simp [hi]
theorem sides_without {x : Int} (hz : b.getD q.toNat 0 = x) (hx : sd x = 0 ∨ sd x = 1) : List.set (sidesOf b) (sd x).toNat (prS fun i => sds b (sd x) i && !only q i) = sidesOf (b.set q.toNat 0) := by
  refine sides_set (by omega) fun j hj i hi => ?_
  unfold sds only
  rw [getD_set hql, Bool.eq_iff_iff]
  by_cases hi : i = q.toNat
  · subst hi
    rw [hz, if_pos rfl, sd_zero]
    split <;> simp <;> omega
  · have : ¬ (i : Int) = q := by omega
    split
    · rename_i hjx
      simp [hi, this, hjx]
    · simp [hi]
end

theorem put_full {b : List Int} (hc : Clean b) (q x : Int) (h : List Int) (s : Int) :
    board_Put q x b h s (byOf b) (sidesOf b) = some (put b q x, h, s, byOf (put b q x), sidesOf (put b q x)) := by
  unfold board_Put put
  by_cases h0 : q < 0
  · rw [br_true (by simpa using h0), if_neg (by omega)]
  rw [br_false (by simpa using h0)]
  by_cases h1 : 81 ≤ q
  · rw [br_true (by simpa using h1), if_neg (by omega)]
  rw [br_false (by simpa using h1), br_true (inB_true (by omega) (by omega)), if_pos (by omega)]
  simp only [side_val, kind_val, ob_some]
  have hq81 : inB q 81 = true := inB_true (by omega) (by omega)
  have hb := hc.ok q.toNat (by omega)
  have hql : q.toNat < b.length := by rw [hc.len]; omega
  -- what is put where nothing stands
  have key : ∀ (b : List Int), q.toNat < b.length → b.getD q.toNat 0 = 0 → (br (kd x == 0)
      (br (inB q 81) (some (List.set b q.toNat 0, h, s, byOf b, sidesOf b)) none)
      (br (inB q 81) (br (x != 0) (br (inB x 32) (ob (set_With (List.headD (List.take 2 (List.getD (byOf b) x.toNat [])) 0) (List.headD (List.tail (List.take 2 (List.getD (byOf b) x.toNat []))) 0) q) fun z =>
        br (inB x 32) (br (inB (sd x) 2) (ob (set_With (List.headD (List.take 2 (List.getD (sidesOf b) (sd x).toNat [])) 0) (List.headD (List.tail (List.take 2 (List.getD (sidesOf b) (sd x).toNat []))) 0) q) fun y =>
          br (inB (sd x) 2) (some (List.set b q.toNat x, h, s, List.set (byOf b) x.toNat (z.1 :: z.2 :: List.drop 2 (List.getD (byOf b) x.toNat [])), List.set (sidesOf b) (sd x).toNat (y.1 :: y.2 :: List.drop 2 (List.getD (sidesOf b) (sd x).toNat [])))) none) none) none) none)
        (some (List.set b q.toNat x, h, s, byOf b, sidesOf b))) none)) =
      some (b.set q.toNat (if kd x = 0 then 0 else x), h, s, byOf (b.set q.toNat (if kd x = 0 then 0 else x)), sidesOf (b.set q.toNat (if kd x = 0 then 0 else x))) := by
    intro b hql hz
    by_cases hk : kd x = 0
    · rw [br_true (by simpa using hk), br_true hq81, if_pos hk]
      have : b.set q.toNat 0 = b := by
        apply List.ext_getElem
        · rw [List.length_set]
        · intro i i1 i2
          rw [List.getElem_set]
          split
          · rename_i hi
            rw [List.getD_eq_getElem?_getD, List.getElem?_eq_getElem hql] at hz
            subst hi
            exact hz.symm
          · rfl
      rw [this]
    · have hx := kd_range hk
      have hsd := sd_range hk
      have hs : inB (sd x) 2 = true := by rcases hsd with h | h <;> rw [h] <;> rfl
      rw [br_false (by simpa using hk), br_true hq81, br_true (by simp; omega), br_true (inB_true (by omega) (by omega)), if_neg hk, by_get b (by omega) (by omega),
        prS_hd, prS_tl, with_val, ob_some]
      simp only
      rw [br_true (inB_true (by omega) (by omega)), br_true hs, sides_get b (by omega) (by omega), prS_hd, prS_tl, with_val, ob_some]
      simp only
      rw [br_true hs, prS_mk, prS_mk, by_with (by omega) hql hz hx.1, sides_with (by omega) hql hz hsd]
  by_cases hz : b.getD q.toNat 0 = 0
  · rw [br_false (by simpa using hz)]
    exact key b hql hz
  · have hkb := hb.resolve_left hz
    have hxb := kd_range hkb
    have hsdb := sd_range hkb
    have hsb : inB (sd (b.getD q.toNat 0)) 2 = true := by rcases sd_range hkb with h | h <;> rw [h] <;> rfl
    have hb32 : inB (b.getD q.toNat 0) 32 = true := inB_true (by omega) (by omega)
    rw [br_true (by simpa using hz), br_true hb32, by_get b (by omega) (by omega), prS_hd, prS_tl, without_val, ob_some]
    simp only
    rw [br_true hb32, br_true hsb, sides_get b (by omega) (by omega), prS_hd, prS_tl, without_val, ob_some]
    simp only
    rw [br_true hsb, prS_mk, prS_mk, by_without (by omega) hql rfl hxb.1, sides_without (by omega) hql rfl hsdb]
    have := key (b.set q.toNat 0) (by simpa using hql) (by rw [getD_set hql, if_pos rfl])
    rw [List.set_set] at this
    simp only [List.set_set] at this
    exact this

/-! ### a new board -/

/-- Squares without what is no piece. -/
def cl1 (x : Int) : Int := if kd x = 0 then 0 else x
def cl (b : List Int) : List Int := b.map cl1

theorem cl_getD (b : List Int) (i : Nat) : (cl b).getD i 0 = cl1 (b.getD i 0) := by
  unfold cl
  rw [List.getD_eq_getElem?_getD, List.getElem?_map, List.getD_eq_getElem?_getD]
  cases b[i]? <;> rfl
theorem cl_len (b : List Int) : (cl b).length = b.length := by simp [cl]
theorem cl_clean {b : List Int} (hl : b.length = 81) : Clean (cl b) := ⟨by rw [cl_len, hl], fun i _ => by
  rw [cl_getD]
  unfold cl1
  split
  · exact .inl rfl
  · rename_i h; exact .inr h⟩
theorem cl_id {b : List Int} (hc : Clean b) : cl b = b := by
  apply List.ext_getElem
  · exact cl_len b
  · intro i h1 h2
    have := hc.ok i (by rw [← hc.len]; exact h2)
    rw [List.getD_eq_getElem?_getD, List.getElem?_eq_getElem h2] at this
    simp only [Option.getD_some] at this
    simp only [cl, List.getElem_map, cl1]
    split
    · rename_i hk
      rcases this with h | h
      · exact h.symm
      · exact absurd hk h
    · rfl

theorem new_goes_full {b : List Int} (hl : b.length = 81) (h : List Int) (s : Int) : ∀ (n i : Nat), i + n = 81 → ∀ (B : List Int), Clean B → (∀ j, j < i → B.getD j 0 = cl1 (b.getD j 0)) →
    ∀ f, board_Newl4 (f + n + 1) b i B h s (byOf B) (sidesOf B) = some (cl b, h, s, byOf (cl b), sidesOf (cl b)) := by
  intro n
  induction n with
  | zero =>
    intro i hi B hB hj f
    have : B = cl b := by
      apply List.ext_getElem
      · rw [hB.len, cl_len, hl]
      · intro j h1 h2
        have := hj j (by rw [hB.len] at h1; omega)
        rw [← cl_getD, List.getD_eq_getElem?_getD, List.getElem?_eq_getElem h1, List.getD_eq_getElem?_getD, List.getElem?_eq_getElem h2] at this
        exact this
    subst this
    show board_Newl4s (board_Newl4 (f + 0)) _ _ _ _ _ _ _ = _
    unfold board_Newl4s
    rw [br_false (by simp; omega)]
  | succ n ih =>
    intro i hi B hB hj f
    show board_Newl4s (board_Newl4 (f + n + 1)) _ _ _ _ _ _ _ = _
    unfold board_Newl4s
    rw [br_true (by simp; omega), br_true (inB_true (by omega) (by omega))]
    simp only [cond_true]
    rw [put_full hB, ob_some]
    simp only
    rw [wrap_small (by omega) (by omega)]
    refine ih (i + 1) (by omega) _ (hB.put _ _) (fun j hj' => ?_) f
    unfold put
    rw [if_pos (by omega), getD_set (by rw [hB.len]; omega)]
    by_cases hji : j = i
    · subst hji
      rw [if_pos (by simp)]
      rfl
    · rw [if_neg (by simp; exact hji), hj j (by omega)]

theorem clean_zero' : Clean (List.replicate 81 0) := ⟨by simp, fun i hi => .inl (by rw [List.getD_eq_getElem?_getD, List.getElem?_replicate, if_pos hi]; rfl)⟩
theorem byOf_zero : byOf (List.replicate 81 0) = List.replicate 32 [0, 0] := by decide +kernel
theorem sidesOf_zero : sidesOf (List.replicate 81 0) = [[0, 0], [0, 0]] := by decide +kernel

theorem new_full {b : List Int} (hl : b.length = 81) (h : List Int) (s : Int) : board_New b h s = some (cl b, h, s, byOf (cl b), sidesOf (cl b)) := by
  have hz := new_goes_full hl h s 81 0 (by omega) _ clean_zero' (fun j hj => absurd hj (by omega))
  obtain ⟨g, hg⟩ := many_eq 81 (by omega)
  have := hz g
  rw [← hg, byOf_zero, sidesOf_zero] at this
  unfold board_New
  show ob (board_Newl4 many b 0 (List.replicate 81 0) h s (List.replicate 32 [0, 0]) [[0, 0], [0, 0]]) _ = _
  rw [show board_Newl4 many b 0 (List.replicate 81 0) h s (List.replicate 32 [0, 0]) [[0, 0], [0, 0]] = _ from this, ob_some]

end Go.Kk.Pl
