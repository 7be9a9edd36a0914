/-
  The law KeyTwice, told plainly.
-/
import Derived.Test.YtkgiegkepopcnaaKkKeyXor
namespace Go.Kk.KkKey

theorem getD_set (l : List Int) (i j : Nat) (x : Int) (hj : j < l.length) : (l.set i x).getD j 0 = if i = j then x else l.getD j 0 := by
  rw [List.getD_eq_getElem?_getD, List.getD_eq_getElem?_getD]
  by_cases h : i = j
  · subst h; rw [List.getElem?_set_self hj, if_pos rfl]; rfl
  · rw [List.getElem?_set_ne h, if_neg h]

theorem swap_back (l : List Int) (i j : Nat) (hi : i < l.length) (hj : j < l.length) :
    (((l.set i (l.getD j 0)).set j (l.getD i 0)).set i (((l.set i (l.getD j 0)).set j (l.getD i 0)).getD j 0)).set j (((l.set i (l.getD j 0)).set j (l.getD i 0)).getD i 0) = l := by
  have e1 : ((l.set i (l.getD j 0)).set j (l.getD i 0)).getD j 0 = l.getD i 0 := by rw [getD_set _ _ _ _ (by simpa using hj), if_pos rfl]
  have e2 : ((l.set i (l.getD j 0)).set j (l.getD i 0)).getD i 0 = l.getD j 0 := by
    rw [getD_set _ _ _ _ (by simpa using hi)]
    by_cases h : j = i
    · subst h; rw [if_pos rfl]
    · rw [if_neg h, getD_set _ _ _ _ hi, if_pos rfl]
  rw [e1, e2]
  apply List.ext_getElem
  · simp
  · intro n h1 h2
    have g : ∀ k (hk : k < l.length), l.getD k 0 = l[k] := fun k hk => by rw [List.getD_eq_getElem?_getD, List.getElem?_eq_getElem hk]; rfl
    simp only [List.getElem_set, g i hi, g j hj]
    by_cases a : j = n
    · subst a; simp
    · by_cases b : i = n
      · subst b; simp [a]
      · simp [a, b]

theorem xor_four (x y : B64) : x ^^^ y ^^^ x ^^^ y = 0 := by
  rw [BitVec.xor_assoc x y x, BitVec.xor_comm y x, ← BitVec.xor_assoc x x y, BitVec.xor_self, BitVec.zero_xor, BitVec.xor_self]
  rfl

/-- KeyTwice. -/
theorem keyTwice_true (l h : List Int) (s a b : Int) (hl : l.length = 81) : k8 l h s a b = some true := by
  have same : (ob (k13 l h s) fun r6 => ob (k13 l h s) fun r7 => some (r6 == r7)) = some true := by
    rw [k13_un]; show some (un _ == un _) = _; simp
  unfold k8
  rw [k9_true]
  show br (decide (a < 0)) _ _ = _
  by_cases h0 : a < 0
  · rw [br_true (by simpa using h0)]; exact same
  · rw [br_false (by simpa using h0)]
    by_cases h1 : a > 80
    · rw [br_true (by simpa using h1)]; exact same
    · rw [br_false (by simpa using h1)]
      by_cases h2 : b < 0
      · rw [br_true (by simpa using h2)]; exact same
      · rw [br_false (by simpa using h2)]
        by_cases h3 : b > 80
        · rw [br_true (by simpa using h3)]; exact same
        · rw [br_false (by simpa using h3)]
          have ia : inB a 81 = true := inB_true (by omega) (by omega)
          have ib : inB b 81 = true := inB_true (by omega) (by omega)
          have ha : a.toNat < l.length := by omega
          have hb : b.toNat < l.length := by omega
          have ea : ((a.toNat : Nat) : Int) = a := by omega
          have eb : ((b.toNat : Nat) : Int) = b := by omega
          simp only [br_true ia, br_true ib, k10_un, ob, swap_back l a.toNat b.toNat ha hb, k13_un]
          have k1 := boardB_set (l.set a.toNat (l.getD b.toNat 0)) b.toNat (l.getD a.toNat 0) (by simpa using hb) 81
          rw [if_pos (by omega), boardB_set l a.toNat (l.getD b.toNat 0) ha 81, if_pos (by omega), getD_set _ _ _ _ hb, ea, eb] at k1
          have e0 : (if a.toNat = b.toNat then l.getD b.toNat 0 else l.getD b.toNat 0) = l.getD b.toNat 0 := by split <;> rfl
          rw [e0] at k1
          have hxy : a = b → l.getD a.toNat 0 = l.getD b.toNat 0 := fun h => by rw [h]
          generalize l.getD a.toNat 0 = x at *
          generalize l.getD b.toNat 0 = y at *
          have hk : keyB ((l.set a.toNat y).set b.toNat x) h s ^^^ keyB l h s = pcB a x ^^^ pcB b y ^^^ pcB a y ^^^ pcB b x := by
            have e : keyB ((l.set a.toNat y).set b.toNat x) h s = (pcB a x ^^^ pcB b y ^^^ pcB a y ^^^ pcB b x) ^^^ keyB l h s := by
              unfold keyB
              rw [k1]
              cases s == 1 <;> simp only [cond_true, cond_false] <;> ac_rfl
            rw [e, BitVec.xor_assoc, BitVec.xor_self, BitVec.xor_zero]
          simp only [xor_un, bv_un, un_beq]
          rw [br_true (by simp), br_true (by simp), br_true (by rw [hk]; simp)]
          by_cases hab : a = b
          · rw [br_false (by simpa using hab), ← hab, ← hxy hab, xor_four]
            rfl
          · rw [br_true (by simpa using hab)]
            by_cases e : x = y
            · rw [br_false (by simpa using e), ← e, xor_four]
              rfl
            · rw [br_true (by simpa using e)]
end Go.Kk.KkKey
