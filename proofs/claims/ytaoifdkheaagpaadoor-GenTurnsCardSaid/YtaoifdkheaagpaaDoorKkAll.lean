/-
  All moves of the pieces: the lists that 'gen' makes, and those of the document.
-/
import Derived.Test.YtaoifdkheaagpaaDoorKkFree
namespace Go.Kk.Pl

theorem b_leN {α : Type} {x y : α} {a b : Nat} (h : a ≤ b) : br (decide (a ≤ b)) x y = x := br_true (by simpa using h)
theorem tkA {α : Type} {n : Nat} {L : List α} (h : n = L.length) (M : List α) : List.append (List.take n L) M = L ++ M := by
  subst h; rw [List.take_length]; rfl
theorem tkA2 {α : Type} {n : Nat} {L : List α} {m : α} (h : n = L.length) (M : List α) : List.append (List.take (n + 1) (L ++ [m])) M = L ++ m :: M := by
  rw [tkA (by simp [h])]; simp

/-- The one or two moves of a piece from a square to another one. -/
def one2 (x f t : Int) : List (List Int) := (if mustS x t then [] else [[f, t, 0, 0]]) ++ (if mayS x f t then [[f, t, 0, 1]] else [])
theorem one2_len (x f t : Int) : (one2 x f t).length ≤ 2 := by
  unfold one2; split <;> split <;> simp

theorem flatLen {α β : Type} (g : α → List β) (k : Nat) (L : List α) (h : ∀ a ∈ L, (g a).length ≤ k) : (L.flatMap g).length ≤ k * L.length := by
  induction L with
  | nil => simp
  | cons a L ih =>
    rw [List.flatMap_cons, List.length_append, List.length_cons, Nat.mul_succ]
    have := h a (by simp)
    have := ih fun x hx => h x (by simp [hx])
    omega

theorem toBoard_goes (x f : Int) (T : List Int) (S : Int) (N1 : Nat) (a5 a6 : Int) (b h : List Int) (S' : Int) (by' sd' : List (List Int)) (u v k1 k2 : Int) (N2 : Nat) (L2 : List Int) (N3 : Nat) (hT : T.length ≤ 1000) : ∀ (n i : Nat), i + n = T.length → ∀ (L : List (List Int)) (x0 x17 : Nat), x0 = L.length → x17 = L.length → L.length ≤ 1000000 - 2 * n → ∀ F,
    gen_Boardl9 (F + n + 1) x0 S f x N1 a5 a6 T.length T.length i b h S' by' sd' u v x17 L k1 k2 N2 L2 N3 T =
      some ((L ++ (T.drop i).flatMap (one2 x f)).length, S, N1, a5, a6, b, h, S', by', sd', u, v, (L ++ (T.drop i).flatMap (one2 x f)).length, L ++ (T.drop i).flatMap (one2 x f), k1, k2, N2, L2) := by
  intro n
  induction n with
  | zero =>
    intro i hi L x0 x17 h0 h17 hb F
    show gen_Boardl9s (gen_Boardl9 (F + 0)) _ _ _ _ _ _ _ _ _ _ _ _ _ _ _ _ _ _ _ _ _ _ _ _ _ = _
    unfold gen_Boardl9s
    rw [b_nlt (by omega), List.drop_eq_nil_of_le (by omega)]
    simp only [List.flatMap_nil, List.append_nil, h0, h17]
  | succ n ih =>
    intro i hi L x0 x17 h0 h17 hb F
    show gen_Boardl9s (gen_Boardl9 (F + n + 1)) _ _ _ _ _ _ _ _ _ _ _ _ _ _ _ _ _ _ _ _ _ _ _ _ _ = _
    unfold gen_Boardl9s
    have hil : i < T.length := by omega
    have hget : T.getD i 0 = T[i] := at_i hil
    have hd : T.drop i = T[i] :: T.drop (i + 1) := List.drop_eq_getElem_cons hil
    rw [b_lt (by omega), b_in (by omega) (by omega), tn, hget, promotes_val, ob_some]
    simp only
    rw [w_s (by omega) (by omega), hd, List.flatMap_cons, ← List.append_assoc]
    rw [tkA h0, tkA h0, tkA2 h0]
    have hi1 : i + 1 + n = T.length := by omega
    have ih' := ih (i + 1) hi1
    cases hm : mustS x T[i] with
    | false =>
      rw [Bool.not_false, b_t, b_leN (by omega)]
      cases hy : mayS x f T[i] with
      | true =>
        rw [b_t, b_leN (by omega)]
        have := ih' (L ++ one2 x f T[i]) (x0 + 1 + 1) (x0 + 1 + 1) (by simp [one2, hm, hy, h0]) (by simp [one2, hm, hy, h0]) (by simp [one2, hm, hy]; omega) F
        rw [← this]
        simp [one2, hm, hy]
      | false =>
        rw [b_f]
        have := ih' (L ++ one2 x f T[i]) (x0 + 1) (x0 + 1) (by simp [one2, hm, hy, h0]) (by simp [one2, hm, hy, h0]) (by simp [one2, hm, hy]; omega) F
        rw [← this]
        simp [one2, hm, hy]
    | true =>
      rw [Bool.not_true, b_f]
      cases hy : mayS x f T[i] with
      | true =>
        rw [b_t, b_leN (by omega)]
        have := ih' (L ++ one2 x f T[i]) (x0 + 1) (x0 + 1) (by simp [one2, hm, hy, h0]) (by simp [one2, hm, hy, h0]) (by simp [one2, hm, hy]; omega) F
        rw [← this]
        simp [one2, hm, hy]
      | false =>
        rw [b_f]
        have := ih' (L ++ one2 x f T[i]) x0 x17 (by simp [one2, hm, hy, h0]) (by simp [one2, hm, hy, h17]) (by simp [one2, hm, hy]; omega) F
        rw [← this]
        simp [one2, hm, hy]

/-- The kings. -/
def kgs (b : List Int) (c : Nat) : Bool := pcs b (pc 0 8) c || pcs b (pc 1 8) c
/-- Where the piece on a square may go, in a set. -/
def goesS (b : List Int) (S : Int) (G : Nat → Bool) (f : Nat) (c : Nat) : Bool := ((rch (b.getD f 0) f c (tk b) && !sdP b S c) && !kgs b c) && G c
/-- The moves of the pieces on the board. -/
def mvsF (b : List Int) (S : Int) (G : Nat → Bool) (f : Int) : List (List Int) := (sq (goesS b S G f.toNat)).flatMap (one2 (b.getD f.toNat 0) f)
def mvsB (b : List Int) (S : Int) (G : Nat → Bool) : List (List Int) := (sq (sdP b S)).flatMap (mvsF b S G)
theorem mvsF_len (b : List Int) (S : Int) (G : Nat → Bool) (f : Int) : (mvsF b S G f).length ≤ 162 := by
  unfold mvsF
  have := flatLen (one2 (b.getD f.toNat 0) f) 2 (sq (goesS b S G f.toNat)) fun a _ => one2_len _ _ _
  have := sq_len (goesS b S G f.toNat)
  omega

theorem board_goes {b : List Int} (hc : Clean b) (h : List Int) (S : Int) (G : Nat → Bool) (T : List Int) (hT : T.length ≤ 1000) (hTr : ∀ q ∈ T, 0 ≤ q ∧ q < 81) (N : Nat) : ∀ (n i : Nat), i + n = T.length → ∀ (L : List (List Int)) (x0 x17 : Nat), x0 = L.length → x17 = L.length → L.length ≤ 900000 - 200 * n → ∀ F,
    gen_Boardl5 (F + n + 1) x0 S T.length T.length i b h S (byOf b) (sidesOf b) (sLo G) (sHi G) x17 L (sLo (kgs b)) (sHi (kgs b)) N T =
      some ((L ++ (T.drop i).flatMap (mvsF b S G)).length, b, h, S, byOf b, sidesOf b, (L ++ (T.drop i).flatMap (mvsF b S G)).length, L ++ (T.drop i).flatMap (mvsF b S G)) := by
  intro n
  induction n with
  | zero =>
    intro i hi L x0 x17 h0 h17 hb F
    show gen_Boardl5s (gen_Boardl5 (F + 0)) _ _ _ _ _ _ _ _ _ _ _ _ _ _ _ _ _ _ = _
    unfold gen_Boardl5s
    rw [b_nlt (by omega), List.drop_eq_nil_of_le (by omega)]
    simp only [List.flatMap_nil, List.append_nil, h0, h17]
  | succ n ih =>
    intro i hi L x0 x17 h0 h17 hb F
    show gen_Boardl5s (gen_Boardl5 (F + n + 1)) _ _ _ _ _ _ _ _ _ _ _ _ _ _ _ _ _ _ = _
    unfold gen_Boardl5s
    have hil : i < T.length := by omega
    have hget : T.getD i 0 = T[i] := at_i hil
    have hd : T.drop i = T[i] :: T.drop (i + 1) := List.drop_eq_getElem_cons hil
    obtain ⟨q0, q1⟩ := hTr T[i] (List.getElem_mem hil)
    obtain ⟨q, hq⟩ : ∃ q : Nat, T[i] = q := ⟨T[i].toNat, by omega⟩
    have hat : at_ b T[i] = b.getD q 0 := by rw [at_in ⟨q0, q1⟩, hq, tn]
    rw [b_lt (by omega), b_in (by omega) (by omega), tn, hget, at_val, ob_some, takenB_val hc, ob_some]
    simp only
    rw [hat, hq, rayOf_val _ (by omega), ob_some]
    simp only
    rw [piecesB_val, ob_some]
    simp only
    rw [minus_val, ob_some]
    simp only
    rw [minus_val, ob_some]
    simp only
    rw [and_val, ob_some]
    simp only
    rw [squares_val, ob_some]
    simp only
    rw [show (fun i => ((rch (b.getD q 0) q i (tk b) && !sdP b S i) && !kgs b i) && G i) = goesS b S G q from rfl]
    have hlen := sq_len (goesS b S G q)
    obtain ⟨g, hg⟩ := many_eq (sq (goesS b S G q)).length (by omega)
    have := toBoard_goes (b.getD q 0) q (sq (goesS b S G q)) S T.length T.length i b h S (byOf b) (sidesOf b) (sLo G) (sHi G) (sLo (kgs b)) (sHi (kgs b)) N T (sq (goesS b S G q)).length (by omega) (sq (goesS b S G q)).length 0 (by omega) L x0 x17 h0 h17 (by omega) g
    rw [← hg] at this
    rw [show gen_Boardl9 many x0 S q (b.getD q 0) T.length T.length i (sq (goesS b S G q)).length (Int.ofNat (sq (goesS b S G q)).length) 0 b h S (byOf b) (sidesOf b) (sLo G) (sHi G) x17 L (sLo (kgs b)) (sHi (kgs b)) N T (sq (goesS b S G q)).length (sq (goesS b S G q)) = _ from this, ob_some]
    simp only
    have e : (List.drop 0 (sq (goesS b S G q))).flatMap (one2 (b.getD q 0) q) = mvsF b S G T[i] := by
      unfold mvsF; rw [hq, tn, List.drop_zero]
    have hl2 := mvsF_len b S G T[i]
    rw [e, w_s (by omega) (by omega), hd, List.flatMap_cons, ← List.append_assoc]
    exact ih (i + 1) (by omega) (L ++ mvsF b S G T[i]) _ _ rfl rfl (by rw [List.length_append]; omega) F

theorem genBoard_val {b : List Int} (hc : Clean b) (h : List Int) (S : Int) (G : Nat → Bool) : gen_Board (sLo G) (sHi G) b h S (byOf b) (sidesOf b) = some ((mvsB b S G).length, (mvsB b S G).length, mvsB b S G) := by
  unfold gen_Board
  rw [ofB_val, ob_some]
  simp only
  rw [ofB_val, ob_some]
  simp only
  rw [or_val, ob_some]
  simp only
  rw [piecesB_val, ob_some]
  simp only
  rw [squares_val, ob_some]
  simp only
  have hlen := sq_len (sdP b S)
  obtain ⟨g, hg⟩ := many_eq (sq (sdP b S)).length (by omega)
  have := board_goes hc h S G (sq (sdP b S)) (by omega) (fun q hq => ⟨(sq_mem hq).1, (sq_mem hq).2.1⟩) (sq (sdP b S)).length (sq (sdP b S)).length 0 (by omega) [] 0 0 rfl rfl (by simp only [List.length_nil]; omega) g
  rw [← hg] at this
  rw [show gen_Boardl5 many 0 S (sq (sdP b S)).length (Int.ofNat (sq (sdP b S)).length) 0 b h S (byOf b) (sidesOf b) (sLo G) (sHi G) 0 [] (sLo fun i => pcs b (pc 0 8) i || pcs b (pc 1 8) i) (sHi fun i => pcs b (pc 0 8) i || pcs b (pc 1 8) i) (sq (sdP b S)).length (sq (sdP b S)) = _ from this, ob_some]
  rfl

/-! ### drops -/

def mvsK (b h : List Int) (S : Int) (G : Nat → Bool) (k : Nat) : List (List Int) := if hdP h S k < 1 then [] else (sq fun i => freS b S k i && G i).map fun t => [0, t, (k : Int), 0]
def mvsD (b h : List Int) (S : Int) (G : Nat → Bool) : List (List Int) := (List.range' 1 7).flatMap (mvsK b h S G)
theorem mvsK_len (b h : List Int) (S : Int) (G : Nat → Bool) (k : Nat) : (mvsK b h S G k).length ≤ 81 := by
  unfold mvsK
  split
  · simp
  · rw [List.length_map]; exact sq_len _

theorem toDrop_goes (k : Int) (T : List Int) (S : Int) (b h : List Int) (S' : Int) (by' sd' : List (List Int)) (u v : Int) (N3 : Nat) (hT : T.length ≤ 1000) : ∀ (n i : Nat), i + n = T.length → ∀ (L : List (List Int)) (x0 x17 : Nat), x0 = L.length → x17 = L.length → L.length ≤ 1000000 - 2 * n → ∀ F,
    gen_Dropsl8 (F + n + 1) x0 S k T.length T.length i b h S' by' sd' u v x17 L N3 T =
      some ((L ++ (T.drop i).map fun t => [0, t, k, 0]).length, S, k, b, h, S', by', sd', u, v, (L ++ (T.drop i).map fun t => [0, t, k, 0]).length, L ++ (T.drop i).map fun t => [0, t, k, 0]) := by
  intro n
  induction n with
  | zero =>
    intro i hi L x0 x17 h0 h17 hb F
    show gen_Dropsl8s (gen_Dropsl8 (F + 0)) _ _ _ _ _ _ _ _ _ _ _ _ _ _ _ _ _ = _
    unfold gen_Dropsl8s
    rw [b_nlt (by omega), List.drop_eq_nil_of_le (by omega)]
    simp only [List.map_nil, List.append_nil, h0, h17]
  | succ n ih =>
    intro i hi L x0 x17 h0 h17 hb F
    show gen_Dropsl8s (gen_Dropsl8 (F + n + 1)) _ _ _ _ _ _ _ _ _ _ _ _ _ _ _ _ _ = _
    unfold gen_Dropsl8s
    have hil : i < T.length := by omega
    have hget : T.getD i 0 = T[i] := at_i hil
    have hd : T.drop i = T[i] :: T.drop (i + 1) := List.drop_eq_getElem_cons hil
    rw [b_lt (by omega), b_in (by omega) (by omega), tn, hget, b_leN (by omega), tkA h0, w_s (by omega) (by omega), hd, List.map_cons]
    have := ih (i + 1) (by omega) (L ++ [[0, T[i], k, 0]]) (x0 + 1) (x0 + 1) (by simp [h0]) (by simp [h0]) (by simp; omega) F
    rw [List.append_assoc] at this
    exact this

theorem drops_goes {b : List Int} (hc : Clean b) (h : List Int) (S : Int) (G : Nat → Bool) : ∀ (n k : Nat), k + n = 8 → ∀ (L : List (List Int)) (x0 x17 : Nat), x0 = L.length → x17 = L.length → L.length ≤ 900000 - 200 * n → ∀ F,
    gen_Dropsl4 (F + n + 1) x0 S k b h S (byOf b) (sidesOf b) (sLo G) (sHi G) x17 L =
      some ((L ++ (List.range' k n).flatMap (mvsK b h S G)).length, b, h, S, byOf b, sidesOf b, (L ++ (List.range' k n).flatMap (mvsK b h S G)).length, L ++ (List.range' k n).flatMap (mvsK b h S G)) := by
  intro n
  induction n with
  | zero =>
    intro k hk L x0 x17 h0 h17 hb F
    show gen_Dropsl4s (gen_Dropsl4 (F + 0)) _ _ _ _ _ _ _ _ _ _ _ _ = _
    unfold gen_Dropsl4s
    rw [b_nlt (by omega)]
    simp only [List.range'_zero, List.flatMap_nil, List.append_nil, h0, h17]
  | succ n ih =>
    intro k hk L x0 x17 h0 h17 hb F
    show gen_Dropsl4s (gen_Dropsl4 (F + n + 1)) _ _ _ _ _ _ _ _ _ _ _ _ = _
    unfold gen_Dropsl4s
    have hl2 := mvsK_len b h S G k
    rw [b_lt (by omega), handB_val, ob_some, List.range'_succ, List.flatMap_cons, ← List.append_assoc]
    have ih' := ih (k + 1) (by omega) (L ++ mvsK b h S G k)
    by_cases h1 : hdP h S k < 1
    · have e : mvsK b h S G k = [] := by unfold mvsK; rw [if_pos h1]
      rw [b_lt h1, w_s (by omega) (by omega)]
      rw [e, List.append_nil] at ih' ⊢
      exact ih' x0 x17 h0 h17 (by omega) F
    · have e : mvsK b h S G k = (sq fun i => freS b S k i && G i).map fun t => [0, t, (k : Int), 0] := by unfold mvsK; rw [if_neg h1]
      rw [b_nlt h1, freeB_val hc, ob_some]
      simp only
      rw [and_val, ob_some]
      simp only
      rw [squares_val, ob_some]
      simp only
      have hlen := sq_len fun i => freS b S k i && G i
      obtain ⟨g, hg⟩ := many_eq (sq fun i => freS b S k i && G i).length (by omega)
      have := toDrop_goes k (sq fun i => freS b S k i && G i) S b h S (byOf b) (sidesOf b) (sLo G) (sHi G) (sq fun i => freS b S k i && G i).length (by omega) (sq fun i => freS b S k i && G i).length 0 (by omega) L x0 x17 h0 h17 (by omega) g
      rw [← hg] at this
      rw [show gen_Dropsl8 many x0 S k (sq fun i => freS b S k i && G i).length (Int.ofNat (sq fun i => freS b S k i && G i).length) 0 b h S (byOf b) (sidesOf b) (sLo G) (sHi G) x17 L (sq fun i => freS b S k i && G i).length (sq fun i => freS b S k i && G i) = _ from this, ob_some]
      simp only
      rw [List.drop_zero, ← e, w_s (by omega) (by omega)]
      exact ih' _ _ rfl rfl (by rw [List.length_append]; omega) F

theorem genDrops_val {b : List Int} (hc : Clean b) (h : List Int) (S : Int) (G : Nat → Bool) : gen_Drops (sLo G) (sHi G) b h S (byOf b) (sidesOf b) = some ((mvsD b h S G).length, (mvsD b h S G).length, mvsD b h S G) := by
  unfold gen_Drops
  obtain ⟨g, hg⟩ := many_eq 7 (by omega)
  have := drops_goes hc h S G 7 1 (by omega) [] 0 0 rfl rfl (by simp only [List.length_nil]; omega) g
  rw [← hg] at this
  rw [show gen_Dropsl4 many 0 S 1 b h S (byOf b) (sidesOf b) (sLo G) (sHi G) 0 [] = _ from this, ob_some]
  rfl

/-- All moves that the pieces can make. -/
def mvs (b h : List Int) (S : Int) : List (List Int) := mvsB b S (fun _ => true) ++ mvsD b h S (fun _ => true)
theorem mvsB_len (b : List Int) (S : Int) (G : Nat → Bool) : (mvsB b S G).length ≤ 162 * 81 := by
  unfold mvsB
  have := flatLen (mvsF b S G) 162 (sq (sdP b S)) fun a _ => mvsF_len _ _ _ _
  have := sq_len (sdP b S)
  omega
theorem mvsD_len (b h : List Int) (S : Int) (G : Nat → Bool) : (mvsD b h S G).length ≤ 81 * 7 := by
  unfold mvsD
  have := flatLen (mvsK b h S G) 81 (List.range' 1 7) fun a _ => mvsK_len _ _ _ _ _
  rw [List.length_range'] at this
  omega
theorem genAll_val {b : List Int} (hc : Clean b) (h : List Int) (S : Int) : gen_All b h S (byOf b) (sidesOf b) = some ((mvs b h S).length, (mvs b h S).length, mvs b h S) := by
  unfold gen_All
  have h1 := mvsB_len b S fun _ => true
  have h2 := mvsD_len b h S fun _ => true
  rw [all_set, ob_some]
  simp only
  rw [genBoard_val hc, ob_some]
  simp only
  rw [ob_some]
  simp only
  rw [genDrops_val hc, ob_some]
  simp only
  rw [b_leN (by omega), List.take_length, List.take_length]
  unfold mvs
  rw [List.length_append]
  rfl

end Go.Kk.Pl
