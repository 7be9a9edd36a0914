/- What the program's functions come to, told plainly: the texts of this project that this claim leans on, cut down to what is used. -/
import Derived.Test.YtbeinkbjmmbloaaGreatDoorKkU2
import Derived.Test.YtbeinkbjmmbloaaGreatDoorKkU1
namespace Go.Kk.Pl
theorem qCF {α : Type} {x y : α} {a b : Nat} (h : a <= b) : br (decide (a <= b)) x y = x := qF (by simpa using h)
theorem tkA {α : Type} {n : Nat} {L : List α} (h : n = L.length) (M : List α) : List.append (List.take n L) M = L ++ M := by
 subst h; rw [List.take_length]; rfl
theorem qcf {α : Type} {n : Nat} {L : List α} {m : α} (h : n = L.length) (M : List α) : List.append (List.take (n + 1) (L ++ [m])) M = L ++ m :: M := by
 rw [tkA (by simp [h])]; simp
def qx (x f t : Int) : List (List Int) := (if qC2 x t then [] else [[f, t, 0, 0]]) ++ (if qCg x f t then [[f, t, 0, 1]] else [])
theorem qkP (x f t : Int) : (qx x f t).length <= 2 := by
 unfold qx; split <;> split <;> simp
theorem qG6 {α β : Type} (g : α -> List β) (k : Nat) (L : List α) (h : ∀ a ∈ L, (g a).length <= k) : (L.flatMap g).length <= k * L.length := by
 induction L with
 | nil => simp
 | cons a L ih =>
   rw [List.flatMap_cons, List.length_append, List.length_cons, Nat.mul_succ]
   have := h a (by simp)
   have := ih fun x hx => h x (by simp [hx])
   omega
theorem qpu (x f : Int) (T : List Int) (S : Int) (N1 : Nat) (a5 a6 : Int) (b h : List Int) (S' : Int) (by' sd' : List (List Int)) (u v k1 k2 : Int) (N2 : Nat) (L2 : List Int) (N3 : Nat) (hT : T.length <= 1000) : ∀ (n i : Nat), i + n = T.length -> ∀ (L : List (List Int)) (x0 x17 : Nat), x0 = L.length -> x17 = L.length -> L.length <= 1000000 - 2 * n -> ∀ F,
  qE7 (F + n + 1) x0 S f x N1 a5 a6 T.length T.length i b h S' by' sd' u v x17 L k1 k2 N2 L2 N3 T =
   some ((L ++ (T.drop i).flatMap (qx x f)).length, S, N1, a5, a6, b, h, S', by', sd', u, v, (L ++ (T.drop i).flatMap (qx x f)).length, L ++ (T.drop i).flatMap (qx x f), k1, k2, N2, L2) := by
 intro n
 induction n with
 | zero =>
   intro i hi L x0 x17 h0 h17 hb F
   show qHC (qE7 (F + 0)) _ _ _ _ _ _ _ _ _ _ _ _ _ _ _ _ _ _ _ _ _ _ _ _ _ = _
   unfold qHC
   rw [qW (by omega), List.drop_eq_nil_of_le (by omega)]
   simp only [List.flatMap_nil, List.append_nil, h0, h17]
 | succ n ih =>
   intro i hi L x0 x17 h0 h17 hb F
   show qHC (qE7 (F + n + 1)) _ _ _ _ _ _ _ _ _ _ _ _ _ _ _ _ _ _ _ _ _ _ _ _ _ = _
   unfold qHC
   have hil : i < T.length := by omega
   have hget : T.getD i 0 = T[i] := qFv hil
   have hd : T.drop i = T[i] :: T.drop (i + 1) := List.drop_eq_getElem_cons hil
   rw [qc (by omega), qa (by omega) (by omega), tn, hget, qlF, qA]
   simp only
   rw [w_s (by omega) (by omega), hd, List.flatMap_cons, <- List.append_assoc]
   rw [tkA h0, tkA h0, qcf h0]
   have hi1 : i + 1 + n = T.length := by omega
   have ih' := ih (i + 1) hi1
   cases hm : qC2 x T[i] with
   | false =>
     rw [Bool.not_false, b_t, qCF (by omega)]
     cases hy : qCg x f T[i] with
     | true =>
       rw [b_t, qCF (by omega)]
       have := ih' (L ++ qx x f T[i]) (x0 + 1 + 1) (x0 + 1 + 1) (by simp [qx, hm, hy, h0]) (by simp [qx, hm, hy, h0]) (by simp [qx, hm, hy]; omega) F
       rw [<- this]
       simp [qx, hm, hy]
     | false =>
       rw [b_f]
       have := ih' (L ++ qx x f T[i]) (x0 + 1) (x0 + 1) (by simp [qx, hm, hy, h0]) (by simp [qx, hm, hy, h0]) (by simp [qx, hm, hy]; omega) F
       rw [<- this]
       simp [qx, hm, hy]
   | true =>
     rw [Bool.not_true, b_f]
     cases hy : qCg x f T[i] with
     | true =>
       rw [b_t, qCF (by omega)]
       have := ih' (L ++ qx x f T[i]) (x0 + 1) (x0 + 1) (by simp [qx, hm, hy, h0]) (by simp [qx, hm, hy, h0]) (by simp [qx, hm, hy]; omega) F
       rw [<- this]
       simp [qx, hm, hy]
     | false =>
       rw [b_f]
       have := ih' (L ++ qx x f T[i]) x0 x17 (by simp [qx, hm, hy, h0]) (by simp [qx, hm, hy, h17]) (by simp [qx, hm, hy]; omega) F
       rw [<- this]
       simp [qx, hm, hy]
def kgs (b : List Int) (c : Nat) : Bool := pcs b (pc 0 8) c || pcs b (pc 1 8) c
def qBW (b : List Int) (S : Int) (G : Nat -> Bool) (f : Nat) (c : Nat) : Bool := ((rch (b.getD f 0) f c (tk b) && !sdP b S c) && !kgs b c) && G c
def qBp (b : List Int) (S : Int) (G : Nat -> Bool) (f : Int) : List (List Int) := (sq (qBW b S G f.toNat)).flatMap (qx (b.getD f.toNat 0) f)
def qq (b : List Int) (S : Int) (G : Nat -> Bool) : List (List Int) := (sq (sdP b S)).flatMap (qBp b S G)
theorem qXH (b : List Int) (S : Int) (G : Nat -> Bool) (f : Int) : (qBp b S G f).length <= 162 := by
 unfold qBp
 have := qG6 (qx (b.getD f.toNat 0) f) 2 (sq (qBW b S G f.toNat)) fun a _ => qkP _ _ _
 have := qEd (qBW b S G f.toNat)
 omega
theorem qe7 {b : List Int} (hc : Clean b) (h : List Int) (S : Int) (G : Nat -> Bool) (T : List Int) (hT : T.length <= 1000) (hTr : ∀ q ∈ T, 0 <= q /\ q < 81) (N : Nat) : ∀ (n i : Nat), i + n = T.length -> ∀ (L : List (List Int)) (x0 x17 : Nat), x0 = L.length -> x17 = L.length -> L.length <= 900000 - 200 * n -> ∀ F,
  qE6 (F + n + 1) x0 S T.length T.length i b h S (qI b) (qO b) (sLo G) (sHi G) x17 L (sLo (kgs b)) (sHi (kgs b)) N T =
   some ((L ++ (T.drop i).flatMap (qBp b S G)).length, b, h, S, qI b, qO b, (L ++ (T.drop i).flatMap (qBp b S G)).length, L ++ (T.drop i).flatMap (qBp b S G)) := by
 intro n
 induction n with
 | zero =>
   intro i hi L x0 x17 h0 h17 hb F
   show qHB (qE6 (F + 0)) _ _ _ _ _ _ _ _ _ _ _ _ _ _ _ _ _ _ = _
   unfold qHB
   rw [qW (by omega), List.drop_eq_nil_of_le (by omega)]
   simp only [List.flatMap_nil, List.append_nil, h0, h17]
 | succ n ih =>
   intro i hi L x0 x17 h0 h17 hb F
   show qHB (qE6 (F + n + 1)) _ _ _ _ _ _ _ _ _ _ _ _ _ _ _ _ _ _ = _
   unfold qHB
   have hil : i < T.length := by omega
   have hget : T.getD i 0 = T[i] := qFv hil
   have hd : T.drop i = T[i] :: T.drop (i + 1) := List.drop_eq_getElem_cons hil
   obtain ⟨q0, q1⟩ := hTr T[i] (List.getElem_mem hil)
   obtain ⟨q, hq⟩ : ∃ q : Nat, T[i] = q := ⟨T[i].toNat, by omega⟩
   have hat : at_ b T[i] = b.getD q 0 := by rw [qAY ⟨q0, q1⟩, hq, tn]
   rw [qc (by omega), qa (by omega) (by omega), tn, hget, qCq, qA, qJp hc, qA]
   simp only
   rw [hat, hq, qLe _ (by omega), qA]
   simp only
   rw [qPc, qA]
   simp only
   rw [qK9, qA]
   simp only
   rw [qK9, qA]
   simp only
   rw [qEn, qA]
   simp only
   rw [qJj, qA]
   simp only
   rw [show (fun i => ((rch (b.getD q 0) q i (tk b) && !sdP b S i) && !kgs b i) && G i) = qBW b S G q from rfl]
   have hlen := qEd (qBW b S G q)
   obtain ⟨g, hg⟩ := qd (sq (qBW b S G q)).length (by omega)
   have := qpu (b.getD q 0) q (sq (qBW b S G q)) S T.length T.length i b h S (qI b) (qO b) (sLo G) (sHi G) (sLo (kgs b)) (sHi (kgs b)) N T (sq (qBW b S G q)).length (by omega) (sq (qBW b S G q)).length 0 (by omega) L x0 x17 h0 h17 (by omega) g
   rw [<- hg] at this
   rw [show qE7 qC x0 S q (b.getD q 0) T.length T.length i (sq (qBW b S G q)).length (Int.ofNat (sq (qBW b S G q)).length) 0 b h S (qI b) (qO b) (sLo G) (sHi G) x17 L (sLo (kgs b)) (sHi (kgs b)) N T (sq (qBW b S G q)).length (sq (qBW b S G q)) = _ from this, qA]
   simp only
   have e : (List.drop 0 (sq (qBW b S G q))).flatMap (qx (b.getD q 0) q) = qBp b S G T[i] := by
    unfold qBp; rw [hq, tn, List.drop_zero]
   have hl2 := qXH b S G T[i]
   rw [e, w_s (by omega) (by omega), hd, List.flatMap_cons, <- List.append_assoc]
   exact ih (i + 1) (by omega) (L ++ qBp b S G T[i]) _ _ rfl rfl (by rw [List.length_append]; omega) F
theorem qU3 {b : List Int} (hc : Clean b) (h : List Int) (S : Int) (G : Nat -> Bool) : qG9 (sLo G) (sHi G) b h S (qI b) (qO b) = some ((qq b S G).length, (qq b S G).length, qq b S G) := by
 unfold qG9
 rw [qGI, qA]
 simp only
 rw [qGI, qA]
 simp only
 rw [qHb, qA]
 simp only
 rw [qPc, qA]
 simp only
 rw [qJj, qA]
 simp only
 have hlen := qEd (sdP b S)
 obtain ⟨g, hg⟩ := qd (sq (sdP b S)).length (by omega)
 have := qe7 hc h S G (sq (sdP b S)) (by omega) (fun q hq => ⟨(qGZ hq).1, (qGZ hq).2.1⟩) (sq (sdP b S)).length (sq (sdP b S)).length 0 (by omega) [] 0 0 rfl rfl (by simp only [List.length_nil]; omega) g
 rw [<- hg] at this
 rw [show qE6 qC 0 S (sq (sdP b S)).length (Int.ofNat (sq (sdP b S)).length) 0 b h S (qI b) (qO b) (sLo G) (sHi G) 0 [] (sLo fun i => pcs b (pc 0 8) i || pcs b (pc 1 8) i) (sHi fun i => pcs b (pc 0 8) i || pcs b (pc 1 8) i) (sq (sdP b S)).length (sq (sdP b S)) = _ from this, qA]
 rfl
def qBF (b h : List Int) (S : Int) (G : Nat -> Bool) (k : Nat) : List (List Int) := if hdP h S k < 1 then [] else (sq fun i => qAr b S k i && G i).map fun t => [0, t, (k : Int), 0]
def qAG (b h : List Int) (S : Int) (G : Nat -> Bool) : List (List Int) := (List.range' 1 7).flatMap (qBF b h S G)
theorem qXI (b h : List Int) (S : Int) (G : Nat -> Bool) (k : Nat) : (qBF b h S G k).length <= 81 := by
 unfold qBF
 split
 ·simp
 ·rw [List.length_map]; exact qEd _
theorem qpv (k : Int) (T : List Int) (S : Int) (b h : List Int) (S' : Int) (by' sd' : List (List Int)) (u v : Int) (N3 : Nat) (hT : T.length <= 1000) : ∀ (n i : Nat), i + n = T.length -> ∀ (L : List (List Int)) (x0 x17 : Nat), x0 = L.length -> x17 = L.length -> L.length <= 1000000 - 2 * n -> ∀ F,
  qE9 (F + n + 1) x0 S k T.length T.length i b h S' by' sd' u v x17 L N3 T =
   some ((L ++ (T.drop i).map fun t => [0, t, k, 0]).length, S, k, b, h, S', by', sd', u, v, (L ++ (T.drop i).map fun t => [0, t, k, 0]).length, L ++ (T.drop i).map fun t => [0, t, k, 0]) := by
 intro n
 induction n with
 | zero =>
   intro i hi L x0 x17 h0 h17 hb F
   show qHF (qE9 (F + 0)) _ _ _ _ _ _ _ _ _ _ _ _ _ _ _ _ _ = _
   unfold qHF
   rw [qW (by omega), List.drop_eq_nil_of_le (by omega)]
   simp only [List.map_nil, List.append_nil, h0, h17]
 | succ n ih =>
   intro i hi L x0 x17 h0 h17 hb F
   show qHF (qE9 (F + n + 1)) _ _ _ _ _ _ _ _ _ _ _ _ _ _ _ _ _ = _
   unfold qHF
   have hil : i < T.length := by omega
   have hget : T.getD i 0 = T[i] := qFv hil
   have hd : T.drop i = T[i] :: T.drop (i + 1) := List.drop_eq_getElem_cons hil
   rw [qc (by omega), qa (by omega) (by omega), tn, hget, qCF (by omega), tkA h0, w_s (by omega) (by omega), hd, List.map_cons]
   have := ih (i + 1) (by omega) (L ++ [[0, T[i], k, 0]]) (x0 + 1) (x0 + 1) (by simp [h0]) (by simp [h0]) (by simp; omega) F
   rw [List.append_assoc] at this
   exact this
theorem qgV {b : List Int} (hc : Clean b) (h : List Int) (S : Int) (G : Nat -> Bool) : ∀ (n k : Nat), k + n = 8 -> ∀ (L : List (List Int)) (x0 x17 : Nat), x0 = L.length -> x17 = L.length -> L.length <= 900000 - 200 * n -> ∀ F,
  qE8 (F + n + 1) x0 S k b h S (qI b) (qO b) (sLo G) (sHi G) x17 L =
   some ((L ++ (List.range' k n).flatMap (qBF b h S G)).length, b, h, S, qI b, qO b, (L ++ (List.range' k n).flatMap (qBF b h S G)).length, L ++ (List.range' k n).flatMap (qBF b h S G)) := by
 intro n
 induction n with
 | zero =>
   intro k hk L x0 x17 h0 h17 hb F
   show qHE (qE8 (F + 0)) _ _ _ _ _ _ _ _ _ _ _ _ = _
   unfold qHE
   rw [qW (by omega)]
   simp only [List.range'_zero, List.flatMap_nil, List.append_nil, h0, h17]
 | succ n ih =>
   intro k hk L x0 x17 h0 h17 hb F
   show qHE (qE8 (F + n + 1)) _ _ _ _ _ _ _ _ _ _ _ _ = _
   unfold qHE
   have hl2 := qXI b h S G k
   rw [qc (by omega), qhT, qA, List.range'_succ, List.flatMap_cons, <- List.append_assoc]
   have ih' := ih (k + 1) (by omega) (L ++ qBF b h S G k)
   by_cases h1 : hdP h S k < 1
   ·have e : qBF b h S G k = [] := by unfold qBF; rw [if_pos h1]
    rw [qc h1, w_s (by omega) (by omega)]
    rw [e, List.append_nil] at ih' ⊢
    exact ih' x0 x17 h0 h17 (by omega) F
   ·have e : qBF b h S G k = (sq fun i => qAr b S k i && G i).map fun t => [0, t, (k : Int), 0] := by unfold qBF; rw [if_neg h1]
    rw [qW h1, qgt hc, qA]
    simp only
    rw [qEn, qA]
    simp only
    rw [qJj, qA]
    simp only
    have hlen := qEd fun i => qAr b S k i && G i
    obtain ⟨g, hg⟩ := qd (sq fun i => qAr b S k i && G i).length (by omega)
    have := qpv k (sq fun i => qAr b S k i && G i) S b h S (qI b) (qO b) (sLo G) (sHi G) (sq fun i => qAr b S k i && G i).length (by omega) (sq fun i => qAr b S k i && G i).length 0 (by omega) L x0 x17 h0 h17 (by omega) g
    rw [<- hg] at this
    rw [show qE9 qC x0 S k (sq fun i => qAr b S k i && G i).length (Int.ofNat (sq fun i => qAr b S k i && G i).length) 0 b h S (qI b) (qO b) (sLo G) (sHi G) x17 L (sq fun i => qAr b S k i && G i).length (sq fun i => qAr b S k i && G i) = _ from this, qA]
    simp only
    rw [List.drop_zero, <- e, w_s (by omega) (by omega)]
    exact ih' _ _ rfl rfl (by rw [List.length_append]; omega) F
theorem qg4 {b : List Int} (hc : Clean b) (h : List Int) (S : Int) (G : Nat -> Bool) : qI0 (sLo G) (sHi G) b h S (qI b) (qO b) = some ((qAG b h S G).length, (qAG b h S G).length, qAG b h S G) := by
 unfold qI0
 obtain ⟨g, hg⟩ := qd 7 (by omega)
 have := qgV hc h S G 7 1 (by omega) [] 0 0 rfl rfl (by simp only [List.length_nil]; omega) g
 rw [<- hg] at this
 rw [show qE8 qC 0 S 1 b h S (qI b) (qO b) (sLo G) (sHi G) 0 [] = _ from this, qA]
 rfl
def mvs (b h : List Int) (S : Int) : List (List Int) := qq b S (fun _ => true) ++ qAG b h S (fun _ => true)
theorem qLF (b : List Int) (S : Int) (G : Nat -> Bool) : (qq b S G).length <= 162 * 81 := by
 unfold qq
 have := qG6 (qBp b S G) 162 (sq (sdP b S)) fun a _ => qXH _ _ _ _
 have := qEd (sdP b S)
 omega
theorem qPJ (b h : List Int) (S : Int) (G : Nat -> Bool) : (qAG b h S G).length <= 81 * 7 := by
 unfold qAG
 have := qG6 (qBF b h S G) 81 (List.range' 1 7) fun a _ => qXI _ _ _ _ _
 rw [List.length_range'] at this
 omega
end Go.Kk.Pl
namespace Go.Kk.Pl
def qAu (b h : List Int) (S : Int) (f t : Nat) : List (List Int) := (if qAD b h S f t 0 false then [[(f : Int), (t : Int), 0, 0]] else []) ++ (if qAD b h S f t 0 true then [[(f : Int), (t : Int), 0, 1]] else [])
def rTo (b h : List Int) (S : Int) (f t : Nat) : List (List Int) := if rch (b.getD f 0) f t (tk b) then qAu b h S f t else []
def qA4 (b h : List Int) (S : Int) (f : Nat) : List (List Int) := if sd (b.getD f 0) = S then (List.range' 0 81).flatMap (rTo b h S f) else []
def qB8 (b h : List Int) (S : Int) (k t : Nat) : List (List Int) := if qAD b h S 0 t k false then [[0, (t : Int), (k : Int), 0]] else []
def qEJ (b h : List Int) (S : Int) (k : Nat) : List (List Int) := if hd_ h S k > 0 then (List.range' 0 81).flatMap (qB8 b h S k) else []
def qEI (b h : List Int) (S : Int) : List (List Int) := (List.range' 0 81).flatMap (qA4 b h S) ++ (List.range' 1 7).flatMap (qEJ b h S)
theorem qlO (b h : List Int) (S : Int) (f t : Nat) : (rTo b h S f t).length <= 2 := by
 unfold rTo qAu
 split
 ·split <;> split <;> simp
 ·simp
theorem qYF (b h : List Int) (S : Int) (f : Nat) : (qA4 b h S f).length <= 162 := by
 unfold qA4
 split
 ·have := qG6 (rTo b h S f) 2 (List.range' 0 81) fun a _ => qlO b h S f a
  rw [List.length_range'] at this
  omega
 ·simp
theorem qlI (b h : List Int) (S : Int) (k t : Nat) : (qB8 b h S k t).length <= 1 := by
 unfold qB8; split <;> simp
theorem qlM (b h : List Int) (S : Int) (k : Nat) : (qEJ b h S k).length <= 81 := by
 unfold qEJ
 split
 ·have := qG6 (qB8 b h S k) 1 (List.range' 0 81) fun a _ => qlI b h S k a
  rw [List.length_range'] at this
  omega
 ·simp
theorem qlN (b h : List Int) (S : Int) (f : Nat) (hf : f < 81) : ∀ (n t : Nat), t + n = 81 -> ∀ (L : List (List Int)) (x0 x6 : Nat), x0 = L.length -> x6 = L.length -> L.length <= 1000000 - 2 * n -> ∀ F,
  qFa (F + n + 1) x0 f t b h S x6 L (qDC b) =
   some ((L ++ (List.range' t n).flatMap (rTo b h S f)).length, (f : Int), b, h, S, (L ++ (List.range' t n).flatMap (rTo b h S f)).length, L ++ (List.range' t n).flatMap (rTo b h S f), qDC b) := by
 intro n
 induction n with
 | zero =>
   intro t ht L x0 x6 h0 h6 hb F
   show qHy (qFa (F + 0)) _ _ _ _ _ _ _ _ _ = _
   unfold qHy
   rw [qW (by omega)]
   simp only [List.range'_zero, List.flatMap_nil, List.append_nil, h0, h6]
 | succ n ih =>
   intro t ht L x0 x6 h0 h6 hb F
   show qHy (qFa (F + n + 1)) _ _ _ _ _ _ _ _ _ = _
   unfold qHy
   rw [qc (by omega), qa (by omega) (by omega), tn, c_8, qPu b _ hf (by omega), qA, w_s (by omega) (by omega), List.range'_succ, List.flatMap_cons, <- List.append_assoc]
   have ih' := ih (t + 1) (by omega) (L ++ rTo b h S f t)
   cases hr : rch (b.getD f 0) f t (tk b) with
   | false =>
     have e : rTo b h S f t = [] := by unfold rTo; rw [hr]; rfl
     rw [Bool.not_false, b_t]
     rw [e, List.append_nil] at ih' ⊢
     exact ih' x0 x6 h0 h6 (by omega) F
   | true =>
     have e : rTo b h S f t = qAu b h S f t := by unfold rTo; rw [hr]; rfl
     rw [e] at ih' ⊢
     rw [Bool.not_true, b_f, qLw, qA, tkA h0, tkA h0, qcf h0]
     cases hm : qAD b h S f t 0 false with
     | true =>
       rw [b_t, qCF (by omega), qLw, qA]
       cases hy : qAD b h S f t 0 true with
       | true =>
         rw [b_t, qCF (by omega)]
         have := ih' (x0 + 1 + 1) (x0 + 1 + 1) (by simp [qAu, hm, hy, h0]) (by simp [qAu, hm, hy, h0]) (by simp [qAu, hm, hy]; omega) F
         rw [<- this]
         simp [qAu, hm, hy]
       | false =>
         rw [b_f]
         have := ih' (x0 + 1) (x0 + 1) (by simp [qAu, hm, hy, h0]) (by simp [qAu, hm, hy, h0]) (by simp [qAu, hm, hy]; omega) F
         rw [<- this]
         simp [qAu, hm, hy]
     | false =>
       rw [b_f, qLw, qA]
       cases hy : qAD b h S f t 0 true with
       | true =>
         rw [b_t, qCF (by omega)]
         have := ih' (x0 + 1) (x0 + 1) (by simp [qAu, hm, hy, h0]) (by simp [qAu, hm, hy, h0]) (by simp [qAu, hm, hy]; omega) F
         rw [<- this]
         simp [qAu, hm, hy]
       | false =>
         rw [b_f]
         have := ih' x0 x6 (by simp [qAu, hm, hy, h0]) (by simp [qAu, hm, hy, h6]) (by simp [qAu, hm, hy]; omega) F
         rw [<- this]
         simp [qAu, hm, hy]
theorem qlJ (b h : List Int) (S : Int) : ∀ (n f : Nat), f + n = 81 -> ∀ (L : List (List Int)) (x0 x6 : Nat), x0 = L.length -> x6 = L.length -> L.length <= 900000 - 200 * n -> ∀ F,
  qDi (F + n + 1) x0 f b h S x6 L (qDC b) =
   some ((L ++ (List.range' f n).flatMap (qA4 b h S)).length, b, h, S, (L ++ (List.range' f n).flatMap (qA4 b h S)).length, L ++ (List.range' f n).flatMap (qA4 b h S)) := by
 intro n
 induction n with
 | zero =>
   intro f hf L x0 x6 h0 h6 hb F
   show qH1 (qDi (F + 0)) _ _ _ _ _ _ _ _ = _
   unfold qH1
   rw [qW (by omega)]
   simp only [List.range'_zero, List.flatMap_nil, List.append_nil, h0, h6]
 | succ n ih =>
   intro f hf L x0 x6 h0 h6 hb F
   show qH1 (qDi (F + n + 1)) _ _ _ _ _ _ _ _ = _
   unfold qH1
   have hl := qYF b h S f
   rw [qc (by omega), qa (by omega) (by omega), tn, c_8, qEV, qA, List.range'_succ, List.flatMap_cons, <- List.append_assoc]
   have ih' := ih (f + 1) (by omega) (L ++ qA4 b h S f)
   by_cases h1 : sd (b.getD f 0) = S
   ·have e : qA4 b h S f = (List.range' 0 81).flatMap (rTo b h S f) := by unfold qA4; rw [if_pos h1]
    rw [qt h1]
    obtain ⟨g, hg⟩ := qd 81 (by omega)
    have := qlN b h S f (by omega) 81 0 (by omega) L x0 x6 h0 h6 (by omega) g
    rw [<- hg] at this
    rw [show qFa qC x0 f 0 b h S x6 L (qDC b) = _ from this, qA]
    simp only
    rw [w_s (by omega) (by omega), <- e]
    exact ih' _ _ rfl rfl (by rw [List.length_append]; omega) F
   ·have e : qA4 b h S f = [] := by unfold qA4; rw [if_neg h1]
    rw [qp h1, w_s (by omega) (by omega)]
    rw [e, List.append_nil] at ih' ⊢
    exact ih' x0 x6 h0 h6 (by omega) F
theorem qlH (b h : List Int) {S : Int} (hS : S = 0 \/ S = 1) (k : Nat) (hk : k < 8) : ∀ (n t : Nat), t + n = 81 -> ∀ (L : List (List Int)) (x0 x6 : Nat), x0 = L.length -> x6 = L.length -> L.length <= 1000000 - 2 * n -> ∀ F,
  qFb (F + n + 1) x0 k t b h S x6 L =
   some ((L ++ if hd_ h S k > 0 then (List.range' t n).flatMap (qB8 b h S k) else []).length, (k : Int), b, h, S, (L ++ if hd_ h S k > 0 then (List.range' t n).flatMap (qB8 b h S k) else []).length, L ++ if hd_ h S k > 0 then (List.range' t n).flatMap (qB8 b h S k) else []) := by
 intro n
 induction n with
 | zero =>
   intro t ht L x0 x6 h0 h6 hb F
   show qH0 (qFb (F + 0)) _ _ _ _ _ _ _ _ = _
   unfold qH0
   rw [qW (by omega)]
   simp only [List.range'_zero, List.flatMap_nil, ite_self, List.append_nil, h0, h6]
 | succ n ih =>
   intro t ht L x0 x6 h0 h6 hb F
   show qH0 (qFb (F + n + 1)) _ _ _ _ _ _ _ _ = _
   unfold qH0
   rw [qc (by omega), qa (by omega) (by omega), qa (by omega) (by omega)]
   have ih' := ih (t + 1) (by omega) (L ++ qB8 b h S k t)
   by_cases h1 : hd_ h S k > 0
   ·rw [show List.getD h (S.toNat * 8 + Int.toNat (k : Int)) 0 = hd_ h S k from rfl, qBK h1, qLw, qA, tkA h0, w_s (by omega) (by omega)]
    simp only [if_pos h1] at ih' ⊢
    rw [List.range'_succ, List.flatMap_cons, <- List.append_assoc]
    cases hm : qAD b h S 0 t k false with
    | true =>
      have e : qB8 b h S k t = [[0, (t : Int), (k : Int), 0]] := by unfold qB8; rw [hm]; rfl
      rw [b_t, qCF (by omega)]
      rw [e] at ih' ⊢
      exact ih' (x0 + 1) (x0 + 1) (by simp [h0]) (by simp [h0]) (by simp; omega) F
    | false =>
      have e : qB8 b h S k t = [] := by unfold qB8; rw [hm]; rfl
      rw [b_f]
      rw [e, List.append_nil] at ih' ⊢
      exact ih' x0 x6 h0 h6 (by omega) F
   ·rw [show List.getD h (S.toNat * 8 + Int.toNat (k : Int)) 0 = hd_ h S k from rfl, qBL h1, if_neg h1, List.append_nil, h0, h6]
theorem qlL (b h : List Int) {S : Int} (hS : S = 0 \/ S = 1) : ∀ (n k : Nat), k + n = 8 -> ∀ (L : List (List Int)) (x0 x6 : Nat), x0 = L.length -> x6 = L.length -> L.length <= 900000 - 200 * n -> ∀ F,
  qDh (F + n + 1) x0 k b h S x6 L =
   some ((L ++ (List.range' k n).flatMap (qEJ b h S)).length, (L ++ (List.range' k n).flatMap (qEJ b h S)).length, L ++ (List.range' k n).flatMap (qEJ b h S)) := by
 intro n
 induction n with
 | zero =>
   intro k hk L x0 x6 h0 h6 hb F
   show qHz (qDh (F + 0)) _ _ _ _ _ _ _ = _
   unfold qHz
   rw [qKA (by omega)]
   simp only [List.range'_zero, List.flatMap_nil, List.append_nil, h0, h6]
 | succ n ih =>
   intro k hk L x0 x6 h0 h6 hb F
   show qHz (qDh (F + n + 1)) _ _ _ _ _ _ _ = _
   unfold qHz
   have hl := qlM b h S k
   obtain ⟨g, hg⟩ := qd 81 (by omega)
   have := qlH b h hS k (by omega) 81 0 (by omega) L x0 x6 h0 h6 (by omega) g
   rw [<- hg] at this
   rw [qJ9 (by omega), show qFb qC x0 k 0 b h S x6 L = _ from this, qA]
   simp only
   have e : List.range' k (n + 1) = k :: List.range' (k + 1) n := List.range'_succ
   rw [w_s (by omega) (by omega), e, List.flatMap_cons, <- List.append_assoc]
   exact ih (k + 1) (by omega) (L ++ qEJ b h S k) _ _ rfl rfl (by rw [List.length_append]; omega) F
theorem qlK (b h : List Int) (S : Int) : ((List.range' 0 81).flatMap (qA4 b h S)).length <= 162 * 81 := by
 have := qG6 (qA4 b h S) 162 (List.range' 0 81) fun a _ => qYF b h S a
 rw [List.length_range'] at this
 exact this
theorem qab (b h : List Int) {S : Int} (hS : S = 0 \/ S = 1) : qHx b h S = some ((qEI b h S).length, (qEI b h S).length, qEI b h S) := by
 have main : (ob (qES b h S) fun a3 =>
  ob (qDi qC 0 0 b h S 0 [] a3) fun (a4_0, a4_1, a4_2, a4_3, a4_4, a4_5) =>
  ob (qDh qC a4_0 1 a4_1 a4_2 a4_3 a4_4 a4_5) fun (a10_0, a10_1, a10_2) =>
  (some (a10_0, a10_1, a10_2) : Option (Nat × Nat × List (List Int)))) = some ((qEI b h S).length, (qEI b h S).length, qEI b h S) := by
  rw [qRd, qA]
  have hl := qlK b h S
  obtain ⟨g, hg⟩ := qd 81 (by omega)
  have := qlJ b h S 81 0 (by omega) [] 0 0 rfl rfl (by simp only [List.length_nil]; omega) g
  rw [<- hg, List.nil_append] at this
  rw [show qDi qC 0 0 b h S 0 [] (qDC b) = _ from this, qA]
  simp only
  obtain ⟨g, hg⟩ := qd 7 (by omega)
  have := qlL b h hS 7 1 (by omega) ((List.range' 0 81).flatMap (qA4 b h S)) _ _ rfl rfl (by omega) g
  rw [<- hg] at this
  rw [show qDh qC ((List.range' 0 81).flatMap (qA4 b h S)).length 1 b h S ((List.range' 0 81).flatMap (qA4 b h S)).length ((List.range' 0 81).flatMap (qA4 b h S)) = _ from this, qA]
  rfl
 unfold qHx
 rcases hS with rfl | rfl
 ·rw [qt rfl]; exact main
 ·rw [qp (by omega), qt rfl]; exact main
theorem qgl {α β γ : Type} (p : α -> Bool) (f : α -> β) (g : β -> List γ) (L : List α) : ((L.filter p).map f).flatMap g = L.flatMap fun a => if p a then g (f a) else [] := by
 induction L with
 | nil => rfl
 | cons a L ih =>
   rw [List.filter_cons, List.flatMap_cons]
   cases h : p a with
   | true => rw [if_pos rfl, if_pos rfl, List.map_cons, List.flatMap_cons, ih]
   | false => rw [if_neg (by simp), if_neg (by simp), ih]; rfl
theorem qRM {γ : Type} (p : Nat -> Bool) (g : Int -> List γ) : (sq p).flatMap g = (List.range' 0 81).flatMap fun (i : Nat) => if p i then g (i : Int) else [] := by
 unfold sq; rw [qgl, qYI]; rfl
theorem qIy {α β : Type} {f g : α -> List β} {L : List α} (h : ∀ a ∈ L, f a = g a) : L.flatMap f = L.flatMap g := by
 induction L with
 | nil => rfl
 | cons a L ih => rw [List.flatMap_cons, List.flatMap_cons, h a (by simp), ih fun x hx => h x (by simp [hx])]
theorem qo7 {γ : Type} (p : Nat -> Bool) (g : Int -> γ) : (sq p).map g = (List.range' 0 81).flatMap fun (i : Nat) => if p i then [g (i : Int)] else [] := by
 rw [<- qRM p fun t => [g t]]
 induction sq p with
 | nil => rfl
 | cons a L ih => rw [List.map_cons, List.flatMap_cons, ih]; rfl
theorem qh7 {b : List Int} (_hc : Clean b) {c : Nat} (_hcc : c < 81) : kgs b c = decide (kd (b.getD c 0) = 8) := by
 unfold kgs pcs
 rw [qAt (.inl rfl) (by omega) (by omega) (by omega), qAt (.inr rfl) (by omega) (by omega) (by omega), Bool.eq_iff_iff]
 simp only [Bool.or_eq_true, decide_eq_true_eq]
 constructor
 ·rintro (⟨_, h⟩ | ⟨_, h⟩) <;> rw [h] <;> decide
 ·intro h
  have := qLS (x := b.getD c 0) (by omega)
  rw [h] at this
  have hs := qIA (x := b.getD c 0) (by omega)
  rcases hs with h1 | h1 <;> rw [h1, qAt (by omega) (by omega) (by omega) (by omega)] at this
  ·left; omega
  ·right; omega
theorem qWt {b : List Int} (_hc : Clean b) (h : List Int) {S : Int} (hS : S = 0 \/ S = 1) {f t : Nat} (hf : f < 81) (ht : t < 81) (hs : sd (b.getD f 0) = S) (hr : rch (b.getD f 0) f t (tk b) = true) (p : Bool) :
  qAD b h S f t 0 p = (decide (sd (b.getD t 0) ≠ S /\ kd (b.getD t 0) ≠ 8) && if p = true then qCg (b.getD f 0) f t else !qC2 (b.getD f 0) t) := by
 unfold qAD qB1
 rw [if_neg (by simp), if_neg (by simp), qAY (by omega), qAY (by omega), tn, tn, hr, decide_eq_true (p := S = 0 \/ S = 1) hS, Bool.true_and, Bool.true_and]
 by_cases hft : f = t
 ·subst hft
  have : decide (sd (b.getD f 0) = S /\ sd (b.getD f 0) ≠ S /\ kd (b.getD f 0) ≠ 8) = false := decide_eq_false fun hh => hh.2.1 hs
  rw [this, Bool.false_and, Bool.and_false, Bool.false_and, decide_eq_false (p := sd (b.getD f 0) ≠ S /\ kd (b.getD f 0) ≠ 8) (fun hh => hh.1 hs), Bool.false_and]
 ·have e : qCH f t 0 p = 0 := by
   unfold qCH
   rw [if_neg (by omega), if_neg (by simp), if_neg (by omega), if_neg (by omega)]
  rw [decide_eq_true e, Bool.true_and]
  have : decide (sd (b.getD f 0) = S /\ sd (b.getD t 0) ≠ S /\ kd (b.getD t 0) ≠ 8) = decide (sd (b.getD t 0) ≠ S /\ kd (b.getD t 0) ≠ 8) := by simp [hs, -List.getD_eq_getElem?_getD]
  rw [this, Bool.and_assoc]
  congr 1
  cases p with
  | false => simp
  | true =>
    simp only [Bool.not_true, Bool.false_or, if_true]
    unfold qCg
    rw [<- Bool.and_assoc, Bool.and_self]
theorem qpx {b : List Int} (hc : Clean b) (h : List Int) {S : Int} (hS : S = 0 \/ S = 1) {f t : Nat} (hf : f < 81) (ht : t < 81) (hs : sd (b.getD f 0) = S) :
  (if qBW b S (fun _ => true) f t then qx (b.getD f 0) f t else []) = rTo b h S f t := by
 unfold rTo qAu qx qBW
 rw [qh7 hc ht]
 cases hr : rch (b.getD f 0) f t (tk b) with
 | false => simp
 | true =>
   rw [qWt hc h hS hf ht hs hr, qWt hc h hS hf ht hs hr]
   unfold sdP sds
   rw [decide_eq_true (p := S = 0 \/ S = 1) hS]
   by_cases h1 : sd (b.getD t 0) = S
   ·simp [h1, -List.getD_eq_getElem?_getD]
   ·by_cases h2 : kd (b.getD t 0) = 8
    ·simp [h2, -List.getD_eq_getElem?_getD]
    ·simp only [h1, h2, decide_false, Bool.and_self, Bool.not_false, Bool.true_and, ne_eq, not_false_eq_true, if_true, Bool.false_eq_true, if_false]
     cases qC2 (b.getD f 0) t <;> cases qCg (b.getD f 0) f t <;> rfl
theorem qPM {b : List Int} (hc : Clean b) (h : List Int) {S : Int} (hS : S = 0 \/ S = 1) : mvs b h S = qEI b h S := by
 unfold mvs qEI
 congr 1
 ·unfold qq
  rw [qRM]
  apply qIy
  intro f hf
  rw [List.mem_range'_1] at hf
  unfold qA4
  by_cases hs : sd (b.getD f 0) = S
  ·have : sdP b S f = true := by unfold sdP sds; rw [decide_eq_true hs, decide_eq_true (p := S = 0 \/ S = 1) hS]; rfl
   rw [if_pos this, if_pos hs]
   unfold qBp
   rw [tn, qRM]
   apply qIy
   intro t ht
   rw [List.mem_range'_1] at ht
   exact qpx hc h hS (by omega) (by omega) hs
  ·have : sdP b S f = false := by unfold sdP sds; rw [decide_eq_false hs, Bool.and_false]
   rw [if_neg (by simp [this]), if_neg hs]
 ·unfold qAG
  apply qIy
  intro k hk
  rw [List.mem_range'_1] at hk
  unfold qBF qEJ
  have e : hdP h S k = hd_ h S k := by unfold hdP; rw [if_pos ⟨hS, by omega, by omega⟩]
  rw [e]
  by_cases h1 : hd_ h S k > 0
  ·rw [if_neg (by omega), if_pos h1, qo7]
   apply qIy
   intro t ht
   rw [List.mem_range'_1] at ht
   unfold qB8
   rw [Bool.and_true]
   have : qAD b h S 0 t k false = qAr b S k t := by
    unfold qAD qB1 qAr qA2
    have e2 : qCH 0 (t : Int) k false = 0 := by
     unfold qCH
     rw [if_neg (by omega), if_pos (by omega), if_pos ⟨by omega, by omega, rfl, rfl⟩]
    rw [e2, qAt hS (by omega) (by omega) (by omega), qAt hS (by omega) (by omega) (by omega), if_pos (by omega), if_pos (by omega), decide_eq_true (p := S = 0 \/ S = 1) hS, decide_eq_true (p := (S = 0 \/ S = 1) /\ (1 : Int) <= k /\ (k : Int) <= 7) ⟨hS, by omega, by omega⟩, qNt _ (by omega), qAY (by omega), tn, decide_eq_true (p := 0 < hd_ h S k) h1]
    unfold tk
    by_cases h2 : (k : Int) = 1
    ·rw [h2]
     by_cases h0 : b.getD t 0 = 0 <;> simp
    ·by_cases h0 : b.getD t 0 = 0 <;> simp [h2]
   rw [this]
  ·rw [if_pos (by omega), if_neg h1]
end Go.Kk.Pl
namespace Go.Kk.Pl
def qC0 (m n : List Int) : Prop := m.getD 2 0 < n.getD 2 0 \/ (m.getD 2 0 = n.getD 2 0 /\ (m.getD 0 0 < n.getD 0 0 \/ (m.getD 0 0 = n.getD 0 0 /\ (m.getD 1 0 < n.getD 1 0 \/ (m.getD 1 0 = n.getD 1 0 /\ m.getD 3 0 = 0 /\ n.getD 3 0 ≠ 0)))))
theorem hd0 (m : List Int) : List.headD (List.take 4 m) 0 = m.getD 0 0 := by cases m <;> rfl
theorem hd1 (m : List Int) : List.headD (List.tail (List.take 4 m)) 0 = m.getD 1 0 := by
 rcases m with _ | ⟨a, _ | ⟨b, m⟩⟩ <;> rfl
theorem hd2 (m : List Int) : List.headD (List.tail (List.tail (List.take 4 m))) 0 = m.getD 2 0 := by
 rcases m with _ | ⟨a, _ | ⟨b, _ | ⟨c, m⟩⟩⟩ <;> rfl
theorem hd3 (m : List Int) : List.headD (List.tail (List.tail (List.tail (List.take 4 m)))) 0 = m.getD 3 0 := by
 rcases m with _ | ⟨a, _ | ⟨b, _ | ⟨c, _ | ⟨d, m⟩⟩⟩⟩ <;> rfl
theorem qRN (f : Nat -> Bool) : (sq f).Pairwise (· < ·) := by
 unfold sq
 rw [List.pairwise_map]
 have := (List.pairwise_lt_range (n := 81)).filter f
 exact this.imp fun h => by simp only [Int.ofNat_eq_natCast]; omega
theorem qPU {x f t : Int} {m : List Int} (h : m ∈ qx x f t) : ∃ p : Int, m = [f, t, 0, p] := by
 unfold qx at h
 rw [List.mem_append] at h
 rcases h with h | h
 ·split at h
  ·cases h
  ·exact ⟨0, by simpa using h⟩
 ·split at h
  ·exact ⟨1, by simpa using h⟩
  ·cases h
theorem qkQ (x f t : Int) : (qx x f t).Pairwise qC0 := by
 unfold qx
 split <;> split <;> simp [qC0]
theorem qPK {b : List Int} {S : Int} {G : Nat -> Bool} {f : Int} {m : List Int} (h : m ∈ qBp b S G f) : ∃ t p : Int, m = [f, t, 0, p] := by
 unfold qBp at h
 obtain ⟨t, _, ht⟩ := List.mem_flatMap.1 h
 obtain ⟨p, hp⟩ := qPU ht
 exact ⟨t, p, hp⟩
theorem qjQ (b : List Int) (S : Int) (G : Nat -> Bool) (f : Int) : (qBp b S G f).Pairwise qC0 := by
 unfold qBp
 rw [List.pairwise_flatMap]
 refine ⟨fun t _ => qkQ _ _ _, (qRN _).imp fun {t t'} hlt x hx y hy => ?_⟩
 have hlt : t < t' := hlt
 obtain ⟨p, rfl⟩ := qPU hx
 obtain ⟨q, rfl⟩ := qPU hy
 exact Or.inr ⟨rfl, Or.inr ⟨rfl, Or.inl hlt⟩⟩
theorem qXF {b : List Int} {S : Int} {G : Nat -> Bool} {m : List Int} (h : m ∈ qq b S G) : ∃ f t p : Int, m = [f, t, 0, p] := by
 unfold qq at h
 obtain ⟨f, _, hf⟩ := List.mem_flatMap.1 h
 obtain ⟨t, p, hp⟩ := qPK hf
 exact ⟨f, t, p, hp⟩
theorem qjO (b : List Int) (S : Int) (G : Nat -> Bool) : (qq b S G).Pairwise qC0 := by
 unfold qq
 rw [List.pairwise_flatMap]
 refine ⟨fun t _ => qjQ _ _ _ _, (qRN _).imp fun {t t'} hlt x hx y hy => ?_⟩
 have hlt : t < t' := hlt
 obtain ⟨_, _, rfl⟩ := qPK hx
 obtain ⟨_, _, rfl⟩ := qPK hy
 exact Or.inr ⟨rfl, Or.inl hlt⟩
theorem qPL {b h : List Int} {S : Int} {G : Nat -> Bool} {k : Nat} {m : List Int} (hm : m ∈ qBF b h S G k) : ∃ t : Int, m = [0, t, (k : Int), 0] := by
 unfold qBF at hm
 split at hm
 ·cases hm
 ·obtain ⟨t, _, ht⟩ := List.mem_map.1 hm
  exact ⟨t, ht.symm⟩
theorem qjR (b h : List Int) (S : Int) (G : Nat -> Bool) (k : Nat) : (qBF b h S G k).Pairwise qC0 := by
 unfold qBF
 split
 ·exact List.Pairwise.nil
 ·rw [List.pairwise_map]
  refine (qRN _).imp fun {t t'} hlt => ?_
  have hlt : t < t' := hlt
  exact Or.inr ⟨rfl, Or.inr ⟨rfl, Or.inl hlt⟩⟩
theorem qXG {b h : List Int} {S : Int} {G : Nat -> Bool} {m : List Int} (hm : m ∈ qAG b h S G) : ∃ (k : Nat) (t : Int), 1 <= k /\ k <= 7 /\ m = [0, t, (k : Int), 0] := by
 unfold qAG at hm
 obtain ⟨k, hk, h2⟩ := List.mem_flatMap.1 hm
 rw [List.mem_range'_1] at hk
 obtain ⟨t, ht⟩ := qPL h2
 exact ⟨k, t, by omega, by omega, ht⟩
theorem qjP (b h : List Int) (S : Int) (G : Nat -> Bool) : (qAG b h S G).Pairwise qC0 := by
 unfold qAG
 rw [List.pairwise_flatMap]
 refine ⟨fun t _ => qjR _ _ _ _ _, (List.pairwise_lt_range' ..).imp fun {t t'} hlt x hx y hy => ?_⟩
 have hlt : t < t' := hlt
 obtain ⟨_, rfl⟩ := qPL hx
 obtain ⟨_, rfl⟩ := qPL hy
 simp only [qC0, List.getD_cons_zero, List.getD_cons_succ]
 omega
theorem qjU (b h : List Int) (S : Int) : (mvs b h S).Pairwise qC0 := by
 unfold mvs
 rw [List.pairwise_append]
 refine ⟨qjO _ _ _, qjP _ _ _ _, fun x hx y hy => ?_⟩
 obtain ⟨_, _, _, rfl⟩ := qXF hx
 obtain ⟨k, _, h1, _, rfl⟩ := qXG hy
 simp only [qC0, List.getD_cons_zero, List.getD_cons_succ]
 omega
theorem qXJ (b h : List Int) (S : Int) : (mvs b h S).length <= 20000 := by
 unfold mvs
 have h1 := qLF b S fun _ => true
 have h2 := qPJ b h S fun _ => true
 rw [List.length_append]
 omega
end Go.Kk.Pl
namespace Go.Kk.Pl
theorem qVN (es : List (List Int × List Int)) (r v r' d : List Int) : qAd (q7 es r v) r' d = if r' = r then v else qAd es r' d := by
 induction es with
 | nil =>
   by_cases h : r' = r
   ·subst h; simp [q7, qAd]
   ·have : (r == r') = false := by simpa using fun hh => h hh.symm
    simp [q7, qAd, this, h]
 | cons x es ih =>
   obtain ⟨k, u⟩ := x
   by_cases hk : k = r
   ·subst hk
    by_cases h : r' = k
    ·subst h; simp [q7, qAd]
    ·have : (k == r') = false := by simpa using fun hh => h hh.symm
     simp [q7, qAd, this, h]
   ·have e1 : (k == r) = false := by simpa using hk
    by_cases hk' : k = r'
    ·subst hk'
     simp [q7, qAd, e1, hk]
    ·have e2 : (k == r') = false := by simpa using hk'
     simp only [q7, e1, cond_false, qAd, e2, ih]
theorem qhX (es : List (List Int × List Int)) (r v r' : List Int) : qA0 (q7 es r v) r' = (decide (r' = r) || qA0 es r') := by
 induction es with
 | nil =>
   by_cases h : r' = r
   ·subst h; simp [q7, qA0]
   ·have : (r == r') = false := by simpa using fun hh => h hh.symm
    simp [q7, qA0, this, h]
 | cons x es ih =>
   obtain ⟨k, u⟩ := x
   by_cases hk : k = r
   ·subst hk
    by_cases h : r' = k
    ·subst h; simp [q7, qA0]
    ·have : (k == r') = false := by simpa using fun hh => h hh.symm
     simp [q7, qA0, this, h]
   ·have e1 : (k == r) = false := by simpa using hk
    by_cases hk' : k = r'
    ·subst hk'
     simp [q7, qA0, e1]
    ·have e2 : (k == r') = false := by simpa using hk'
     simp only [q7, e1, cond_false, qA0, e2, ih, Bool.false_or]
structure MvOK (b h : List Int) (S f t d p : Int) : Prop where
 pp : p = 0 \/ p = 1
 mov : qAD b h S f t d (p != 0) = true
 tr : 0 <= t /\ t < 81
 fr : 0 <= f /\ f < 81
 dr : 0 <= d /\ d <= 7
 drop : d ≠ 0 -> f = 0 /\ p = 0 /\ 0 < hd_ h S d /\ at_ b t = 0
theorem qjS {b h : List Int} (hc : Clean b) {S : Int} (hS : S = 0 \/ S = 1) {m : List Int} (hm : m ∈ mvs b h S) : ∃ f t d p : Int, m = [f, t, d, p] /\ MvOK b h S f t d p := by
 rw [qPM hc h hS] at hm
 unfold qEI at hm
 rw [List.mem_append] at hm
 rcases hm with hm | hm
 ·obtain ⟨f, hf, hm⟩ := List.mem_flatMap.1 hm
  rw [List.mem_range'_1] at hf
  unfold qA4 at hm
  split at hm <;> try cases hm
  obtain ⟨t, ht, hm⟩ := List.mem_flatMap.1 hm
  rw [List.mem_range'_1] at ht
  unfold rTo at hm
  split at hm <;> try cases hm
  unfold qAu at hm
  rw [List.mem_append] at hm
  rcases hm with hm | hm
  ·split at hm
   ·rename_i hmv
    rw [List.mem_singleton] at hm
    exact ⟨f, t, 0, 0, hm, .inl rfl, hmv, by omega, by omega, by omega, fun h => absurd rfl h⟩
   ·cases hm
  ·split at hm
   ·rename_i hmv
    rw [List.mem_singleton] at hm
    exact ⟨f, t, 0, 1, hm, .inr rfl, hmv, by omega, by omega, by omega, fun h => absurd rfl h⟩
   ·cases hm
 ·obtain ⟨k, hk, hm⟩ := List.mem_flatMap.1 hm
  rw [List.mem_range'_1] at hk
  unfold qEJ at hm
  split at hm <;> try cases hm
  rename_i hh
  obtain ⟨t, ht, hm⟩ := List.mem_flatMap.1 hm
  rw [List.mem_range'_1] at ht
  unfold qB8 at hm
  split at hm
  case isFalse => cases hm
  rename_i hmv
  rw [List.mem_singleton] at hm
  refine ⟨0, t, k, 0, hm, .inl rfl, hmv, by omega, by omega, by omega, fun h => ⟨rfl, rfl, hh, ?_⟩⟩
  have := hmv
  unfold qAD qB1 at this
  rw [if_pos h] at this
  simp only [Bool.and_eq_true, decide_eq_true_eq] at this
  exact this.1.2.2.2
theorem qiZ {m : List Int} : ¬ qC0 m m := by unfold qC0; omega
theorem qjT (b h : List Int) (S : Int) : (mvs b h S).Nodup := by
 refine (qjU b h S).imp fun hl he => ?_
 subst he
 exact qiZ hl
end Go.Kk.Pl
namespace Go.Kk.Pl
theorem qcZ {x : Int} {a c : Nat} (h : qAw x a c = true) : -1 <= df a c /\ df a c <= 1 /\ -2 <= dr a c /\ dr a c <= 2 /\ (dr a c = 2 \/ dr a c = -2 -> df a c = 1 \/ df a c = -1) /\ ¬ (df a c = 0 /\ dr a c = 0) := by
 have h := of_decide_eq_true h
 unfold qBy at h
 have : upS x a c = dr a c \/ upS x a c = - dr a c := by unfold upS; split <;> simp
 omega
theorem qMT {x : Int} {a c : Nat} (h : qAw x a c = true) : btw a c = [] := by
 have hs := qcZ h
 unfold btw
 by_cases hl : qw a c = 0
 ·rw [if_pos hl]
 ·rw [if_neg hl]
  have hl := (qK4 a c).mp hl
  unfold qEA at hl
  have : mx a c <= 1 := by
   unfold mx
   split <;> omega
  rw [show mx a c - 1 = 0 by omega]
  rfl
theorem qpg {x : Int} {a : Nat} : qAw x a a = false := by
 cases h : qAw x a a with
 | false => rfl
 | true => exact absurd (qHH a) (qcZ h).2.2.2.2.2
theorem qo1 {x : Int} {a : Nat} : qAi x a a = false := by
 unfold qAi
 have := qHH a
 have : upS x a a = 0 := by unfold upS; split <;> omega
 rw [decide_eq_false]
 unfold slK
 omega
theorem qYe {x : Int} {a : Nat} {t : Nat -> Bool} : rch x a a t = false := by
 unfold rch; rw [qpg, qo1]; rfl
theorem qIm {k c f : Nat} (hk : k < 81) (hc : c < 81) (h : f ∈ btw c k) : f < 81 /\ f ≠ k /\ f ≠ c /\ ∃ n : Nat, (qA8 (sgn (df k f)) (sgn (dr k f)) k)[n]? = some c /\ ∀ i, (i ∈ btw c k ↔ i ∈ (qA8 (sgn (df k f)) (sgn (dr k f)) k).take n) := by
 have hf : f ∈ btw k c := qIk hc hk h
 have hl : qw k c ≠ 0 := by intro h0; unfold btw at hf; rw [if_pos h0] at hf; cases hf
 have := qKP ⟨k, hk⟩ ⟨c, hc⟩
 simp only [qIp, Bool.or_eq_true, decide_eq_true_eq, Bool.and_eq_true, beq_iff_eq, Bool.not_eq_true'] at this
 obtain ⟨e1, e2, e3⟩ := this.resolve_left hl
 have hW : f ∈ qA8 (sgn (df k c)) (sgn (dr k c)) k := List.mem_of_mem_take (by rw [e1]; exact hf)
 have hli := (qK4 k c).mp hl
 have sx : -1 <= sgn (df k c) /\ sgn (df k c) <= 1 := by unfold sgn; split <;> (try split) <;> omega
 have sy : -1 <= sgn (dr k c) /\ sgn (dr k c) <= 1 := by unfold sgn; split <;> (try split) <;> omega
 have sn : ¬ (sgn (df k c) = 0 /\ sgn (dr k c) = 0) := by
  unfold qEA at hli
  unfold sgn
  split <;> split <;> (try split) <;> (try split) <;> omega
 have hB := qTl ⟨((sgn (df k c) + 1) * 3 + (sgn (dr k c) + 1)).toNat, by omega⟩ ⟨k, hk⟩
 simp only at hB
 rw [show (((((sgn (df k c) + 1) * 3 + (sgn (dr k c) + 1)).toNat / 3 : Nat) : Int) - 1) = sgn (df k c) by omega, show (((((sgn (df k c) + 1) * 3 + (sgn (dr k c) + 1)).toNat % 3 : Nat) : Int) - 1) = sgn (dr k c) by omega] at hB
 have hB := hB.resolve_left (by omega)
 unfold qNk at hB
 rw [List.all_eq_true] at hB
 have hB := hB f hW
 simp only [Bool.and_eq_true, decide_eq_true_eq] at hB
 obtain ⟨b1, b2, b3, b4⟩ := hB
 refine ⟨b1, ?_, ?_, (btw k c).length, ?_, ?_⟩
 ·rintro rfl
  exact b2 (by unfold qw; rw [if_pos rfl])
 ·rintro rfl
  rw [List.contains_iff_mem.mpr hf] at e3
  cases e3
 ·rw [b3, b4]; exact e2
 ·intro i
  rw [b3, b4, e1]
  exact ⟨qIk hc hk, qIk hk hc⟩
theorem qTZ {k c c' f : Nat} (hk : k < 81) (hc : c < 81) (hc' : c' < 81) (h : f ∈ btw c k) (h' : f ∈ btw c' k) (hne : c ≠ c') : c ∈ btw c' k \/ c' ∈ btw c k := by
 obtain ⟨_, _, _, n, e, m⟩ := qIm hk hc h
 obtain ⟨_, _, _, n', e', m'⟩ := qIm hk hc' h'
 rcases Nat.lt_trichotomy n n' with hn | hn | hn
 ·left
  rw [m', List.mem_iff_getElem?]
  exact ⟨n, by rw [List.getElem?_take, if_pos hn]; exact e⟩
 ·subst hn
  rw [e] at e'
  exact absurd (Option.some.inj e') hne
 ·right
  rw [m, List.mem_iff_getElem?]
  exact ⟨n', by rw [List.getElem?_take, if_pos hn]; exact e'⟩
def enm (b : List Int) (s : Int) (c : Nat) : Bool := decide (sd (b.getD c 0) = 1 - s)
def atk (b : List Int) (s : Int) (k c : Nat) : Bool := enm b s c && rch (b.getD c 0) c k (tk b)
def tk2 (b : List Int) (f t i : Nat) : Bool := decide (i = t) || (!decide (i = f) && tk b i)
def qDu (b : List Int) (s : Int) (k f t c : Nat) : Bool := decide (c ≠ t) && (enm b s c && rch (b.getD c 0) c k (tk2 b f t))
def qAH (b : List Int) (s : Int) (k f c : Nat) : Bool := enm b s c && (qAi (b.getD c 0) c k && ((btw c k).contains f && (tk b f && (decide (sd (b.getD f 0) = s) && (btw c k).all fun i => i == f || !tk b i))))
theorem qC4 {b : List Int} {s : Int} {k f c : Nat} : qAH b s k f c = true ↔ enm b s c = true /\ qAi (b.getD c 0) c k = true /\ f ∈ btw c k /\ tk b f = true /\ sd (b.getD f 0) = s /\ ∀ i ∈ btw c k, i ≠ f -> tk b i = false := by
 unfold qAH
 simp only [Bool.and_eq_true, decide_eq_true_eq, List.all_eq_true, Bool.or_eq_true, beq_iff_eq, Bool.not_eq_true', List.contains_iff_mem]
 constructor
 ·rintro ⟨h1, h2, h3, h4, h5, h6⟩
  exact ⟨h1, h2, h3, h4, h5, fun i hi hn => (h6 i hi).resolve_left hn⟩
 ·rintro ⟨h1, h2, h3, h4, h5, h6⟩
  exact ⟨h1, h2, h3, h4, h5, fun i hi => by by_cases hn : i = f; exact .inl hn; exact .inr (h6 i hi hn)⟩
theorem qN0 {b : List Int} {s : Int} (hs : s = 0 \/ s = 1) {c : Nat} (h : enm b s c = true) : tk b c = true := by
 have h := of_decide_eq_true h
 unfold tk
 rw [decide_eq_true_eq]
 intro h0
 rw [h0, qJc] at h
 omega
theorem qYA {b : List Int} {s : Int} (hs : s = 0 \/ s = 1) {k f c c' : Nat} (hk : k < 81) (hc : c < 81) (hc' : c' < 81) (h : qAH b s k f c = true) (h' : qAH b s k f c' = true) : c = c' := by
 apply Classical.byContradiction
 intro hne
 rw [qC4] at h h'
 rcases qTZ hk hc hc' h.2.2.1 h'.2.2.1 hne with hm | hm
 ·have := h'.2.2.2.2.2 c hm (fun e => (qIm hk hc h.2.2.1).2.2.1 e.symm)
  rw [qN0 hs h.1] at this
  cases this
 ·have := h.2.2.2.2.2 c' hm (fun e => (qIm hk hc' h'.2.2.1).2.2.1 e.symm)
  rw [qN0 hs h'.1] at this
  cases this
theorem qYB {b : List Int} {s : Int} {k f f' c : Nat} (h : qAH b s k f c = true) (h' : qAH b s k f' c = true) : f = f' := by
 apply Classical.byContradiction
 intro hne
 rw [qC4] at h h'
 have := h'.2.2.2.2.2 f h.2.2.1 hne
 rw [h.2.2.2.1] at this
 cases this
theorem qBu {x : Int} {a c : Nat} {t : Nat -> Bool} : rch x a c t = true ↔ qAw x a c = true \/ (qAi x a c = true /\ ∀ i ∈ btw a c, t i = false) := by
 unfold rch
 rw [Bool.or_eq_true, Bool.and_eq_true, qG8]
theorem qdZ {b : List Int} {s : Int} {k f t : Nat} (hf : tk b f = true -> sd (b.getD f 0) = s) :
  (∀ c, c < 81 -> qDu b s k f t c = false) ↔ (∀ c, c < 81 -> atk b s k c = true -> t = c \/ t ∈ btw c k) /\ (∀ c, c < 81 -> qAH b s k f c = true -> t = c \/ t ∈ btw c k) := by
 constructor
 ·intro h
  refine ⟨fun c hc ha => ?_, fun c hc hp => ?_⟩
  ·apply Classical.byContradiction
   intro hn
   simp only [not_or] at hn
   have := h c hc
   rw [show qDu b s k f t c = true from ?_] at this
   ·cases this
   ·simp only [atk, Bool.and_eq_true] at ha
    simp only [qDu, Bool.and_eq_true, decide_eq_true_eq]
    refine ⟨fun e => hn.1 e.symm, ha.1, ?_⟩
    rw [qBu] at ha ⊢
    refine ha.2.imp id fun hh => ⟨hh.1, fun i hi => ?_⟩
    unfold tk2
    rw [hh.2 i hi, decide_eq_false (p := i = t) (fun e => hn.2 (e ▸ hi))]
    simp
  ·apply Classical.byContradiction
   intro hn
   simp only [not_or] at hn
   have := h c hc
   rw [show qDu b s k f t c = true from ?_] at this
   ·cases this
   ·rw [qC4] at hp
    simp only [qDu, Bool.and_eq_true, decide_eq_true_eq]
    refine ⟨fun e => hn.1 e.symm, hp.1, ?_⟩
    rw [qBu]
    refine .inr ⟨hp.2.1, fun i hi => ?_⟩
    unfold tk2
    rw [decide_eq_false (p := i = t) (fun e => hn.2 (e ▸ hi))]
    by_cases hif : i = f
    ·simp [hif]
    ·rw [hp.2.2.2.2.2 i hi hif]; simp
 ·rintro ⟨h1, h2⟩ c hc
  cases ha : qDu b s k f t c with
  | false => rfl
  | true =>
    exfalso
    simp only [qDu, Bool.and_eq_true, decide_eq_true_eq] at ha
    obtain ⟨hct, he, hr⟩ := ha
    have tt : tk2 b f t t = true := by unfold tk2; simp
    have out : t ∉ btw c k := by
     intro hm
     rw [qBu] at hr
     rcases hr with hr | hr
     ·rw [qMT hr] at hm; cases hm
     ·rw [hr.2 t hm] at tt; cases tt
    cases hak : atk b s k c with
    | true => exact (h1 c hc hak).elim (fun e => hct e.symm) out
    | false =>
      unfold atk at hak
      rw [he, Bool.true_and] at hak
      have hn : ¬ (qAw (b.getD c 0) c k = true \/ (qAi (b.getD c 0) c k = true /\ ∀ i ∈ btw c k, tk b i = false)) := by
       rw [<- qBu, hak]; simp
      simp only [not_or, not_and] at hn
      rw [qBu] at hr
      have hr := hr.resolve_left hn.1
      have two : ∀ i ∈ btw c k, i ≠ f -> tk b i = false := by
       intro i hi hif
       have := hr.2 i hi
       unfold tk2 at this
       rw [decide_eq_false hif] at this
       simpa using (Bool.or_eq_false_iff.mp this).2
      have hmf : f ∈ btw c k /\ tk b f = true := by
       apply Classical.byContradiction
       intro hh
       apply hn.2 hr.1
       intro i hi
       by_cases hif : i = f
       ·subst hif
        cases htk : tk b i with
        | false => rfl
        | true => exact absurd ⟨hi, htk⟩ hh
       ·exact two i hi hif
      exact (h2 c hc (qC4.mpr ⟨he, hr.1, hmf.1, hmf.2, hf hmf.2, two⟩)).elim (fun e => hct e.symm) out
theorem qqA {b : List Int} {s : Int} (hs : s = 0 \/ s = 1) {k c c' t : Nat} (hk : k < 81) (hc : c < 81) (hc' : c' < 81) (h : atk b s k c = true) (h' : atk b s k c' = true) (hne : c ≠ c')
  (ht : t = c \/ t ∈ btw c k) (ht' : t = c' \/ t ∈ btw c' k) : False := by
 have no : ∀ {c c' : Nat}, atk b s k c = true -> atk b s k c' = true -> c ∈ btw c' k -> False := by
  intro c c' h h' hm
  simp only [atk, Bool.and_eq_true] at h h'
  rcases qBu.mp h'.2 with hr | hr
  ·rw [qMT hr] at hm; cases hm
  ·have := hr.2 c hm
   rw [qN0 hs h.1] at this; cases this
 rcases ht with rfl | ht
 ·rcases ht' with rfl | ht'
  ·exact hne rfl
  ·exact no h h' ht'
 ·rcases ht' with rfl | ht'
  ·exact no h' h ht
  ·rcases qTZ hk hc hc' ht ht' hne with hm | hm
   ·exact no h h' hm
   ·exact no h' h hm
end Go.Kk.Pl
namespace Go.Kk.Pl
theorem qfn {f g : Nat -> Bool} (h : ∀ i, i < 81 -> f i = g i) : qAq f = qAq g := by
 unfold qAq
 apply List.countP_congr
 intro i hi
 rw [h i (List.mem_range.mp hi)]
theorem qfr : ∀ f : Fin 81, qAq (only ((f.val : Nat) : Int)) = 1 := by decide +kernel
theorem qG1 {g : Nat -> Bool} : qAq g = 1 ↔ ∃ f, f < 81 /\ ∀ i, i < 81 -> (g i = true ↔ i = f) := by
 constructor
 ·intro h
  unfold qAq at h
  rw [List.countP_eq_length_filter] at h
  obtain ⟨f, hf⟩ := List.length_eq_one_iff.mp h
  have hm : ∀ i, i ∈ (List.range 81).filter g ↔ i = f := by rw [hf]; simp
  refine ⟨f, ?_, fun i hi => ?_⟩
  ·have := (hm f).mpr rfl
   rw [List.mem_filter, List.mem_range] at this
   exact this.1
  ·rw [<- hm i, List.mem_filter, List.mem_range]
   exact ⟨fun h => ⟨hi, h⟩, fun h => h.2⟩
 ·rintro ⟨f, hf, h⟩
  rw [<- qfr ⟨f, hf⟩]
  apply qfn
  intro i hi
  unfold only
  rw [Bool.eq_iff_iff, h i hi, decide_eq_true_eq]
  simp only
  omega
theorem qN8 {g : Nat -> Bool} {f : Nat} (hf : f < 81) (h : ∀ i, i < 81 -> (g i = true ↔ i = f)) : fst g = f := by
 apply qKl hf ((h f hf).mpr rfl)
 intro i hi
 cases hg : g i with
 | false => rfl
 | true => exact absurd ((h i (by omega)).mp hg) (by omega)
def qDq (k c : Nat) (i : Nat) : Bool := (btw c k).contains i || only c i
def qEH (b : List Int) (s : Int) (k c : Nat) : Option Nat := (List.range 81).find? fun f => qAH b s k f c
theorem qk6 {b : List Int} {s : Int} {k c f : Nat} (h : qAH b s k f c = true) (hf : f < 81) : qEH b s k c = some f := by
 unfold qEH
 cases hp : (List.range 81).find? fun f => qAH b s k f c with
 | none =>
   rw [List.find?_eq_none] at hp
   exact absurd h (hp f (List.mem_range.mpr hf))
 | some f' =>
   have := List.find?_some hp
   rw [qYB this h]
theorem qX9 {b : List Int} {s : Int} {k c : Nat} (h : ∀ f, f < 81 -> qAH b s k f c = false) : qEH b s k c = none := by
 unfold qEH
 rw [List.find?_eq_none]
 intro f hf
 rw [h f (List.mem_range.mp hf)]
 simp
def qBl (b : List Int) (s : Int) (k : Nat) (P : Nat -> Bool) (es : List (List Int × List Int)) : Prop :=
 ∀ f : Nat, f < 81 -> (qA0 es [(f : Int)] = true ↔ ∃ c, c < 81 /\ P c = true /\ qAH b s k f c = true) /\ ∀ c, c < 81 -> P c = true -> qAH b s k f c = true -> qAd es [(f : Int)] [0, 0] = prS (qDq k c)
theorem qk9 {b : List Int} (hcl : Clean b) (h : List Int) (S : Int) {s : Int} (hs : s = 0 \/ s = 1) {k : Nat} (hk : k < 81) (x2 : Nat) (x3 x4 : Int) (x14 : Nat) (x15 : List Int) (N : Nat) (L : List Int) {i : Nat} (hi : i < L.length) (hl : L.length <= 1000) {c : Nat} (hc : c < 81) (hq : L[i] = (c : Int)) (he : enm b s c = true)
  (es : List (List Int × List Int)) (R : Int -> Int -> Nat -> Int -> Int -> Nat -> Int -> Int -> List Int -> List Int -> Int -> List (List Int) -> List (List Int) -> List (List Int × List Int) -> Nat -> List Int -> Nat -> List Int -> Option (Int × Int × Nat × Int × Int × List Int × List Int × Int × List (List Int) × List (List Int) × List (List Int × List Int) × Nat × List Int)) :
  qFx R s k x2 x3 x4 L.length L.length i b h S (qI b) (qO b) es x14 x15 N L =
   R s k x2 x3 x4 L.length L.length ((i + 1 : Nat) : Int) b h S (qI b) (qO b) (match qEH b s k c with | none => es | some f => q7 es [(f : Int)] (prS (qDq k c))) x14 x15 N L := by
 unfold qFx
 have hget : L.getD i 0 = L[i] := qFv hi
 rw [qc (by omega), qa (by omega) (by omega), tn, hget, hq, qYK hc hk, qA]
 simp only
 rw [qJp hcl, qA]
 simp only
 rw [qEn, qA]
 simp only
 rw [qNs, qA, w_s (n := (i : Int) + 1) (by omega) (by omega)]
 have inm : ∀ f, f < 81 -> qAH b s k f c = true -> ∀ i, i < 81 -> (((btw c k).contains i && tk b i) = true ↔ i = f) := by
  intro f _ hp i _
  rw [qC4] at hp
  rw [Bool.and_eq_true, List.contains_iff_mem]
  constructor
  ·rintro ⟨h1, h2⟩
   apply Classical.byContradiction
   intro hn
   rw [hp.2.2.2.2.2 i h1 hn] at h2; cases h2
  ·rintro rfl; exact ⟨hp.2.2.1, hp.2.2.2.1⟩
 by_cases h1 : ((qAq fun i => (btw c k).contains i && tk b i : Nat) : Int) = 1
 ·rw [qt h1]
  obtain ⟨f, hf, hm⟩ := qG1.mp (by omega : (qAq fun i => (btw c k).contains i && tk b i) = 1)
  have only_f : ∀ f', f' < 81 -> qAH b s k f' c = true -> f' = f := fun f' hf' hp => (hm f' hf').mp ((inm f' hf' hp f' hf').mpr rfl)
  have none' : qAH b s k f c = false -> qEH b s k c = none := by
   intro h0
   apply qX9
   intro f' hf'
   cases hp : qAH b s k f' c with
   | false => rfl
   | true => rw [only_f f' hf' hp, h0] at hp; cases hp
  have hmf := (hm f hf).mpr rfl
  rw [Bool.and_eq_true, List.contains_iff_mem] at hmf
  rw [qPc, qA]
  simp only
  rw [qEn, qA]
  simp only
  rw [qIv, qA]
  by_cases hsd : sd (b.getD f 0) = s
  ·have hE0 : isE (fun i => ((btw c k).contains i && tk b i) && sdP b s i) = false := by
    cases hE : isE (fun i => ((btw c k).contains i && tk b i) && sdP b s i) with
    | false => rfl
    | true =>
      have := qCc.mp hE f hf
      rw [(hm f hf).mpr rfl] at this
      unfold sdP sds at this
      rw [decide_eq_true hs, decide_eq_true hsd] at this
      cases this
   rw [hE0, b_f]
   rw [qN5, qA, qCq, qA, qAY (by omega), tn]
   rw [qN8 hf hm, qA]
   simp only
   rw [qJ0, qA]
   simp only
   rw [qLe _ hc, qA]
   simp only
   rw [qD7, qA]
   have hh : ∀ g : Nat -> Bool, has g (k : Int) = g k := by
    intro g; unfold has; rw [decide_eq_true (by omega), decide_eq_true (by omega), tn]; rfl
   rw [hh]
   cases hr1 : rch (b.getD c 0) c k (fun i => tk b i && !only f i) with
   | false =>
     rw [Bool.not_false, b_t, none' ?_]
     ·rfl
     ·cases hp : qAH b s k f c with
      | false => rfl
      | true =>
        rw [qC4] at hp
        rw [<- hr1, qBu.mpr (.inr ⟨hp.2.1, ?_⟩)]
        intro i hi
        by_cases hif : i = f
        ·subst hif; unfold only; simp
        ·rw [hp.2.2.2.2.2 i hi hif]; rfl
   | true =>
     rw [Bool.not_true, b_f, qA, qA]
     simp only
     rw [qLe _ hc, qA]
     simp only
     rw [qD7, qA, hh]
     cases hr2 : rch (b.getD c 0) c k (tk b) with
     | true =>
       rw [b_t, none' ?_]
       ·rfl
       ·cases hp : qAH b s k f c with
        | false => rfl
        | true =>
          rw [qC4] at hp
          rcases qBu.mp hr2 with hr | hr
          ·rw [qMT hr] at hmf; cases hmf.1
          ·rw [hr.2 f hmf.1] at hmf; cases hmf.2
     | false =>
       have hn : ¬ (qAw (b.getD c 0) c k = true \/ (qAi (b.getD c 0) c k = true /\ ∀ i ∈ btw c k, tk b i = false)) := by
        rw [<- qBu, hr2]; simp
       simp only [not_or] at hn
       have hp : qAH b s k f c = true := by
        rw [qC4]
        refine ⟨he, ((qBu.mp hr1).resolve_left hn.1).1, hmf.1, hmf.2, hsd, fun i hi hif => ?_⟩
        cases htk : tk b i with
        | false => rfl
        | true =>
          exact absurd ((hm i (qIl hc hk hi)).mp (by rw [Bool.and_eq_true, List.contains_iff_mem]; exact ⟨hi, htk⟩)) hif
       rw [b_f, qGf, qA, qk6 hp hf]
       rfl
  ·have hE0 : isE (fun i => ((btw c k).contains i && tk b i) && sdP b s i) = true := by
    rw [qCc]
    intro i hi
    cases hx : ((btw c k).contains i && tk b i) with
    | false => rfl
    | true =>
      rw [(hm i hi).mp hx]
      unfold sdP sds
      rw [decide_eq_false hsd]; simp
   rw [hE0, b_t, none' ?_]
   ·rfl
   ·cases hp : qAH b s k f c with
    | false => rfl
    | true => exact absurd (qC4.mp hp).2.2.2.2.1 hsd
 ·rw [qp h1, qX9 ?_]
  ·rfl
  ·intro f hf
   cases hp : qAH b s k f c with
   | false => rfl
   | true =>
     have := qG1.mpr ⟨f, hf, inm f hf hp⟩
     omega
theorem qk7 {b : List Int} {s : Int} (hs : s = 0 \/ s = 1) {k : Nat} (hk : k < 81) {P : Nat -> Bool} {es : List (List Int × List Int)} (hP : qBl b s k P es) {c : Nat} (hc : c < 81) :
  qBl b s k (fun i => P i || decide (i = c)) (match qEH b s k c with | none => es | some f => q7 es [(f : Int)] (prS (qDq k c))) := by
 cases hp : qEH b s k c with
 | none =>
   unfold qEH at hp
   rw [List.find?_eq_none] at hp
   intro f hf
   have hno := hp f (List.mem_range.mpr hf)
   obtain ⟨h1, h2⟩ := hP f hf
   refine ⟨?_, ?_⟩
   ·rw [h1]
    constructor
    ·rintro ⟨c', a, a', a''⟩; exact ⟨c', a, by simp [a'], a''⟩
    ·rintro ⟨c', a, a', a''⟩
     rw [Bool.or_eq_true, decide_eq_true_eq] at a'
     rcases a' with a' | rfl
     ·exact ⟨c', a, a', a''⟩
     ·exact absurd a'' hno
   ·intro c' a a' a''
    rw [Bool.or_eq_true, decide_eq_true_eq] at a'
    rcases a' with a' | rfl
    ·exact h2 c' a a' a''
    ·exact absurd a'' hno
 | some g =>
   have hg := List.find?_some (show (List.range 81).find? (fun f => qAH b s k f c) = some g from hp)
   have hg' : g < 81 := List.mem_range.mp (List.mem_of_find?_eq_some (show (List.range 81).find? (fun f => qAH b s k f c) = some g from hp))
   intro f hf
   obtain ⟨h1, h2⟩ := hP f hf
   simp only
   rw [qhX, qVN]
   by_cases hfg : f = g
   ·subst hfg
    rw [decide_eq_true rfl, if_pos rfl]
    refine ⟨⟨fun _ => ⟨c, hc, by simp, hg⟩, fun _ => rfl⟩, fun c' a _ a'' => ?_⟩
    rw [qYA hs hk hc a hg a'']
   ·have hne : ¬ ([(f : Int)] = [(g : Int)]) := by
     intro e
     have := List.cons.inj e
     omega
    rw [decide_eq_false hne, if_neg hne, Bool.false_or]
    have hno : ¬ qAH b s k f c = true := fun hp' => hfg (qYB hp' hg)
    refine ⟨?_, ?_⟩
    ·rw [h1]
     constructor
     ·rintro ⟨c', a, a', a''⟩; exact ⟨c', a, by simp [a'], a''⟩
     ·rintro ⟨c', a, a', a''⟩
      rw [Bool.or_eq_true, decide_eq_true_eq] at a'
      rcases a' with a' | rfl
      ·exact ⟨c', a, a', a''⟩
      ·exact absurd a'' hno
    ·intro c' a a' a''
     rw [Bool.or_eq_true, decide_eq_true_eq] at a'
     rcases a' with a' | rfl
     ·exact h2 c' a a' a''
     ·exact absurd a'' hno
theorem qJK {b : List Int} {s : Int} {k : Nat} {P Q : Nat -> Bool} {es : List (List Int × List Int)} (h : ∀ i, i < 81 -> P i = Q i) (hP : qBl b s k P es) : qBl b s k Q es := by
 intro f hf
 obtain ⟨h1, h2⟩ := hP f hf
 refine ⟨?_, fun c hc hq => h2 c hc (by rw [h c hc]; exact hq)⟩
 rw [h1]
 constructor
 ·rintro ⟨c, a, a', a''⟩; exact ⟨c, a, by rw [<- h c a]; exact a', a''⟩
 ·rintro ⟨c, a, a', a''⟩; exact ⟨c, a, by rw [h c a]; exact a', a''⟩
theorem qk8 {b : List Int} (hcl : Clean b) (h : List Int) (S : Int) {s : Int} (hs : s = 0 \/ s = 1) {k : Nat} (hk : k < 81) (x2 : Nat) (x3 x4 : Int) (x14 : Nat) (x15 : List Int) (N : Nat) (L : List Int) (hl : L.length <= 1000) (hL : ∀ q ∈ L, 0 <= q /\ q < 81 /\ enm b s q.toNat = true) : ∀ (n i : Nat), i + n = L.length -> ∀ (P : Nat -> Bool) (es : List (List Int × List Int)), qBl b s k P es ->
  ∃ es', (∀ F, qEq (F + n + 1) s k x2 x3 x4 L.length L.length i b h S (qI b) (qO b) es x14 x15 N L = some (s, (k : Int), x2, x3, x4, b, h, S, qI b, qO b, es', x14, x15)) /\ qBl b s k (fun c => P c || (L.drop i).contains (c : Int)) es' := by
 intro n
 induction n with
 | zero =>
   intro i hi P es hP
   refine ⟨es, fun F => ?_, ?_⟩
   ·show qFx (qEq (F + 0)) _ _ _ _ _ _ _ _ _ _ _ _ _ _ _ _ _ _ = _
    unfold qFx
    rw [qW (by omega)]
   ·rw [List.drop_eq_nil_of_le (by omega)]
    exact qJK (fun i _ => by simp) hP
 | succ n ih =>
   intro i hi P es hP
   have hil : i < L.length := by omega
   obtain ⟨q0, q1, q2⟩ := hL L[i] (List.getElem_mem hil)
   obtain ⟨c, hc⟩ : ∃ c : Nat, L[i] = c := ⟨L[i].toNat, by omega⟩
   rw [hc] at q0 q1 q2
   obtain ⟨es', h1, h2⟩ := ih (i + 1) (by omega) _ _ (qk7 hs hk hP (c := c) (by omega))
   refine ⟨es', fun F => ?_, qJK (fun j _ => ?_) h2⟩
   ·show qFx (qEq (F + n + 1)) _ _ _ _ _ _ _ _ _ _ _ _ _ _ _ _ _ _ = _
    rw [qk9 hcl h S hs hk x2 x3 x4 x14 x15 N L hil hl (by omega) hc q2]
    exact h1 F
   ·rw [List.drop_eq_getElem_cons hil, List.contains_cons, hc, Bool.or_assoc]
    congr 2
    rw [Bool.eq_iff_iff, decide_eq_true_eq, beq_iff_eq]
    omega
def qAe : List Int := [2, 6, 7, 14, 15]
theorem qiD {b : List Int} (hcl : Clean b) (h : List Int) (S : Int) {s : Int} (hs : s = 0 \/ s = 1) {k : Nat} (hk : k < 81) : ∀ (n i : Nat), i + n = 5 -> ∀ (P : Nat -> Bool) (es : List (List Int × List Int)), qBl b s k P es ->
  ∃ es', (∀ F, qEp (F + n + 1) s k 5 5 i b h S (qI b) (qO b) es 5 qAe = some (b, h, S, qI b, qO b, es')) /\ qBl b s k (fun c => P c || (qAe.drop i).any fun x => pcs b (pc (1 - s) x) c) es' := by
 intro n
 induction n with
 | zero =>
   intro i hi P es hP
   refine ⟨es, fun F => ?_, ?_⟩
   ·show qGo (qEp (F + 0)) _ _ _ _ _ _ _ _ _ _ _ _ _ = _
    unfold qGo
    rw [qW (by omega)]
   ·rw [List.drop_eq_nil_of_le (by show 5 <= i; omega)]
    exact qJK (fun i _ => by simp) hP
 | succ n ih =>
   intro i hi P es hP
   have hil : i < qAe.length := by show i < 5; omega
   obtain ⟨x, hx, hget, hdr⟩ : ∃ x, (x = 2 \/ x = 6 \/ x = 7 \/ x = 14 \/ x = 15) /\ qAe.getD i 0 = x /\ qAe.drop i = x :: qAe.drop (i + 1) := by
    have : ∀ j : Fin 5, (qAe.getD j.val 0 = 2 \/ qAe.getD j.val 0 = 6 \/ qAe.getD j.val 0 = 7 \/ qAe.getD j.val 0 = 14 \/ qAe.getD j.val 0 = 15) /\ qAe.drop j.val = qAe.getD j.val 0 :: qAe.drop (j.val + 1) := by decide
    have := this ⟨i, hil⟩
    exact ⟨qAe.getD i 0, this.1, rfl, this.2⟩
   obtain ⟨es1, h1, h2⟩ := qk8 hcl h S hs hk 5 5 i 5 qAe (sq (pcs b (pc (1 - s) x))).length (sq (pcs b (pc (1 - s) x))) (by have := qEd (pcs b (pc (1 - s) x)); omega) (by
    intro q hq
    obtain ⟨a, a', a''⟩ := qGZ hq
    refine ⟨a, a', ?_⟩
    have := of_decide_eq_true a''
    unfold enm
    rw [this.2, (qDk (s := 1 - s) (by omega) (k := x) (by omega) (by omega) (by omega)).1]
    simp) (sq (pcs b (pc (1 - s) x))).length 0 (by omega) P es hP
   obtain ⟨es', h3, h4⟩ := ih (i + 1) (by omega) _ _ h2
   obtain ⟨g, hg⟩ := qd (sq (pcs b (pc (1 - s) x))).length (by have := qEd (pcs b (pc (1 - s) x)); omega)
   refine ⟨es', fun F => ?_, qJK (fun j hj => ?_) h4⟩
   ·show qGo (qEp (F + n + 1)) _ _ _ _ _ _ _ _ _ _ _ _ _ = _
    unfold qGo
    rw [qc (by omega), qa (by omega) (by omega), tn, hget, w_s (n := 1 - s) (by omega) (by omega), qGI, qA]
    simp only
    rw [qJj, qA]
    simp only
    have := h1 g
    rw [<- hg] at this
    rw [show qEq qC s k 5 5 i (sq (pcs b (pc (1 - s) x))).length (Int.ofNat (sq (pcs b (pc (1 - s) x))).length) 0 b h S (qI b) (qO b) es 5 qAe (sq (pcs b (pc (1 - s) x))).length (sq (pcs b (pc (1 - s) x))) = _ from this, qA]
    simp only
    rw [w_s (n := (i : Int) + 1) (by omega) (by omega)]
    exact h3 F
   ·rw [hdr, List.any_cons, List.drop_zero, <- Bool.or_assoc]
    congr 2
    cases hp : pcs b (pc (1 - s) x) j with
    | true => rw [List.contains_iff_mem.mpr (qWo hj hp)]
    | false =>
      cases hcn : (sq (pcs b (pc (1 - s) x))).contains (j : Int) with
      | false => rfl
      | true =>
        have := (qGZ (List.contains_iff_mem.mp hcn)).2.2
        rw [tn, hp] at this
        cases this
theorem qo0 {b : List Int} {s : Int} (_hs : s = 0 \/ s = 1) {c k : Nat} (he : enm b s c = true) (h : qAi (b.getD c 0) c k = true) : (qAe.any fun x => pcs b (pc (1 - s) x) c) = true := by
 have he := of_decide_eq_true he
 have h := of_decide_eq_true h
 have hk : kd (b.getD c 0) = 2 \/ kd (b.getD c 0) = 6 \/ kd (b.getD c 0) = 7 \/ kd (b.getD c 0) = 14 \/ kd (b.getD c 0) = 15 := by
  unfold slK at h; omega
 have hx := qLS (x := b.getD c 0) (by omega)
 rw [List.any_eq_true]
 refine ⟨kd (b.getD c 0), ?_, ?_⟩
 ·unfold qAe
  rcases hk with h | h | h | h | h <;> rw [h] <;> simp
 ·unfold pcs
  rw [decide_eq_true_eq, <- he, <- hx]
  refine ⟨fun h0 => ?_, rfl⟩
  rw [h0, qFE] at hk
  omega
theorem qlB {b : List Int} (hcl : Clean b) (h : List Int) (S : Int) {s : Int} (hs : s = 0 \/ s = 1) : ∃ es, qGm s b h S (qI b) (qO b) = some es /\
  (kg b s < 0 -> es = []) /\ (0 <= kg b s -> qBl b s (kg b s).toNat (fun c => enm b s c && (qAe.any fun x => pcs b (pc (1 - s) x) c)) es) := by
 have hr := qU1 (pcs b (pc s 8))
 unfold qGm
 rw [qOl, show fst (pcs b (pc s 8)) = kg b s from rfl, qA]
 by_cases hk : kg b s < 0
 ·rw [qc hk]
  exact ⟨[], rfl, fun _ => rfl, fun h => by omega⟩
 ·rw [qW hk]
  have hk1 : kg b s < 81 := hr.2
  obtain ⟨k, hkk⟩ : ∃ k : Nat, kg b s = k := ⟨(kg b s).toNat, by omega⟩
  rw [hkk]
  have h0 : qBl b s k (fun _ => false) [] := by
   intro f hf
   exact ⟨⟨fun h => (by cases h), fun ⟨_, _, h, _⟩ => (by cases h)⟩, fun _ _ h => (by cases h)⟩
  obtain ⟨es, h1, h2⟩ := qiD hcl h S hs (k := k) (by omega) 5 0 rfl _ [] h0
  obtain ⟨g, hg⟩ := qd 5 (by omega)
  have := h1 g
  rw [<- hg] at this
  refine ⟨es, ?_, fun h => by omega, fun _ => ?_⟩
  ·rw [show qEp qC s k 5 5 0 b h S (qI b) (qO b) [] 5 [2, 6, 7, 14, 15] = _ from this, qA]
  ·rw [tn]
   refine qJK (fun i _ => ?_) h2
   rw [List.drop_zero, Bool.false_or]
   cases ha : (qAe.any fun x => pcs b (pc (1 - s) x) i) with
   | false => simp
   | true =>
     rw [List.any_eq_true] at ha
     obtain ⟨x, hx, hp⟩ := ha
     have := of_decide_eq_true hp
     unfold qAe at hx
     have hx' : x = 2 \/ x = 6 \/ x = 7 \/ x = 14 \/ x = 15 := by simpa using hx
     unfold enm
     rw [this.2, (qDk (s := 1 - s) (by omega) (k := x) (by omega) (by omega) (by omega)).1]
     simp
end Go.Kk.Pl
namespace Go.Kk.Pl
def laid (b : List Int) (s f d : Int) (p : Bool) : Int := if d ≠ 0 then 16 * s + d else if p = true then 16 * s + up_ (kd (at_ b f)) else at_ b f
def was (b : List Int) (s f d : Int) : Int := if d ≠ 0 then 16 * s + d else at_ b f
def mb (b : List Int) (s f t d : Int) (p : Bool) : List Int := if d ≠ 0 then put b t (laid b s f d p) else put (put b f 0) t (laid b s f d p)
def mh (b h : List Int) (s t d : Int) : List Int := if d ≠ 0 then qv h s d (-1) else if at_ b t = 0 then h else qv h s (rw_ (kd (at_ b t))) 1
def qHX (K : Int) (b h : List Int) (s f t d : Int) (p : Bool) : Int := qKy (if d ≠ 0 then qCL (qFG K h s d (-1)) b t (laid b s f d p) else
 if at_ b t = 0 then qCL (qCL K b f 0) (put b f 0) t (laid b s f d p) else qFG (qCL (qCL K b f 0) (put b f 0) t (laid b s f d p)) h s (rw_ (kd (at_ b t))) 1)
theorem qIW {k : Int} (h : up_ k ≠ 0) : 1 <= up_ k /\ up_ k <= 15 /\ up_ k ≠ 13 := by
 unfold up_ at h ⊢
 split
 ·omega
 ·rename_i h2; rw [if_neg h2] at h; exact absurd rfl h
end Go.Kk.Pl
namespace Go.Kk.Pl
def kof (b h : List Int) (s : Int) : Int := (qCz b h s).getD 0
theorem qV5 (b h : List Int) (s : Int) : qCz b h s = some (kof b h s) := by
 obtain ⟨k, hk, _⟩ := qh6 b h s
 unfold kof; rw [hk]; rfl
end Go.Kk.Pl
namespace Go.Kk.Pl
def dl (x k : Int) : Int := if rw_ (kd x) = k then 1 else 0
theorem qTu (x : Int) (l : List Int) (k : Int) : (cnt (x :: l) k : Int) = cnt l k + dl x k := by
 unfold cnt dl
 rw [List.countP_cons]
 by_cases h : rw_ (kd x) = k
 ·simp [h]
 ·have : (rw_ (kd x) == k) = false := by simpa using h
  simp [h]
theorem qfs (x k : Int) : ∀ (l : List Int) (i : Nat), i < l.length -> (cnt (l.set i x) k : Int) + dl (l.getD i 0) k = cnt l k + dl x k := by
 intro l
 induction l with
 | nil => intro i hi; simp at hi
 | cons y l ih =>
   intro i hi
   cases i with
   | zero =>
     simp only [List.set_cons_zero, qTu, List.getD_cons_zero]
     omega
   | succ i =>
     have := ih i (by simpa using hi)
     simp only [List.set_cons_succ, qTu, List.getD_cons_succ]
     omega
theorem qhi (x : Int) : kd (if kd x = 0 then 0 else x) = kd x := by
 split
 ·rename_i h; rw [h]; exact qFE
 ·rfl
theorem qNq {b : List Int} (hl : b.length = 81) {q : Int} (hq : 0 <= q /\ q < 81) (x k : Int) : (cnt (put b q x) k : Int) + dl (at_ b q) k = cnt b k + dl x k := by
 unfold put at_
 rw [if_pos hq, if_pos hq]
 have := qfs (if kd x = 0 then 0 else x) k b q.toNat (by omega)
 have e : dl (if kd x = 0 then 0 else x) k = dl x k := by unfold dl; rw [qhi]
 rw [e] at this
 exact this
theorem qNy {k : Int} (h : 1 <= k) : dl 0 k = 0 := by
 unfold dl
 rw [if_neg]
 rw [qFE]
 unfold rw_
 rw [if_pos (by omega)]
 omega
theorem qFs {n : Int} (h1 : -128 <= n) (h2 : n <= 127) : IntKind.wrap .i8 n = n := qBJ h1 h2
theorem qqM (n : Int) : -128 <= IntKind.wrap .i8 n /\ IntKind.wrap .i8 n <= 127 := by
 simp [IntKind.wrap, IntKind.signed, IntKind.bits]
 omega
theorem qOS (h : List Int) (s k d : Int) : (qv h s k d).length = h.length := by simp [qv]
theorem qUs {h : List Int} (hf : qAU h) (s k d : Int) : qAU (qv h s k d) := by
 intro i
 unfold qv
 by_cases e : s.toNat * 8 + k.toNat = i
 ·by_cases hi : i < h.length
  ·subst e
   rw [List.getD_eq_getElem?_getD, List.getElem?_set_self hi]
   exact qqM _
  ·rw [List.getD_eq_getElem?_getD, List.getElem?_eq_none (by simpa using hi)]
   simp
 ·rw [List.getD_eq_getElem?_getD, List.getElem?_set_ne e, <- List.getD_eq_getElem?_getD]
  exact hf i
theorem qFB {h : List Int} (hl : h.length = 16) {s k : Int} (hs : s = 0 \/ s = 1) (k0 : 0 <= k) (k1 : k < 8) (d : Int) {s' k' : Int} (hs' : s' = 0 \/ s' = 1) (k0' : 0 <= k') (k1' : k' < 8) :
  hd_ (qv h s k d) s' k' = if s' = s /\ k' = k then IntKind.wrap .i8 (hd_ h s k + d) else hd_ h s' k' := by
 by_cases e : s' = s /\ k' = k
 ·obtain ⟨rfl, rfl⟩ := e
  rw [if_pos ⟨rfl, rfl⟩]
  unfold qv
  rw [show hd_ (h.set (s'.toNat * 8 + k'.toNat) (IntKind.wrap .i8 (hd_ h s' k' + d))) s' k' = (h.set (s'.toNat * 8 + k'.toNat) (IntKind.wrap .i8 (hd_ h s' k' + d))).getD (s'.toNat * 8 + k'.toNat) 0 from rfl,
   List.getD_eq_getElem?_getD, List.getElem?_set_self (by rcases hs' with rfl | rfl <;> simp <;> omega)]
  rfl
 ·rw [if_neg e]
  unfold qv hd_
  rw [List.getD_eq_getElem?_getD, List.getElem?_set_ne (by rcases hs with rfl | rfl <;> rcases hs' with rfl | rfl <;> simp <;> omega), <- List.getD_eq_getElem?_getD]
theorem qG5 {h : List Int} (hf : qAU h) (s k : Int) : -128 <= hd_ h s k /\ hd_ h s k <= 127 := hf _
theorem qnr {k : Int} (h1 : 1 <= k) (h2 : k < 8) : rw_ k = k := by
 unfold rw_
 rw [if_neg (by omega), if_neg (by omega)]
theorem qns {k : Int} (h : up_ k ≠ 0) : rw_ (up_ k) = rw_ k := by
 unfold up_ at h ⊢
 split
 ·unfold rw_
  rw [if_neg (by omega), if_pos (by omega), if_neg (by omega), if_neg (by omega)]
  omega
 ·rename_i h2; rw [if_neg h2] at h; exact absurd rfl h
theorem qk5 {b h : List Int} {s : Int} (hS : Sound b h s) (hf : qAU h) (hl : h.length = 16) {f t d : Int} {p : Bool} (hP : CanP b h s f t d p) {k : Int} (k0 : 1 <= k) (k1 : k < 8) :
  (cnt (mb b s f t d p) k : Int) + hd_ (mh b h s t d) 0 k + hd_ (mh b h s t d) 1 k = cnt b k + hd_ h 0 k + hd_ h 1 k := by
 have hsd := hS.side
 by_cases hd : d = 0
 ·obtain ⟨f0, f1, f2, g1, g2, g3, g4⟩ := hP.move hd
  unfold mb mh
  rw [if_neg (by simpa using hd), if_neg (by simpa using hd)]
  have c1 := qNq hS.clean.len ⟨f0, f1⟩ 0 k
  have c2 := qNq (hS.clean.put f 0).len hP.to_ (laid b s f d p) k
  have e1 : at_ (put b f 0) t = at_ b t := by rw [qDH hS.clean.len ⟨f0, f1⟩, if_neg (Ne.symm f2)]
  rw [e1] at c2
  rw [qNy k0] at c1
  have e2 : dl (laid b s f d p) k = dl (at_ b f) k := by
   unfold laid
   rw [if_neg (by simpa using hd)]
   cases p with
   | false => rfl
   | true =>
     have hu := g4 rfl
     obtain ⟨u1, u2, u3⟩ := qIW hu
     rw [if_pos rfl]
     unfold dl
     rw [qHK hsd u1 u2 u3, qns hu]
  rw [e2] at c2
  by_cases ht : at_ b t = 0
  ·rw [if_pos ht]
   rw [ht, qNy k0] at c2
   omega
  ·rw [if_neg ht]
   have hk := (hS.clean.at_ t).resolve_left ht
   obtain ⟨r1, r2⟩ := qH9 hk g3
   have hc := hS.counts _ r1 r2
   have h0 := hS.hands (rw_ (kd (at_ b t))) (by omega) r2
   rw [qFB hl hsd (by omega) r2 1 (.inl rfl) (by omega) k1, qFB hl hsd (by omega) r2 1 (.inr rfl) (by omega) k1]
   by_cases hkr : k = rw_ (kd (at_ b t))
   ·have e3 : dl (at_ b t) k = 1 := by unfold dl; rw [if_pos hkr.symm]
    rw [e3] at c2
    rcases hsd with rfl | rfl
    ·rw [if_pos ⟨rfl, hkr⟩, if_neg (by omega), qFs (by omega) (by omega), <- hkr]
     omega
    ·rw [if_neg (by omega), if_pos ⟨rfl, hkr⟩, qFs (by omega) (by omega), <- hkr]
     omega
   ·have e3 : dl (at_ b t) k = 0 := by unfold dl; rw [if_neg (Ne.symm hkr)]
    rw [e3] at c2
    rw [if_neg (fun h => hkr h.2), if_neg (fun h => hkr h.2)]
    omega
 ·obtain ⟨d0, d1, d2, d3, g1, g2⟩ := hP.drop hd
  unfold mb mh
  rw [if_pos hd, if_pos hd]
  have c1 := qNq hS.clean.len hP.to_ (laid b s f d p) k
  have hl' : laid b s f d p = 16 * s + d := by unfold laid; rw [if_pos hd]
  rw [g2, qNy k0, hl'] at c1
  rw [hl']
  have hb := qG5 hf s d
  rw [qFB hl hsd (by omega) d1 (-1) (.inl rfl) (by omega) k1, qFB hl hsd (by omega) d1 (-1) (.inr rfl) (by omega) k1]
  have e3 : dl (16 * s + d) k = if d = k then 1 else 0 := by
   unfold dl
   rw [qHK hsd (by omega) (by omega) (by omega), qnr (by omega) d1]
  rw [e3] at c1
  by_cases hkd : k = d
  ·subst hkd
   rw [if_pos rfl] at c1
   rcases hsd with rfl | rfl
   ·rw [if_pos ⟨rfl, rfl⟩, if_neg (by omega), qFs (by omega) (by omega)]
    omega
   ·rw [if_neg (by omega), if_pos ⟨rfl, rfl⟩, qFs (by omega) (by omega)]
    omega
  ·rw [if_neg (Ne.symm hkd)] at c1
   rw [if_neg (fun h => hkd h.2), if_neg (fun h => hkd h.2)]
   omega
theorem qO7 {b : List Int} (hc : Clean b) (s f t d : Int) (p : Bool) : Clean (mb b s f t d p) := by
 unfold mb
 split
 ·exact hc.put _ _
 ·exact (hc.put _ _).put _ _
theorem qiz {h : List Int} (hf : qAU h) (b : List Int) (s t d : Int) : qAU (mh b h s t d) := by
 unfold mh
 split
 ·exact qUs hf _ _ _
 ·split
  ·exact hf
  ·exact qUs hf _ _ _
theorem qi0 {h : List Int} (hl : h.length = 16) (b : List Int) (s t d : Int) : (mh b h s t d).length = 16 := by
 unfold mh
 split
 ·rw [qOS]; exact hl
 ·split
  ·exact hl
  ·rw [qOS]; exact hl
end Go.Kk.Pl
namespace Go.Kk.Pl
theorem canP {b h : List Int} {s f t d : Int} {p : Bool} (hm : qB1 b h s f t d p = true) : (s = 0 \/ s = 1) /\ CanP b h s f t d p := by
 unfold qB1 at hm
 rw [Bool.and_eq_true, Bool.and_eq_true, decide_eq_true_eq, decide_eq_true_eq] at hm
 obtain ⟨h1, hs, h2⟩ := hm
 obtain ⟨ht, hd, hmv⟩ := qKQ h1
 refine ⟨hs, ht, fun d0 => ?_, fun d0 => ?_⟩
 ·rw [if_pos d0] at h2
  simp only [Bool.and_eq_true, decide_eq_true_eq] at h2
  have := hd d0
  exact ⟨by omega, by omega, this.2.2.1, this.2.2.2, by omega, h2.2⟩
 ·rw [if_neg (by simpa using d0)] at h2
  simp only [Bool.and_eq_true, decide_eq_true_eq, Bool.or_eq_true, Bool.not_eq_true'] at h2
  obtain ⟨h3, h4⟩ := hmv d0
  exact ⟨h3.1, h3.2, h4, h2.1.1, h2.1.2.1, h2.1.2.2, fun hp => by
   rcases h2.2 with h5 | h5
   ·rw [hp] at h5; cases h5
   ·exact h5⟩
theorem qFK {b h : List Int} {s f t d : Int} {p : Bool} (hm : qAD b h s f t d p = true) : (s = 0 \/ s = 1) /\ CanP b h s f t d p := by
 unfold qAD at hm
 rw [Bool.and_eq_true] at hm
 exact canP hm.1
theorem qOV {x s : Int} (hs : s = 0 \/ s = 1) (h : sd x = s) : kd x ≠ 0 := by
 intro h0
 rw [qat h0] at h
 omega
theorem qFH {b h : List Int} {s f t d : Int} {p : Bool} (hs : s = 0 \/ s = 1) (hP : CanP b h s f t d p) : sd (laid b s f d p) = s /\ kd (laid b s f d p) ≠ 0 /\ (laid b s f d p = pc s 8 ↔ d = 0 /\ at_ b f = pc s 8) := by
 unfold laid
 by_cases hd : d = 0
 ·have hm := hP.move hd
  rw [if_neg (by simpa using hd)]
  cases p with
  | false =>
    rw [if_neg (by simp)]
    exact ⟨hm.2.2.2.1, qOV hs hm.2.2.2.1, fun h => ⟨hd, h⟩, fun h => h.2⟩
  | true =>
    rw [if_pos rfl]
    have hu := hm.2.2.2.2.2.2 rfl
    obtain ⟨u1, u2, u3⟩ := qIW hu
    have hx := qDk hs u1 u2 u3
    rw [qAt hs u1 u2 u3] at hx
    have u8 : up_ (kd (at_ b f)) ≠ 8 := by unfold up_; split <;> omega
    refine ⟨hx.1, by rw [hx.2]; omega, fun h => ?_, fun h => ?_⟩
    ·rw [qAt hs (by omega) (by omega) (by omega)] at h
     omega
    ·exfalso
     apply hu
     rw [h.2, (qDk hs (by omega) (by omega) (by omega)).2]
     rfl
 ·have hm := hP.drop hd
  rw [if_pos hd]
  have hx := qDk hs (k := d) (by omega) (by omega) (by omega)
  rw [qAt hs (by omega) (by omega) (by omega)] at hx
  refine ⟨hx.1, by rw [hx.2]; exact hd, fun h => ?_, fun h => absurd h.1 hd⟩
  rw [qAt hs (by omega) (by omega) (by omega)] at h
  omega
theorem qEB {b h : List Int} {s f t d : Int} {p : Bool} (hc : Clean b) (hs : s = 0 \/ s = 1) (hP : CanP b h s f t d p) {i : Nat} (hi : i < 81) :
  (mb b s f t d p).getD i 0 = if i = t.toNat then laid b s f d p else if d = 0 /\ i = f.toNat then 0 else b.getD i 0 := by
 have ht := hP.to_
 have hl := (qFH hs hP).2.1
 have e1 : (mb b s f t d p).getD i 0 = at_ (mb b s f t d p) i := by rw [qAY (by omega), tn]
 have e2 : b.getD i 0 = at_ b i := by rw [qAY (by omega), tn]
 rw [e1, e2]
 unfold mb
 by_cases hd : d = 0
 ·have hm := hP.move hd
  rw [if_neg (by simpa using hd), qDH (hc.put f 0).1 ht, if_neg hl, qDH hc.1 ⟨hm.1, hm.2.1⟩]
  by_cases h1 : i = t.toNat
  ·rw [if_pos (c := (i : Int) = t) (by omega), if_pos h1]
  ·rw [if_neg (c := (i : Int) = t) (by omega), if_neg h1]
   by_cases h2 : i = f.toNat
   ·rw [if_pos (c := (i : Int) = f) (by omega), if_pos (c := d = 0 /\ i = f.toNat) ⟨hd, h2⟩]; rfl
   ·rw [if_neg (c := (i : Int) = f) (by omega), if_neg (fun h => h2 h.2)]
 ·rw [if_pos hd, qDH hc.1 ht, if_neg hl]
  by_cases h1 : i = t.toNat
  ·rw [if_pos h1, if_pos (by omega)]
  ·rw [if_neg h1, if_neg (by omega), if_neg (fun h => hd h.1)]
def KS (b : List Int) (s : Int) (k : Nat) : Prop := k < 81 /\ ∀ i, i < 81 -> (b.getD i 0 = pc s 8 ↔ i = k)
theorem pc8 {s : Int} (hs : s = 0 \/ s = 1) : pc s 8 = 16 * s + 8 := qAt hs (by omega) (by omega) (by omega)
theorem KS.kg {b : List Int} {s : Int} {k : Nat} (hs : s = 0 \/ s = 1) (h : KS b s k) : kg b s = k := by
 apply qN8 h.1
 intro i hi
 unfold pcs
 rw [decide_eq_true_eq, h.2 i hi, pc8 hs]
 exact ⟨fun h => h.2, fun h => ⟨by omega, h⟩⟩
theorem qKx {b h : List Int} {s' : Int} (hz : qAy b h s' = 0) {s : Int} (hs : s = 0 \/ s = 1) : ∃ k, KS b s k := by
 have hn : nP b 8 = 1 /\ nP b 24 = 1 := by
  unfold qAy at hz
  split at hz
  ·omega
  ·split at hz
   ·omega
   ·split at hz
    ·omega
    ·split at hz
     ·omega
     ·rename_i h; simpa using h
 have : nP b (pc s 8) = 1 := by
  rw [pc8 hs]
  rcases hs with rfl | rfl
  ·exact hn.1
  ·exact hn.2
 obtain ⟨k, hk, h⟩ := qG1.mp (show qAq (fun i => b.getD i 0 == pc s 8) = 1 from this)
 exact ⟨k, hk, fun i hi => by rw [<- h i hi, beq_iff_eq]⟩
theorem KS.sd {b : List Int} {s : Int} {k : Nat} (hs : s = 0 \/ s = 1) (h : KS b s k) : sd (b.getD k 0) = s /\ kd (b.getD k 0) = 8 := by
 rw [(h.2 k h.1).mpr rfl]
 exact qDk hs (by omega) (by omega) (by omega)
theorem qOm {b h : List Int} {s f t d : Int} {p : Bool} (hc : Clean b) (hs : s = 0 \/ s = 1) (hP : CanP b h s f t d p) {k : Nat} (hk : KS b s k) :
  KS (mb b s f t d p) s (if d = 0 /\ f.toNat = k then t.toNat else k) := by
 have ht := hP.to_
 have hl := qFH hs hP
 have hkt : k ≠ t.toNat := by
  intro e
  have h1 := (hk.sd hs)
  have e2 : b.getD k 0 = at_ b t := by rw [qAY ht, e]
  rw [e2] at h1
  by_cases hd : d = 0
  ·exact (hP.move hd).2.2.2.2.1 h1.1
  ·rw [(hP.drop hd).2.2.2.2.2, qFE] at h1
   omega
 have hp0 : (0 : Int) ≠ pc s 8 := by rw [pc8 hs]; omega
 refine ⟨by split; omega; exact hk.1, fun i hi => ?_⟩
 rw [qEB hc hs hP hi]
 by_cases h1 : i = t.toNat
 ·rw [if_pos h1, hl.2.2]
  by_cases hd : d = 0
  ·have hm := hP.move hd
   rw [qAY ⟨hm.1, hm.2.1⟩, hk.2 _ (by omega)]
   by_cases hfk : f.toNat = k
   ·rw [if_pos ⟨hd, hfk⟩]; exact ⟨fun _ => h1, fun _ => ⟨hd, hfk⟩⟩
   ·rw [if_neg (fun h => hfk h.2)]
    exact ⟨fun h => absurd h.2 hfk, fun h => absurd (h.symm.trans h1) hkt⟩
  ·rw [if_neg (fun h => hd h.1)]
   exact ⟨fun h => absurd h.1 hd, fun h => absurd (h.symm.trans h1) hkt⟩
 ·rw [if_neg h1]
  by_cases h2 : d = 0 /\ i = f.toNat
  ·rw [if_pos h2]
   refine ⟨fun h => absurd h hp0, fun h => ?_⟩
   split at h
   ·exact absurd h h1
   ·rename_i h3; exact absurd ⟨h2.1, by omega⟩ h3
  ·rw [if_neg h2, hk.2 i hi]
   split
   ·rename_i h3
    exact ⟨fun h => absurd ⟨h3.1, by omega⟩ h2, fun h => absurd h h1⟩
   ·exact Iff.rfl
theorem qKw {b h : List Int} {s f t d : Int} {p : Bool} (hc : Clean b) (hs : s = 0 \/ s = 1) (hP : CanP b h s f t d p) {k : Nat} (hk : KS b (1 - s) k) :
  KS (mb b s f t d p) (1 - s) k := by
 have ht := hP.to_
 have hl := qFH hs hP
 have hs' : 1 - s = 0 \/ 1 - s = 1 := by omega
 have hkt : k ≠ t.toNat := by
  intro e
  have h1 := (hk.sd hs')
  have e2 : b.getD k 0 = at_ b t := by rw [qAY ht, e]
  rw [e2] at h1
  by_cases hd : d = 0
  ·exact (hP.move hd).2.2.2.2.2.1 h1.2
  ·rw [(hP.drop hd).2.2.2.2.2, qFE] at h1
   omega
 have hp0 : (0 : Int) ≠ pc (1 - s) 8 := by rw [pc8 hs']; omega
 refine ⟨hk.1, fun i hi => ?_⟩
 rw [qEB hc hs hP hi]
 by_cases h1 : i = t.toNat
 ·rw [if_pos h1]
  refine ⟨fun h => ?_, fun h => absurd (h.symm.trans h1) hkt⟩
  have := hl.1
  rw [h, (qDk hs' (by omega) (by omega) (by omega)).1] at this
  omega
 ·rw [if_neg h1]
  by_cases h2 : d = 0 /\ i = f.toNat
  ·rw [if_pos h2]
   refine ⟨fun h => absurd h hp0, fun h => ?_⟩
   have hm := hP.move h2.1
   have h3 := (hk.sd hs').1
   rw [<- h, h2.2, <- qAY ⟨hm.1, hm.2.1⟩, hm.2.2.2.1] at h3
   omega
  ·rw [if_neg h2]
   exact hk.2 i hi
theorem qE1 {b : List Int} {s : Int} (hs : s = 0 \/ s = 1) {k : Nat} (hk : kg b s = k) (h81 : k < 81) (c : Nat) : chs b s c = atk b s k c := by
 unfold chs onS atk enm
 rw [hk, decide_eq_true (by omega), decide_eq_true (by omega), tn]
 rfl
def fof (f t d : Int) : Nat := if d = 0 then f.toNat else t.toNat
theorem qRe {b h : List Int} {s f t d : Int} {p : Bool} (hc : Clean b) (hs : s = 0 \/ s = 1) (hP : CanP b h s f t d p) {i : Nat} (hi : i < 81) : tk (mb b s f t d p) i = tk2 b (fof f t d) t.toNat i := by
 have hl := qFH hs hP
 unfold tk tk2 fof
 rw [qEB hc hs hP hi]
 by_cases h1 : i = t.toNat
 ·rw [if_pos h1, decide_eq_true h1, Bool.true_or, decide_eq_true_eq]
  intro h0
  rw [h0, qFE] at hl
  exact hl.2.1 rfl
 ·rw [if_neg h1, decide_eq_false h1, Bool.false_or]
  by_cases hd : d = 0
  ·rw [if_pos hd]
   by_cases h2 : i = f.toNat
   ·rw [if_pos ⟨hd, h2⟩, decide_eq_true h2]; simp
   ·rw [if_neg (fun h => h2 h.2), decide_eq_false h2]; rfl
  ·rw [if_neg hd, if_neg (fun h => hd h.1), decide_eq_false h1]; rfl
theorem qUe {b h : List Int} {s f t d : Int} {p : Bool} (hc : Clean b) (hs : s = 0 \/ s = 1) (hP : CanP b h s f t d p) {c : Nat} (hcc : c < 81) : enm (mb b s f t d p) s c = (decide (c ≠ t.toNat) && enm b s c) /\ (enm (mb b s f t d p) s c = true -> (mb b s f t d p).getD c 0 = b.getD c 0) := by
 have hl := qFH hs hP
 unfold enm
 rw [qEB hc hs hP hcc]
 by_cases h1 : c = t.toNat
 ·rw [if_pos h1, hl.1, decide_eq_false (p := s = 1 - s) (by omega), decide_eq_false (p := c ≠ t.toNat) (by simpa using h1)]
  exact ⟨rfl, fun h => by cases h⟩
 ·rw [if_neg h1, decide_eq_true (p := c ≠ t.toNat) h1, Bool.true_and]
  by_cases h2 : d = 0 /\ c = f.toNat
  ·rw [if_pos h2, qJc]
   have hm := hP.move h2.1
   rw [h2.2, <- qAY ⟨hm.1, hm.2.1⟩, hm.2.2.2.1, decide_eq_false (p := (-1 : Int) = 1 - s) (by omega), decide_eq_false (p := s = 1 - s) (by omega)]
   exact ⟨rfl, fun h => by cases h⟩
  ·rw [if_neg h2]
   exact ⟨rfl, fun _ => rfl⟩
theorem qTo {b h : List Int} {s f t d : Int} {p : Bool} (hc : Clean b) (hs : s = 0 \/ s = 1) (hP : CanP b h s f t d p) {k : Nat} (hk : KS b s k) (hn : ¬ (d = 0 /\ f.toNat = k)) {c : Nat} (hcc : c < 81) :
  chs (mb b s f t d p) s c = qDu b s k (fof f t d) t.toNat c := by
 have hk2 := qOm hc hs hP hk
 rw [if_neg hn] at hk2
 rw [qE1 hs (hk2.kg hs) hk.1]
 obtain ⟨e1, e2⟩ := qUe hc hs hP hcc
 unfold atk qDu
 cases he : enm (mb b s f t d p) s c with
 | false =>
   rw [he] at e1
   rw [Bool.false_and, <- Bool.and_assoc, <- e1, Bool.false_and]
 | true =>
   rw [<- Bool.and_assoc, <- e1, he, Bool.true_and, Bool.true_and, e2 he]
   exact qYd hcc hk.1 (fun i hi => qRe hc hs hP hi)
theorem qTn {b h : List Int} {s f t d : Int} {p : Bool} (hc : Clean b) (hs : s = 0 \/ s = 1) (hP : CanP b h s f t d p) {k : Nat} (hk : KS b s k) (hn : d = 0 /\ f.toNat = k) {c : Nat} (hcc : c < 81) :
  chs (mb b s f t d p) s c = onS b t (1 - s) (fun i => tk b i && !only f i) c := by
 have hk2 := qOm hc hs hP hk
 have ht := hP.to_
 have hm := hP.move hn.1
 rw [if_pos hn] at hk2
 rw [qE1 hs (hk2.kg hs) hk2.1]
 obtain ⟨e1, e2⟩ := qUe hc hs hP hcc
 unfold atk onS
 rw [decide_eq_true ht, decide_eq_true (p := 1 - s = 0 \/ 1 - s = 1) (by omega), Bool.true_and, Bool.true_and]
 show _ = (enm b s c && _)
 by_cases h1 : c = t.toNat
 ·rw [e1, decide_eq_false (p := c ≠ t.toNat) (by simpa using h1), <- h1, qYe, qYe, Bool.and_false, Bool.and_false]
 ·rw [decide_eq_true (p := c ≠ t.toNat) h1, Bool.true_and] at e1
  rw [e1]
  cases he : enm b s c with
  | false => rfl
  | true =>
    rw [e2 (by rw [e1, he]), Bool.true_and, Bool.true_and, Bool.eq_iff_iff, qBu, qBu]
    have : ∀ i ∈ btw c t.toNat, tk (mb b s f t d p) i = (tk b i && !only f i) := by
     intro i hi
     have hw := qIm (by omega) hcc hi
     rw [qRe hc hs hP hw.1]
     unfold tk2 fof only
     rw [decide_eq_false hw.2.1, if_pos hn.1, Bool.false_or, Bool.and_comm]
     congr 2
     rw [decide_eq_decide]
     omega
    constructor
    ·rintro (h | ⟨h, h'⟩)
     ·exact .inl h
     ·exact .inr ⟨h, fun i hi => by rw [<- this i hi]; exact h' i hi⟩
    ·rintro (h | ⟨h, h'⟩)
     ·exact .inl h
     ·exact .inr ⟨h, fun i hi => by rw [this i hi]; exact h' i hi⟩
def qr (b : List Int) (s : Int) (t : Nat) : Bool := (List.range 81).all fun c => !chs b s c || qDq (kg b s).toNat c t
def qGK (b : List Int) (s : Int) (f t : Nat) : Bool := (List.range 81).all fun c => !qAH b s (kg b s).toNat f c || qDq (kg b s).toNat c t
def stB (b : List Int) (s : Int) (f t : Nat) : Bool := if (f : Int) = kg b s then isE (onS b t (1 - s) (fun i => tk b i && !only f i)) else qr b s t && qGK b s f t
theorem qJz {k c t : Nat} : qDq k c t = true ↔ t = c \/ t ∈ btw c k := by
 unfold qDq only
 rw [Bool.or_eq_true, List.contains_iff_mem, decide_eq_true_eq]
 constructor
 ·rintro (h | h)
  ·exact .inr h
  ·exact .inl (by omega)
 ·rintro (h | h)
  ·exact .inr (by omega)
  ·exact .inl h
theorem qJE {b : List Int} {s : Int} (hs : s = 0 \/ s = 1) {k : Nat} (hk : KS b s k) {t : Nat} : qr b s t = true ↔ ∀ c, c < 81 -> atk b s k c = true -> t = c \/ t ∈ btw c k := by
 have hkg := hk.kg hs
 unfold qr
 rw [List.all_eq_true, hkg, tn]
 constructor
 ·intro h c hc ha
  have := h c (List.mem_range.mpr hc)
  rw [qE1 hs hkg hk.1, ha, Bool.not_true, Bool.false_or] at this
  exact qJz.mp this
 ·intro h c hc
  rw [qE1 hs hkg hk.1]
  cases ha : atk b s k c with
  | false => rfl
  | true =>
    rw [Bool.not_true, Bool.false_or]
    exact qJz.mpr (h c (List.mem_range.mp hc) ha)
theorem qLY {b : List Int} {s : Int} (hs : s = 0 \/ s = 1) {k : Nat} (hk : KS b s k) {f t : Nat} : qGK b s f t = true ↔ ∀ c, c < 81 -> qAH b s k f c = true -> t = c \/ t ∈ btw c k := by
 unfold qGK
 rw [List.all_eq_true, hk.kg hs, tn]
 constructor
 ·intro h c hc ha
  have := h c (List.mem_range.mpr hc)
  rw [ha, Bool.not_true, Bool.false_or] at this
  exact qJz.mp this
 ·intro h c hc
  cases ha : qAH b s k f c with
  | false => rfl
  | true =>
    rw [Bool.not_true, Bool.false_or]
    exact qJz.mpr (h c (List.mem_range.mp hc) ha)
theorem qL0 {b h : List Int} {s f t d : Int} {p : Bool} (hc : Clean b) (hs : s = 0 \/ s = 1) (hP : CanP b h s f t d p) {k : Nat} (hk : KS b s k) :
  (!inC (mb b s f t d p) s) = if d = 0 then stB b s f.toNat t.toNat else qr b s t.toNat := by
 have ht := hP.to_
 unfold inC
 rw [Bool.not_not]
 by_cases hn : d = 0 /\ f.toNat = k
 ·have hm := hP.move hn.1
  rw [if_pos hn.1]
  unfold stB
  rw [if_pos (by rw [hk.kg hs, hn.2]), Bool.eq_iff_iff, qCc, qCc, show ((t.toNat : Nat) : Int) = t by omega, show ((f.toNat : Nat) : Int) = f by omega]
  constructor
  ·intro h i hi; rw [<- qTn hc hs hP hk hn hi]; exact h i hi
  ·intro h i hi; rw [qTn hc hs hP hk hn hi]; exact h i hi
 ·have hf : tk b (fof f t d) = true -> sd (b.getD (fof f t d) 0) = s := by
   unfold fof
   intro htk
   by_cases hd : d = 0
   ·have hm := hP.move hd
    rw [if_pos hd, <- qAY ⟨hm.1, hm.2.1⟩]
    exact hm.2.2.2.1
   ·rw [if_neg hd] at htk
    unfold tk at htk
    rw [<- qAY ht, (hP.drop hd).2.2.2.2.2] at htk
    simp at htk
  have key := qdZ (b := b) (s := s) (k := k) (f := fof f t d) (t := t.toNat) hf
  have e : isE (chs (mb b s f t d p) s) = (qr b s t.toNat && qGK b s (fof f t d) t.toNat) := by
   rw [Bool.eq_iff_iff, qCc, Bool.and_eq_true, qJE hs hk, qLY hs hk, <- key]
   constructor
   ·intro h c hcc; rw [<- qTo hc hs hP hk hn hcc]; exact h c hcc
   ·intro h c hcc; rw [qTo hc hs hP hk hn hcc]; exact h c hcc
  rw [e]
  by_cases hd : d = 0
  ·rw [if_pos hd]
   unfold stB
   have hm := hP.move hd
   rw [if_neg (by rw [hk.kg hs]; intro e; exact hn ⟨hd, by omega⟩)]
   unfold fof
   rw [if_pos hd]
  ·rw [if_neg hd]
   have : qGK b s (fof f t d) t.toNat = true := by
    rw [qLY hs hk]
    intro c _ hp
    have := (qC4.mp hp).2.2.2.1
    unfold fof tk at this
    rw [if_neg hd, <- qAY ht, (hP.drop hd).2.2.2.2.2] at this
    simp at this
   rw [this, Bool.and_true]
theorem rw0 : rw_ (kd 0) = 0 := by decide
theorem qiw {b : List Int} {s f t : Int} {p : Bool} {h : List Int} (hs : s = 0 \/ s = 1) (hP : CanP b h s f t 0 p) : mb b s f t 0 p = (b.set t.toNat (laid b s f 0 p)).set f.toNat 0 := by
 have hm := hP.move rfl
 have ht := hP.to_
 unfold mb put
 rw [if_neg (by simp), if_pos ht, if_pos ⟨hm.1, hm.2.1⟩, if_neg (qFH hs hP).2.1, show (if kd 0 = 0 then (0 : Int) else 0) = 0 by simp]
 exact List.set_comm _ _ (by omega)
theorem qYG {b h : List Int} {s f t d : Int} {p : Bool} (hc : Clean b) (hs : s = 0 \/ s = 1) (hP : CanP b h s f t d p) : qHw b h s f t d p = some (mb b s f t d p, mh b h s t d, 1 - s) := by
 have ht := hP.to_
 have hw : IntKind.wrap .i8 (1 - s) = 1 - s := w_8 (by omega) (by omega)
 have hin : br (inB s 2) = fun (x y : Option (List Int × List Int × Int)) => x := by
  funext x y; exact qa (by omega) (by omega)
 have hint : br (inB t 81) = fun (x y : Option (List Int × List Int × Int)) => x := by
  funext x y; exact qa (by omega) (by omega)
 unfold qHw
 simp only [hin, hint]
 by_cases hd : d = 0
 ·subst hd
  have hm := hP.move rfl
  have hinf : br (inB f 81) = fun (x y : Option (List Int × List Int × Int)) => x := by
   funext x y; exact qa (by omega) (by omega)
  have hbf : at_ b f = 16 * s + kd (at_ b f) := by
   have h1 := qLS (qOV hs hm.2.2.2.1)
   have h2 := qBn (at_ b f)
   have h3 := qOV hs hm.2.2.2.1
   rw [hm.2.2.2.1, qAt hs (by omega) (by omega) (by omega)] at h1
   exact h1
  have hbb := qBn (at_ b f)
  have hfin : ∀ p', p' = p -> br p'
    (some (List.set (List.set (List.set b (Int.toNat t) (List.getD b (Int.toNat f) 0)) (Int.toNat t) (IntKind.wrap IntKind.i8 (List.getD (List.set b (Int.toNat t) (List.getD b (Int.toNat f) 0)) (Int.toNat t) 0 + 8))) (Int.toNat f) 0))
    (some (List.set (List.set b (Int.toNat t) (List.getD b (Int.toNat f) 0)) (Int.toNat f) 0)) = some (mb b s f t 0 p) := by
   rintro p' rfl
   rw [qiw hs hP]
   unfold laid
   rw [if_neg (by simp), <- qAY ⟨hm.1, hm.2.1⟩]
   cases p' with
   | false => rfl
   | true =>
     have hu := hm.2.2.2.2.2.2 rfl
     rw [b_t, qGC (by rw [hc.1]; omega), if_pos rfl, if_pos rfl, List.set_set]
     have : up_ (kd (at_ b f)) = kd (at_ b f) + 8 := by
      unfold up_ at hu ⊢
      split
      ·rfl
      ·rename_i h; rw [if_neg h] at hu; exact absurd rfl hu
     rw [w_8 (by omega) (by omega), this, show at_ b f + 8 = 16 * s + (kd (at_ b f) + 8) by omega]
  rw [qt rfl, qBw, qA, qae, qA]
  simp only [hinf, c_8, <- qAY (b := b) ht, hw]
  unfold mh
  rw [if_neg (by simp)]
  by_cases h0 : at_ b t = 0
  ·rw [if_pos h0, h0, rw0, qt rfl]
   have := hfin p rfl
   cases p with
   | false => rw [b_f] at this ⊢; rw [Option.some.inj this]
   | true => rw [b_t] at this ⊢; rw [Option.some.inj this]
  ·rw [if_neg h0]
   have hr := qH9 ((hc.at_ t).resolve_left h0) hm.2.2.2.2.2.1
   have hinr : br (inB (rw_ (kd (at_ b t))) 8) = fun (x y : Option (List Int × List Int × Int)) => x := by
    funext x y; exact qa (by omega) (by omega)
   rw [qp (by omega)]
   simp only [hinr]
   have := hfin p rfl
   cases p with
   | false => rw [b_f] at this ⊢; rw [Option.some.inj this]; rfl
   | true => rw [b_t] at this ⊢; rw [Option.some.inj this]; rfl
 ·have hm := hP.drop hd
  have hind : br (inB d 8) = fun (x y : Option (List Int × List Int × Int)) => x := by
   funext x y; exact qa (by omega) (by omega)
  simp only [hind]
  have hx := (qFH hs hP).2.1
  unfold laid at hx
  rw [if_pos hd] at hx
  rw [qp hd, hw, w_s (n := 16 * s) (by omega) (by omega), w_s (n := 16 * s + d) (by omega) (by omega)]
  unfold mb mh put laid
  rw [if_pos hd, if_pos hd, if_pos ht, if_pos hd, if_neg hx]
  have : conv IntKind.i64 IntKind.i8 (16 * s + d) = 16 * s + d := by
   unfold conv; exact w_8 (by omega) (by omega)
  rw [this]
  rfl
end Go.Kk.Pl
