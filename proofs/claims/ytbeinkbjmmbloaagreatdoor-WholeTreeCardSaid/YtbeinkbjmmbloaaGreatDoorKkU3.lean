/- What the program's functions come to, told plainly: the texts of this project that this claim leans on, cut down to what is used. -/
import Derived.Test.YtbeinkbjmmbloaaGreatDoorKkU2
import Derived.Test.YtbeinkbjmmbloaaGreatDoorKkU1
namespace Go.Kk.Pl
theorem qCG {α : Type} {x y : α} {a b : Nat} (h : a <= b) : br (decide (a <= b)) x y = x := qF (by simpa using h)
theorem tkA {α : Type} {n : Nat} {L : List α} (h : n = L.length) (M : List α) : List.append (List.take n L) M = L ++ M := by
 subst h; rw [List.take_length]; rfl
theorem qcg {α : Type} {n : Nat} {L : List α} {m : α} (h : n = L.length) (M : List α) : List.append (List.take (n + 1) (L ++ [m])) M = L ++ m :: M := by
 rw [tkA (by simp [h])]; simp
def qy (x f t : Int) : List (List Int) := (if qC4 x t then [] else [[f, t, 0, 0]]) ++ (if qCh x f t then [[f, t, 0, 1]] else [])
theorem qkQ (x f t : Int) : (qy x f t).length <= 2 := by
 unfold qy; split <;> split <;> simp
theorem qG7 {α β : Type} (g : α -> List β) (k : Nat) (L : List α) (h : ∀ a ∈ L, (g a).length <= k) : (L.flatMap g).length <= k * L.length := by
 induction L with
 | nil => simp
 | cons a L ih =>
   rw [List.flatMap_cons, List.length_append, List.length_cons, Nat.mul_succ]
   have := h a (by simp)
   have := ih fun x hx => h x (by simp [hx])
   omega
theorem qpv (x f : Int) (T : List Int) (S : Int) (N1 : Nat) (a5 a6 : Int) (b h : List Int) (S' : Int) (by' sd' : List (List Int)) (u v k1 k2 : Int) (N2 : Nat) (L2 : List Int) (N3 : Nat) (hT : T.length <= 1000) : ∀ (n i : Nat), i + n = T.length -> ∀ (L : List (List Int)) (x0 x17 : Nat), x0 = L.length -> x17 = L.length -> L.length <= 1000000 - 2 * n -> ∀ F,
  qE9 (F + n + 1) x0 S f x N1 a5 a6 T.length T.length i b h S' by' sd' u v x17 L k1 k2 N2 L2 N3 T =
   some ((L ++ (T.drop i).flatMap (qy x f)).length, S, N1, a5, a6, b, h, S', by', sd', u, v, (L ++ (T.drop i).flatMap (qy x f)).length, L ++ (T.drop i).flatMap (qy x f), k1, k2, N2, L2) := by
 intro n
 induction n with
 | zero =>
   intro i hi L x0 x17 h0 h17 hb F
   show qHD (qE9 (F + 0)) _ _ _ _ _ _ _ _ _ _ _ _ _ _ _ _ _ _ _ _ _ _ _ _ _ = _
   unfold qHD
   rw [qW (by omega), List.drop_eq_nil_of_le (by omega)]
   simp only [List.flatMap_nil, List.append_nil, h0, h17]
 | succ n ih =>
   intro i hi L x0 x17 h0 h17 hb F
   show qHD (qE9 (F + n + 1)) _ _ _ _ _ _ _ _ _ _ _ _ _ _ _ _ _ _ _ _ _ _ _ _ _ = _
   unfold qHD
   have hil : i < T.length := by omega
   have hget : T.getD i 0 = T[i] := qFw hil
   have hd : T.drop i = T[i] :: T.drop (i + 1) := List.drop_eq_getElem_cons hil
   rw [qd (by omega), qa (by omega) (by omega), tn, hget, qlG, qA]
   simp only
   rw [w_s (by omega) (by omega), hd, List.flatMap_cons, <- List.append_assoc]
   rw [tkA h0, tkA h0, qcg h0]
   have hi1 : i + 1 + n = T.length := by omega
   have ih' := ih (i + 1) hi1
   cases hm : qC4 x T[i] with
   | false =>
     rw [Bool.not_false, b_t, qCG (by omega)]
     cases hy : qCh x f T[i] with
     | true =>
       rw [b_t, qCG (by omega)]
       have := ih' (L ++ qy x f T[i]) (x0 + 1 + 1) (x0 + 1 + 1) (by simp [qy, hm, hy, h0]) (by simp [qy, hm, hy, h0]) (by simp [qy, hm, hy]; omega) F
       rw [<- this]
       simp [qy, hm, hy]
     | false =>
       rw [b_f]
       have := ih' (L ++ qy x f T[i]) (x0 + 1) (x0 + 1) (by simp [qy, hm, hy, h0]) (by simp [qy, hm, hy, h0]) (by simp [qy, hm, hy]; omega) F
       rw [<- this]
       simp [qy, hm, hy]
   | true =>
     rw [Bool.not_true, b_f]
     cases hy : qCh x f T[i] with
     | true =>
       rw [b_t, qCG (by omega)]
       have := ih' (L ++ qy x f T[i]) (x0 + 1) (x0 + 1) (by simp [qy, hm, hy, h0]) (by simp [qy, hm, hy, h0]) (by simp [qy, hm, hy]; omega) F
       rw [<- this]
       simp [qy, hm, hy]
     | false =>
       rw [b_f]
       have := ih' (L ++ qy x f T[i]) x0 x17 (by simp [qy, hm, hy, h0]) (by simp [qy, hm, hy, h17]) (by simp [qy, hm, hy]; omega) F
       rw [<- this]
       simp [qy, hm, hy]
def kgs (b : List Int) (c : Nat) : Bool := pcs b (pc 0 8) c || pcs b (pc 1 8) c
def qBY (b : List Int) (S : Int) (G : Nat -> Bool) (f : Nat) (c : Nat) : Bool := ((rch (b.getD f 0) f c (tk b) && !sdP b S c) && !kgs b c) && G c
def qBq (b : List Int) (S : Int) (G : Nat -> Bool) (f : Int) : List (List Int) := (sq (qBY b S G f.toNat)).flatMap (qy (b.getD f.toNat 0) f)
def qr (b : List Int) (S : Int) (G : Nat -> Bool) : List (List Int) := (sq (sdP b S)).flatMap (qBq b S G)
theorem qXI (b : List Int) (S : Int) (G : Nat -> Bool) (f : Int) : (qBq b S G f).length <= 162 := by
 unfold qBq
 have := qG7 (qy (b.getD f.toNat 0) f) 2 (sq (qBY b S G f.toNat)) fun a _ => qkQ _ _ _
 have := qEe (qBY b S G f.toNat)
 omega
theorem qe8 {b : List Int} (hc : Clean b) (h : List Int) (S : Int) (G : Nat -> Bool) (T : List Int) (hT : T.length <= 1000) (hTr : ∀ q ∈ T, 0 <= q /\ q < 81) (N : Nat) : ∀ (n i : Nat), i + n = T.length -> ∀ (L : List (List Int)) (x0 x17 : Nat), x0 = L.length -> x17 = L.length -> L.length <= 900000 - 200 * n -> ∀ F,
  qE8 (F + n + 1) x0 S T.length T.length i b h S (qI b) (qO b) (sLo G) (sHi G) x17 L (sLo (kgs b)) (sHi (kgs b)) N T =
   some ((L ++ (T.drop i).flatMap (qBq b S G)).length, b, h, S, qI b, qO b, (L ++ (T.drop i).flatMap (qBq b S G)).length, L ++ (T.drop i).flatMap (qBq b S G)) := by
 intro n
 induction n with
 | zero =>
   intro i hi L x0 x17 h0 h17 hb F
   show qHC (qE8 (F + 0)) _ _ _ _ _ _ _ _ _ _ _ _ _ _ _ _ _ _ = _
   unfold qHC
   rw [qW (by omega), List.drop_eq_nil_of_le (by omega)]
   simp only [List.flatMap_nil, List.append_nil, h0, h17]
 | succ n ih =>
   intro i hi L x0 x17 h0 h17 hb F
   show qHC (qE8 (F + n + 1)) _ _ _ _ _ _ _ _ _ _ _ _ _ _ _ _ _ _ = _
   unfold qHC
   have hil : i < T.length := by omega
   have hget : T.getD i 0 = T[i] := qFw hil
   have hd : T.drop i = T[i] :: T.drop (i + 1) := List.drop_eq_getElem_cons hil
   obtain ⟨q0, q1⟩ := hTr T[i] (List.getElem_mem hil)
   obtain ⟨q, hq⟩ : ∃ q : Nat, T[i] = q := ⟨T[i].toNat, by omega⟩
   have hat : at_ b T[i] = b.getD q 0 := by rw [qAZ ⟨q0, q1⟩, hq, tn]
   rw [qd (by omega), qa (by omega) (by omega), tn, hget, qCs, qA, qJq hc, qA]
   simp only
   rw [hat, hq, qLf _ (by omega), qA]
   simp only
   rw [qPe, qA]
   simp only
   rw [qLA, qA]
   simp only
   rw [qLA, qA]
   simp only
   rw [qEp, qA]
   simp only
   rw [qJk, qA]
   simp only
   rw [show (fun i => ((rch (b.getD q 0) q i (tk b) && !sdP b S i) && !kgs b i) && G i) = qBY b S G q from rfl]
   have hlen := qEe (qBY b S G q)
   obtain ⟨g, hg⟩ := qe (sq (qBY b S G q)).length (by omega)
   have := qpv (b.getD q 0) q (sq (qBY b S G q)) S T.length T.length i b h S (qI b) (qO b) (sLo G) (sHi G) (sLo (kgs b)) (sHi (kgs b)) N T (sq (qBY b S G q)).length (by omega) (sq (qBY b S G q)).length 0 (by omega) L x0 x17 h0 h17 (by omega) g
   rw [<- hg] at this
   rw [show qE9 qC x0 S q (b.getD q 0) T.length T.length i (sq (qBY b S G q)).length (Int.ofNat (sq (qBY b S G q)).length) 0 b h S (qI b) (qO b) (sLo G) (sHi G) x17 L (sLo (kgs b)) (sHi (kgs b)) N T (sq (qBY b S G q)).length (sq (qBY b S G q)) = _ from this, qA]
   simp only
   have e : (List.drop 0 (sq (qBY b S G q))).flatMap (qy (b.getD q 0) q) = qBq b S G T[i] := by
    unfold qBq; rw [hq, tn, List.drop_zero]
   have hl2 := qXI b S G T[i]
   rw [e, w_s (by omega) (by omega), hd, List.flatMap_cons, <- List.append_assoc]
   exact ih (i + 1) (by omega) (L ++ qBq b S G T[i]) _ _ rfl rfl (by rw [List.length_append]; omega) F
theorem qU4 {b : List Int} (hc : Clean b) (h : List Int) (S : Int) (G : Nat -> Bool) : qHA (sLo G) (sHi G) b h S (qI b) (qO b) = some ((qr b S G).length, (qr b S G).length, qr b S G) := by
 unfold qHA
 rw [qGJ, qA]
 simp only
 rw [qGJ, qA]
 simp only
 rw [qHc, qA]
 simp only
 rw [qPe, qA]
 simp only
 rw [qJk, qA]
 simp only
 have hlen := qEe (sdP b S)
 obtain ⟨g, hg⟩ := qe (sq (sdP b S)).length (by omega)
 have := qe8 hc h S G (sq (sdP b S)) (by omega) (fun q hq => ⟨(qGa hq).1, (qGa hq).2.1⟩) (sq (sdP b S)).length (sq (sdP b S)).length 0 (by omega) [] 0 0 rfl rfl (by simp only [List.length_nil]; omega) g
 rw [<- hg] at this
 rw [show qE8 qC 0 S (sq (sdP b S)).length (Int.ofNat (sq (sdP b S)).length) 0 b h S (qI b) (qO b) (sLo G) (sHi G) 0 [] (sLo fun i => pcs b (pc 0 8) i || pcs b (pc 1 8) i) (sHi fun i => pcs b (pc 0 8) i || pcs b (pc 1 8) i) (sq (sdP b S)).length (sq (sdP b S)) = _ from this, qA]
 rfl
def qBG (b h : List Int) (S : Int) (G : Nat -> Bool) (k : Nat) : List (List Int) := if hdP h S k < 1 then [] else (sq fun i => qAs b S k i && G i).map fun t => [0, t, (k : Int), 0]
def qAH (b h : List Int) (S : Int) (G : Nat -> Bool) : List (List Int) := (List.range' 1 7).flatMap (qBG b h S G)
theorem qXJ (b h : List Int) (S : Int) (G : Nat -> Bool) (k : Nat) : (qBG b h S G k).length <= 81 := by
 unfold qBG
 split
 ·simp
 ·rw [List.length_map]; exact qEe _
theorem qpw (k : Int) (T : List Int) (S : Int) (b h : List Int) (S' : Int) (by' sd' : List (List Int)) (u v : Int) (N3 : Nat) (hT : T.length <= 1000) : ∀ (n i : Nat), i + n = T.length -> ∀ (L : List (List Int)) (x0 x17 : Nat), x0 = L.length -> x17 = L.length -> L.length <= 1000000 - 2 * n -> ∀ F,
  qFB (F + n + 1) x0 S k T.length T.length i b h S' by' sd' u v x17 L N3 T =
   some ((L ++ (T.drop i).map fun t => [0, t, k, 0]).length, S, k, b, h, S', by', sd', u, v, (L ++ (T.drop i).map fun t => [0, t, k, 0]).length, L ++ (T.drop i).map fun t => [0, t, k, 0]) := by
 intro n
 induction n with
 | zero =>
   intro i hi L x0 x17 h0 h17 hb F
   show qHG (qFB (F + 0)) _ _ _ _ _ _ _ _ _ _ _ _ _ _ _ _ _ = _
   unfold qHG
   rw [qW (by omega), List.drop_eq_nil_of_le (by omega)]
   simp only [List.map_nil, List.append_nil, h0, h17]
 | succ n ih =>
   intro i hi L x0 x17 h0 h17 hb F
   show qHG (qFB (F + n + 1)) _ _ _ _ _ _ _ _ _ _ _ _ _ _ _ _ _ = _
   unfold qHG
   have hil : i < T.length := by omega
   have hget : T.getD i 0 = T[i] := qFw hil
   have hd : T.drop i = T[i] :: T.drop (i + 1) := List.drop_eq_getElem_cons hil
   rw [qd (by omega), qa (by omega) (by omega), tn, hget, qCG (by omega), tkA h0, w_s (by omega) (by omega), hd, List.map_cons]
   have := ih (i + 1) (by omega) (L ++ [[0, T[i], k, 0]]) (x0 + 1) (x0 + 1) (by simp [h0]) (by simp [h0]) (by simp; omega) F
   rw [List.append_assoc] at this
   exact this
theorem qgW {b : List Int} (hc : Clean b) (h : List Int) (S : Int) (G : Nat -> Bool) : ∀ (n k : Nat), k + n = 8 -> ∀ (L : List (List Int)) (x0 x17 : Nat), x0 = L.length -> x17 = L.length -> L.length <= 900000 - 200 * n -> ∀ F,
  qFA (F + n + 1) x0 S k b h S (qI b) (qO b) (sLo G) (sHi G) x17 L =
   some ((L ++ (List.range' k n).flatMap (qBG b h S G)).length, b, h, S, qI b, qO b, (L ++ (List.range' k n).flatMap (qBG b h S G)).length, L ++ (List.range' k n).flatMap (qBG b h S G)) := by
 intro n
 induction n with
 | zero =>
   intro k hk L x0 x17 h0 h17 hb F
   show qHF (qFA (F + 0)) _ _ _ _ _ _ _ _ _ _ _ _ = _
   unfold qHF
   rw [qW (by omega)]
   simp only [List.range'_zero, List.flatMap_nil, List.append_nil, h0, h17]
 | succ n ih =>
   intro k hk L x0 x17 h0 h17 hb F
   show qHF (qFA (F + n + 1)) _ _ _ _ _ _ _ _ _ _ _ _ = _
   unfold qHF
   have hl2 := qXJ b h S G k
   rw [qd (by omega), qhU, qA, List.range'_succ, List.flatMap_cons, <- List.append_assoc]
   have ih' := ih (k + 1) (by omega) (L ++ qBG b h S G k)
   by_cases h1 : hdP h S k < 1
   ·have e : qBG b h S G k = [] := by unfold qBG; rw [if_pos h1]
    rw [qd h1, w_s (by omega) (by omega)]
    rw [e, List.append_nil] at ih' ⊢
    exact ih' x0 x17 h0 h17 (by omega) F
   ·have e : qBG b h S G k = (sq fun i => qAs b S k i && G i).map fun t => [0, t, (k : Int), 0] := by unfold qBG; rw [if_neg h1]
    rw [qW h1, qgu hc, qA]
    simp only
    rw [qEp, qA]
    simp only
    rw [qJk, qA]
    simp only
    have hlen := qEe fun i => qAs b S k i && G i
    obtain ⟨g, hg⟩ := qe (sq fun i => qAs b S k i && G i).length (by omega)
    have := qpw k (sq fun i => qAs b S k i && G i) S b h S (qI b) (qO b) (sLo G) (sHi G) (sq fun i => qAs b S k i && G i).length (by omega) (sq fun i => qAs b S k i && G i).length 0 (by omega) L x0 x17 h0 h17 (by omega) g
    rw [<- hg] at this
    rw [show qFB qC x0 S k (sq fun i => qAs b S k i && G i).length (Int.ofNat (sq fun i => qAs b S k i && G i).length) 0 b h S (qI b) (qO b) (sLo G) (sHi G) x17 L (sq fun i => qAs b S k i && G i).length (sq fun i => qAs b S k i && G i) = _ from this, qA]
    simp only
    rw [List.drop_zero, <- e, w_s (by omega) (by omega)]
    exact ih' _ _ rfl rfl (by rw [List.length_append]; omega) F
theorem qg5 {b : List Int} (hc : Clean b) (h : List Int) (S : Int) (G : Nat -> Bool) : qI1 (sLo G) (sHi G) b h S (qI b) (qO b) = some ((qAH b h S G).length, (qAH b h S G).length, qAH b h S G) := by
 unfold qI1
 obtain ⟨g, hg⟩ := qe 7 (by omega)
 have := qgW hc h S G 7 1 (by omega) [] 0 0 rfl rfl (by simp only [List.length_nil]; omega) g
 rw [<- hg] at this
 rw [show qFA qC 0 S 1 b h S (qI b) (qO b) (sLo G) (sHi G) 0 [] = _ from this, qA]
 rfl
def mvs (b h : List Int) (S : Int) : List (List Int) := qr b S (fun _ => true) ++ qAH b h S (fun _ => true)
theorem qLG (b : List Int) (S : Int) (G : Nat -> Bool) : (qr b S G).length <= 162 * 81 := by
 unfold qr
 have := qG7 (qBq b S G) 162 (sq (sdP b S)) fun a _ => qXI _ _ _ _
 have := qEe (sdP b S)
 omega
theorem qPL (b h : List Int) (S : Int) (G : Nat -> Bool) : (qAH b h S G).length <= 81 * 7 := by
 unfold qAH
 have := qG7 (qBG b h S G) 81 (List.range' 1 7) fun a _ => qXJ _ _ _ _ _
 rw [List.length_range'] at this
 omega
end Go.Kk.Pl
namespace Go.Kk.Pl
def qAv (b h : List Int) (S : Int) (f t : Nat) : List (List Int) := (if qAE b h S f t 0 false then [[(f : Int), (t : Int), 0, 0]] else []) ++ (if qAE b h S f t 0 true then [[(f : Int), (t : Int), 0, 1]] else [])
def rTo (b h : List Int) (S : Int) (f t : Nat) : List (List Int) := if rch (b.getD f 0) f t (tk b) then qAv b h S f t else []
def qA5 (b h : List Int) (S : Int) (f : Nat) : List (List Int) := if sd (b.getD f 0) = S then (List.range' 0 81).flatMap (rTo b h S f) else []
def qB9 (b h : List Int) (S : Int) (k t : Nat) : List (List Int) := if qAE b h S 0 t k false then [[0, (t : Int), (k : Int), 0]] else []
def qEK (b h : List Int) (S : Int) (k : Nat) : List (List Int) := if hd_ h S k > 0 then (List.range' 0 81).flatMap (qB9 b h S k) else []
def qEJ (b h : List Int) (S : Int) : List (List Int) := (List.range' 0 81).flatMap (qA5 b h S) ++ (List.range' 1 7).flatMap (qEK b h S)
theorem qlP (b h : List Int) (S : Int) (f t : Nat) : (rTo b h S f t).length <= 2 := by
 unfold rTo qAv
 split
 ·split <;> split <;> simp
 ·simp
theorem qYG (b h : List Int) (S : Int) (f : Nat) : (qA5 b h S f).length <= 162 := by
 unfold qA5
 split
 ·have := qG7 (rTo b h S f) 2 (List.range' 0 81) fun a _ => qlP b h S f a
  rw [List.length_range'] at this
  omega
 ·simp
theorem qlJ (b h : List Int) (S : Int) (k t : Nat) : (qB9 b h S k t).length <= 1 := by
 unfold qB9; split <;> simp
theorem qlN (b h : List Int) (S : Int) (k : Nat) : (qEK b h S k).length <= 81 := by
 unfold qEK
 split
 ·have := qG7 (qB9 b h S k) 1 (List.range' 0 81) fun a _ => qlJ b h S k a
  rw [List.length_range'] at this
  omega
 ·simp
theorem qlO (b h : List Int) (S : Int) (f : Nat) (hf : f < 81) : ∀ (n t : Nat), t + n = 81 -> ∀ (L : List (List Int)) (x0 x6 : Nat), x0 = L.length -> x6 = L.length -> L.length <= 1000000 - 2 * n -> ∀ F,
  qFc (F + n + 1) x0 f t b h S x6 L (qDE b) =
   some ((L ++ (List.range' t n).flatMap (rTo b h S f)).length, (f : Int), b, h, S, (L ++ (List.range' t n).flatMap (rTo b h S f)).length, L ++ (List.range' t n).flatMap (rTo b h S f), qDE b) := by
 intro n
 induction n with
 | zero =>
   intro t ht L x0 x6 h0 h6 hb F
   show qHz (qFc (F + 0)) _ _ _ _ _ _ _ _ _ = _
   unfold qHz
   rw [qW (by omega)]
   simp only [List.range'_zero, List.flatMap_nil, List.append_nil, h0, h6]
 | succ n ih =>
   intro t ht L x0 x6 h0 h6 hb F
   show qHz (qFc (F + n + 1)) _ _ _ _ _ _ _ _ _ = _
   unfold qHz
   rw [qd (by omega), qa (by omega) (by omega), tn, c_8, qPw b _ hf (by omega), qA, w_s (by omega) (by omega), List.range'_succ, List.flatMap_cons, <- List.append_assoc]
   have ih' := ih (t + 1) (by omega) (L ++ rTo b h S f t)
   cases hr : rch (b.getD f 0) f t (tk b) with
   | false =>
     have e : rTo b h S f t = [] := by unfold rTo; rw [hr]; rfl
     rw [Bool.not_false, b_t]
     rw [e, List.append_nil] at ih' ⊢
     exact ih' x0 x6 h0 h6 (by omega) F
   | true =>
     have e : rTo b h S f t = qAv b h S f t := by unfold rTo; rw [hr]; rfl
     rw [e] at ih' ⊢
     rw [Bool.not_true, b_f, qLx, qA, tkA h0, tkA h0, qcg h0]
     cases hm : qAE b h S f t 0 false with
     | true =>
       rw [b_t, qCG (by omega), qLx, qA]
       cases hy : qAE b h S f t 0 true with
       | true =>
         rw [b_t, qCG (by omega)]
         have := ih' (x0 + 1 + 1) (x0 + 1 + 1) (by simp [qAv, hm, hy, h0]) (by simp [qAv, hm, hy, h0]) (by simp [qAv, hm, hy]; omega) F
         rw [<- this]
         simp [qAv, hm, hy]
       | false =>
         rw [b_f]
         have := ih' (x0 + 1) (x0 + 1) (by simp [qAv, hm, hy, h0]) (by simp [qAv, hm, hy, h0]) (by simp [qAv, hm, hy]; omega) F
         rw [<- this]
         simp [qAv, hm, hy]
     | false =>
       rw [b_f, qLx, qA]
       cases hy : qAE b h S f t 0 true with
       | true =>
         rw [b_t, qCG (by omega)]
         have := ih' (x0 + 1) (x0 + 1) (by simp [qAv, hm, hy, h0]) (by simp [qAv, hm, hy, h0]) (by simp [qAv, hm, hy]; omega) F
         rw [<- this]
         simp [qAv, hm, hy]
       | false =>
         rw [b_f]
         have := ih' x0 x6 (by simp [qAv, hm, hy, h0]) (by simp [qAv, hm, hy, h6]) (by simp [qAv, hm, hy]; omega) F
         rw [<- this]
         simp [qAv, hm, hy]
theorem qlK (b h : List Int) (S : Int) : ∀ (n f : Nat), f + n = 81 -> ∀ (L : List (List Int)) (x0 x6 : Nat), x0 = L.length -> x6 = L.length -> L.length <= 900000 - 200 * n -> ∀ F,
  qDk (F + n + 1) x0 f b h S x6 L (qDE b) =
   some ((L ++ (List.range' f n).flatMap (qA5 b h S)).length, b, h, S, (L ++ (List.range' f n).flatMap (qA5 b h S)).length, L ++ (List.range' f n).flatMap (qA5 b h S)) := by
 intro n
 induction n with
 | zero =>
   intro f hf L x0 x6 h0 h6 hb F
   show qH2 (qDk (F + 0)) _ _ _ _ _ _ _ _ = _
   unfold qH2
   rw [qW (by omega)]
   simp only [List.range'_zero, List.flatMap_nil, List.append_nil, h0, h6]
 | succ n ih =>
   intro f hf L x0 x6 h0 h6 hb F
   show qH2 (qDk (F + n + 1)) _ _ _ _ _ _ _ _ = _
   unfold qH2
   have hl := qYG b h S f
   rw [qd (by omega), qa (by omega) (by omega), tn, c_8, qEW, qA, List.range'_succ, List.flatMap_cons, <- List.append_assoc]
   have ih' := ih (f + 1) (by omega) (L ++ qA5 b h S f)
   by_cases h1 : sd (b.getD f 0) = S
   ·have e : qA5 b h S f = (List.range' 0 81).flatMap (rTo b h S f) := by unfold qA5; rw [if_pos h1]
    rw [qu h1]
    obtain ⟨g, hg⟩ := qe 81 (by omega)
    have := qlO b h S f (by omega) 81 0 (by omega) L x0 x6 h0 h6 (by omega) g
    rw [<- hg] at this
    rw [show qFc qC x0 f 0 b h S x6 L (qDE b) = _ from this, qA]
    simp only
    rw [w_s (by omega) (by omega), <- e]
    exact ih' _ _ rfl rfl (by rw [List.length_append]; omega) F
   ·have e : qA5 b h S f = [] := by unfold qA5; rw [if_neg h1]
    rw [qq h1, w_s (by omega) (by omega)]
    rw [e, List.append_nil] at ih' ⊢
    exact ih' x0 x6 h0 h6 (by omega) F
theorem qlI (b h : List Int) {S : Int} (hS : S = 0 \/ S = 1) (k : Nat) (hk : k < 8) : ∀ (n t : Nat), t + n = 81 -> ∀ (L : List (List Int)) (x0 x6 : Nat), x0 = L.length -> x6 = L.length -> L.length <= 1000000 - 2 * n -> ∀ F,
  qFd (F + n + 1) x0 k t b h S x6 L =
   some ((L ++ if hd_ h S k > 0 then (List.range' t n).flatMap (qB9 b h S k) else []).length, (k : Int), b, h, S, (L ++ if hd_ h S k > 0 then (List.range' t n).flatMap (qB9 b h S k) else []).length, L ++ if hd_ h S k > 0 then (List.range' t n).flatMap (qB9 b h S k) else []) := by
 intro n
 induction n with
 | zero =>
   intro t ht L x0 x6 h0 h6 hb F
   show qH1 (qFd (F + 0)) _ _ _ _ _ _ _ _ = _
   unfold qH1
   rw [qW (by omega)]
   simp only [List.range'_zero, List.flatMap_nil, ite_self, List.append_nil, h0, h6]
 | succ n ih =>
   intro t ht L x0 x6 h0 h6 hb F
   show qH1 (qFd (F + n + 1)) _ _ _ _ _ _ _ _ = _
   unfold qH1
   rw [qd (by omega), qa (by omega) (by omega), qa (by omega) (by omega)]
   have ih' := ih (t + 1) (by omega) (L ++ qB9 b h S k t)
   by_cases h1 : hd_ h S k > 0
   ·rw [show List.getD h (S.toNat * 8 + Int.toNat (k : Int)) 0 = hd_ h S k from rfl, qBL h1, qLx, qA, tkA h0, w_s (by omega) (by omega)]
    simp only [if_pos h1] at ih' ⊢
    rw [List.range'_succ, List.flatMap_cons, <- List.append_assoc]
    cases hm : qAE b h S 0 t k false with
    | true =>
      have e : qB9 b h S k t = [[0, (t : Int), (k : Int), 0]] := by unfold qB9; rw [hm]; rfl
      rw [b_t, qCG (by omega)]
      rw [e] at ih' ⊢
      exact ih' (x0 + 1) (x0 + 1) (by simp [h0]) (by simp [h0]) (by simp; omega) F
    | false =>
      have e : qB9 b h S k t = [] := by unfold qB9; rw [hm]; rfl
      rw [b_f]
      rw [e, List.append_nil] at ih' ⊢
      exact ih' x0 x6 h0 h6 (by omega) F
   ·rw [show List.getD h (S.toNat * 8 + Int.toNat (k : Int)) 0 = hd_ h S k from rfl, qBM h1, if_neg h1, List.append_nil, h0, h6]
theorem qlM (b h : List Int) {S : Int} (hS : S = 0 \/ S = 1) : ∀ (n k : Nat), k + n = 8 -> ∀ (L : List (List Int)) (x0 x6 : Nat), x0 = L.length -> x6 = L.length -> L.length <= 900000 - 200 * n -> ∀ F,
  qDj (F + n + 1) x0 k b h S x6 L =
   some ((L ++ (List.range' k n).flatMap (qEK b h S)).length, (L ++ (List.range' k n).flatMap (qEK b h S)).length, L ++ (List.range' k n).flatMap (qEK b h S)) := by
 intro n
 induction n with
 | zero =>
   intro k hk L x0 x6 h0 h6 hb F
   show qH0 (qDj (F + 0)) _ _ _ _ _ _ _ = _
   unfold qH0
   rw [qKB (by omega)]
   simp only [List.range'_zero, List.flatMap_nil, List.append_nil, h0, h6]
 | succ n ih =>
   intro k hk L x0 x6 h0 h6 hb F
   show qH0 (qDj (F + n + 1)) _ _ _ _ _ _ _ = _
   unfold qH0
   have hl := qlN b h S k
   obtain ⟨g, hg⟩ := qe 81 (by omega)
   have := qlI b h hS k (by omega) 81 0 (by omega) L x0 x6 h0 h6 (by omega) g
   rw [<- hg] at this
   rw [qKA (by omega), show qFd qC x0 k 0 b h S x6 L = _ from this, qA]
   simp only
   have e : List.range' k (n + 1) = k :: List.range' (k + 1) n := List.range'_succ
   rw [w_s (by omega) (by omega), e, List.flatMap_cons, <- List.append_assoc]
   exact ih (k + 1) (by omega) (L ++ qEK b h S k) _ _ rfl rfl (by rw [List.length_append]; omega) F
theorem qlL (b h : List Int) (S : Int) : ((List.range' 0 81).flatMap (qA5 b h S)).length <= 162 * 81 := by
 have := qG7 (qA5 b h S) 162 (List.range' 0 81) fun a _ => qYG b h S a
 rw [List.length_range'] at this
 exact this
theorem qac (b h : List Int) {S : Int} (hS : S = 0 \/ S = 1) : qHy b h S = some ((qEJ b h S).length, (qEJ b h S).length, qEJ b h S) := by
 have main : (ob (qET b h S) fun a3 =>
  ob (qDk qC 0 0 b h S 0 [] a3) fun (a4_0, a4_1, a4_2, a4_3, a4_4, a4_5) =>
  ob (qDj qC a4_0 1 a4_1 a4_2 a4_3 a4_4 a4_5) fun (a10_0, a10_1, a10_2) =>
  (some (a10_0, a10_1, a10_2) : Option (Nat × Nat × List (List Int)))) = some ((qEJ b h S).length, (qEJ b h S).length, qEJ b h S) := by
  rw [qRf, qA]
  have hl := qlL b h S
  obtain ⟨g, hg⟩ := qe 81 (by omega)
  have := qlK b h S 81 0 (by omega) [] 0 0 rfl rfl (by simp only [List.length_nil]; omega) g
  rw [<- hg, List.nil_append] at this
  rw [show qDk qC 0 0 b h S 0 [] (qDE b) = _ from this, qA]
  simp only
  obtain ⟨g, hg⟩ := qe 7 (by omega)
  have := qlM b h hS 7 1 (by omega) ((List.range' 0 81).flatMap (qA5 b h S)) _ _ rfl rfl (by omega) g
  rw [<- hg] at this
  rw [show qDj qC ((List.range' 0 81).flatMap (qA5 b h S)).length 1 b h S ((List.range' 0 81).flatMap (qA5 b h S)).length ((List.range' 0 81).flatMap (qA5 b h S)) = _ from this, qA]
  rfl
 unfold qHy
 rcases hS with rfl | rfl
 ·rw [qu rfl]; exact main
 ·rw [qq (by omega), qu rfl]; exact main
theorem qgm {α β γ : Type} (p : α -> Bool) (f : α -> β) (g : β -> List γ) (L : List α) : ((L.filter p).map f).flatMap g = L.flatMap fun a => if p a then g (f a) else [] := by
 induction L with
 | nil => rfl
 | cons a L ih =>
   rw [List.filter_cons, List.flatMap_cons]
   cases h : p a with
   | true => rw [if_pos rfl, if_pos rfl, List.map_cons, List.flatMap_cons, ih]
   | false => rw [if_neg (by simp), if_neg (by simp), ih]; rfl
theorem qRO {γ : Type} (p : Nat -> Bool) (g : Int -> List γ) : (sq p).flatMap g = (List.range' 0 81).flatMap fun (i : Nat) => if p i then g (i : Int) else [] := by
 unfold sq; rw [qgm, qYJ]; rfl
theorem qIz {α β : Type} {f g : α -> List β} {L : List α} (h : ∀ a ∈ L, f a = g a) : L.flatMap f = L.flatMap g := by
 induction L with
 | nil => rfl
 | cons a L ih => rw [List.flatMap_cons, List.flatMap_cons, h a (by simp), ih fun x hx => h x (by simp [hx])]
theorem qo8 {γ : Type} (p : Nat -> Bool) (g : Int -> γ) : (sq p).map g = (List.range' 0 81).flatMap fun (i : Nat) => if p i then [g (i : Int)] else [] := by
 rw [<- qRO p fun t => [g t]]
 induction sq p with
 | nil => rfl
 | cons a L ih => rw [List.map_cons, List.flatMap_cons, ih]; rfl
theorem qh8 {b : List Int} (_hc : Clean b) {c : Nat} (_hcc : c < 81) : kgs b c = decide (kd (b.getD c 0) = 8) := by
 unfold kgs pcs
 rw [qAu (.inl rfl) (by omega) (by omega) (by omega), qAu (.inr rfl) (by omega) (by omega) (by omega), Bool.eq_iff_iff]
 simp only [Bool.or_eq_true, decide_eq_true_eq]
 constructor
 ·rintro (⟨_, h⟩ | ⟨_, h⟩) <;> rw [h] <;> decide
 ·intro h
  have := qLT (x := b.getD c 0) (by omega)
  rw [h] at this
  have hs := qIB (x := b.getD c 0) (by omega)
  rcases hs with h1 | h1 <;> rw [h1, qAu (by omega) (by omega) (by omega) (by omega)] at this
  ·left; omega
  ·right; omega
theorem qWu {b : List Int} (_hc : Clean b) (h : List Int) {S : Int} (hS : S = 0 \/ S = 1) {f t : Nat} (hf : f < 81) (ht : t < 81) (hs : sd (b.getD f 0) = S) (hr : rch (b.getD f 0) f t (tk b) = true) (p : Bool) :
  qAE b h S f t 0 p = (decide (sd (b.getD t 0) ≠ S /\ kd (b.getD t 0) ≠ 8) && if p = true then qCh (b.getD f 0) f t else !qC4 (b.getD f 0) t) := by
 unfold qAE qB2
 rw [if_neg (by simp), if_neg (by simp), qAZ (by omega), qAZ (by omega), tn, tn, hr, decide_eq_true (p := S = 0 \/ S = 1) hS, Bool.true_and, Bool.true_and]
 by_cases hft : f = t
 ·subst hft
  have : decide (sd (b.getD f 0) = S /\ sd (b.getD f 0) ≠ S /\ kd (b.getD f 0) ≠ 8) = false := decide_eq_false fun hh => hh.2.1 hs
  rw [this, Bool.false_and, Bool.and_false, Bool.false_and, decide_eq_false (p := sd (b.getD f 0) ≠ S /\ kd (b.getD f 0) ≠ 8) (fun hh => hh.1 hs), Bool.false_and]
 ·have e : qCI f t 0 p = 0 := by
   unfold qCI
   rw [if_neg (by omega), if_neg (by simp), if_neg (by omega), if_neg (by omega)]
  rw [decide_eq_true e, Bool.true_and]
  have : decide (sd (b.getD f 0) = S /\ sd (b.getD t 0) ≠ S /\ kd (b.getD t 0) ≠ 8) = decide (sd (b.getD t 0) ≠ S /\ kd (b.getD t 0) ≠ 8) := by simp [hs, -List.getD_eq_getElem?_getD]
  rw [this, Bool.and_assoc]
  congr 1
  cases p with
  | false => simp
  | true =>
    simp only [Bool.not_true, Bool.false_or, if_true]
    unfold qCh
    rw [<- Bool.and_assoc, Bool.and_self]
theorem qpy {b : List Int} (hc : Clean b) (h : List Int) {S : Int} (hS : S = 0 \/ S = 1) {f t : Nat} (hf : f < 81) (ht : t < 81) (hs : sd (b.getD f 0) = S) :
  (if qBY b S (fun _ => true) f t then qy (b.getD f 0) f t else []) = rTo b h S f t := by
 unfold rTo qAv qy qBY
 rw [qh8 hc ht]
 cases hr : rch (b.getD f 0) f t (tk b) with
 | false => simp
 | true =>
   rw [qWu hc h hS hf ht hs hr, qWu hc h hS hf ht hs hr]
   unfold sdP sds
   rw [decide_eq_true (p := S = 0 \/ S = 1) hS]
   by_cases h1 : sd (b.getD t 0) = S
   ·simp [h1, -List.getD_eq_getElem?_getD]
   ·by_cases h2 : kd (b.getD t 0) = 8
    ·simp [h2, -List.getD_eq_getElem?_getD]
    ·simp only [h1, h2, decide_false, Bool.and_self, Bool.not_false, Bool.true_and, ne_eq, not_false_eq_true, if_true, Bool.false_eq_true, if_false]
     cases qC4 (b.getD f 0) t <;> cases qCh (b.getD f 0) f t <;> rfl
theorem qPO {b : List Int} (hc : Clean b) (h : List Int) {S : Int} (hS : S = 0 \/ S = 1) : mvs b h S = qEJ b h S := by
 unfold mvs qEJ
 congr 1
 ·unfold qr
  rw [qRO]
  apply qIz
  intro f hf
  rw [List.mem_range'_1] at hf
  unfold qA5
  by_cases hs : sd (b.getD f 0) = S
  ·have : sdP b S f = true := by unfold sdP sds; rw [decide_eq_true hs, decide_eq_true (p := S = 0 \/ S = 1) hS]; rfl
   rw [if_pos this, if_pos hs]
   unfold qBq
   rw [tn, qRO]
   apply qIz
   intro t ht
   rw [List.mem_range'_1] at ht
   exact qpy hc h hS (by omega) (by omega) hs
  ·have : sdP b S f = false := by unfold sdP sds; rw [decide_eq_false hs, Bool.and_false]
   rw [if_neg (by simp [this]), if_neg hs]
 ·unfold qAH
  apply qIz
  intro k hk
  rw [List.mem_range'_1] at hk
  unfold qBG qEK
  have e : hdP h S k = hd_ h S k := by unfold hdP; rw [if_pos ⟨hS, by omega, by omega⟩]
  rw [e]
  by_cases h1 : hd_ h S k > 0
  ·rw [if_neg (by omega), if_pos h1, qo8]
   apply qIz
   intro t ht
   rw [List.mem_range'_1] at ht
   unfold qB9
   rw [Bool.and_true]
   have : qAE b h S 0 t k false = qAs b S k t := by
    unfold qAE qB2 qAs qA3
    have e2 : qCI 0 (t : Int) k false = 0 := by
     unfold qCI
     rw [if_neg (by omega), if_pos (by omega), if_pos ⟨by omega, by omega, rfl, rfl⟩]
    rw [e2, qAu hS (by omega) (by omega) (by omega), qAu hS (by omega) (by omega) (by omega), if_pos (by omega), if_pos (by omega), decide_eq_true (p := S = 0 \/ S = 1) hS, decide_eq_true (p := (S = 0 \/ S = 1) /\ (1 : Int) <= k /\ (k : Int) <= 7) ⟨hS, by omega, by omega⟩, qNv _ (by omega), qAZ (by omega), tn, decide_eq_true (p := 0 < hd_ h S k) h1]
    unfold tk
    by_cases h2 : (k : Int) = 1
    ·rw [h2]
     by_cases h0 : b.getD t 0 = 0 <;> simp
    ·by_cases h0 : b.getD t 0 = 0 <;> simp [h2]
   rw [this]
  ·rw [if_pos (by omega), if_neg h1]
end Go.Kk.Pl
namespace Go.Kk.Pl
def qC2 (m n : List Int) : Prop := m.getD 2 0 < n.getD 2 0 \/ (m.getD 2 0 = n.getD 2 0 /\ (m.getD 0 0 < n.getD 0 0 \/ (m.getD 0 0 = n.getD 0 0 /\ (m.getD 1 0 < n.getD 1 0 \/ (m.getD 1 0 = n.getD 1 0 /\ m.getD 3 0 = 0 /\ n.getD 3 0 ≠ 0)))))
theorem hd0 (m : List Int) : List.headD (List.take 4 m) 0 = m.getD 0 0 := by cases m <;> rfl
theorem hd1 (m : List Int) : List.headD (List.tail (List.take 4 m)) 0 = m.getD 1 0 := by
 rcases m with _ | ⟨a, _ | ⟨b, m⟩⟩ <;> rfl
theorem hd2 (m : List Int) : List.headD (List.tail (List.tail (List.take 4 m))) 0 = m.getD 2 0 := by
 rcases m with _ | ⟨a, _ | ⟨b, _ | ⟨c, m⟩⟩⟩ <;> rfl
theorem hd3 (m : List Int) : List.headD (List.tail (List.tail (List.tail (List.take 4 m)))) 0 = m.getD 3 0 := by
 rcases m with _ | ⟨a, _ | ⟨b, _ | ⟨c, _ | ⟨d, m⟩⟩⟩⟩ <;> rfl
theorem qRP (f : Nat -> Bool) : (sq f).Pairwise (· < ·) := by
 unfold sq
 rw [List.pairwise_map]
 have := (List.pairwise_lt_range (n := 81)).filter f
 exact this.imp fun h => by simp only [Int.ofNat_eq_natCast]; omega
theorem qPW {x f t : Int} {m : List Int} (h : m ∈ qy x f t) : ∃ p : Int, m = [f, t, 0, p] := by
 unfold qy at h
 rw [List.mem_append] at h
 rcases h with h | h
 ·split at h
  ·cases h
  ·exact ⟨0, by simpa using h⟩
 ·split at h
  ·exact ⟨1, by simpa using h⟩
  ·cases h
theorem qkR (x f t : Int) : (qy x f t).Pairwise qC2 := by
 unfold qy
 split <;> split <;> simp [qC2]
theorem qPM {b : List Int} {S : Int} {G : Nat -> Bool} {f : Int} {m : List Int} (h : m ∈ qBq b S G f) : ∃ t p : Int, m = [f, t, 0, p] := by
 unfold qBq at h
 obtain ⟨t, _, ht⟩ := List.mem_flatMap.1 h
 obtain ⟨p, hp⟩ := qPW ht
 exact ⟨t, p, hp⟩
theorem qjR (b : List Int) (S : Int) (G : Nat -> Bool) (f : Int) : (qBq b S G f).Pairwise qC2 := by
 unfold qBq
 rw [List.pairwise_flatMap]
 refine ⟨fun t _ => qkR _ _ _, (qRP _).imp fun {t t'} hlt x hx y hy => ?_⟩
 have hlt : t < t' := hlt
 obtain ⟨p, rfl⟩ := qPW hx
 obtain ⟨q, rfl⟩ := qPW hy
 exact Or.inr ⟨rfl, Or.inr ⟨rfl, Or.inl hlt⟩⟩
theorem qXG {b : List Int} {S : Int} {G : Nat -> Bool} {m : List Int} (h : m ∈ qr b S G) : ∃ f t p : Int, m = [f, t, 0, p] := by
 unfold qr at h
 obtain ⟨f, _, hf⟩ := List.mem_flatMap.1 h
 obtain ⟨t, p, hp⟩ := qPM hf
 exact ⟨f, t, p, hp⟩
theorem qjP (b : List Int) (S : Int) (G : Nat -> Bool) : (qr b S G).Pairwise qC2 := by
 unfold qr
 rw [List.pairwise_flatMap]
 refine ⟨fun t _ => qjR _ _ _ _, (qRP _).imp fun {t t'} hlt x hx y hy => ?_⟩
 have hlt : t < t' := hlt
 obtain ⟨_, _, rfl⟩ := qPM hx
 obtain ⟨_, _, rfl⟩ := qPM hy
 exact Or.inr ⟨rfl, Or.inl hlt⟩
theorem qPN {b h : List Int} {S : Int} {G : Nat -> Bool} {k : Nat} {m : List Int} (hm : m ∈ qBG b h S G k) : ∃ t : Int, m = [0, t, (k : Int), 0] := by
 unfold qBG at hm
 split at hm
 ·cases hm
 ·obtain ⟨t, _, ht⟩ := List.mem_map.1 hm
  exact ⟨t, ht.symm⟩
theorem qjS (b h : List Int) (S : Int) (G : Nat -> Bool) (k : Nat) : (qBG b h S G k).Pairwise qC2 := by
 unfold qBG
 split
 ·exact List.Pairwise.nil
 ·rw [List.pairwise_map]
  refine (qRP _).imp fun {t t'} hlt => ?_
  have hlt : t < t' := hlt
  exact Or.inr ⟨rfl, Or.inr ⟨rfl, Or.inl hlt⟩⟩
theorem qXH {b h : List Int} {S : Int} {G : Nat -> Bool} {m : List Int} (hm : m ∈ qAH b h S G) : ∃ (k : Nat) (t : Int), 1 <= k /\ k <= 7 /\ m = [0, t, (k : Int), 0] := by
 unfold qAH at hm
 obtain ⟨k, hk, h2⟩ := List.mem_flatMap.1 hm
 rw [List.mem_range'_1] at hk
 obtain ⟨t, ht⟩ := qPN h2
 exact ⟨k, t, by omega, by omega, ht⟩
theorem qjQ (b h : List Int) (S : Int) (G : Nat -> Bool) : (qAH b h S G).Pairwise qC2 := by
 unfold qAH
 rw [List.pairwise_flatMap]
 refine ⟨fun t _ => qjS _ _ _ _ _, (List.pairwise_lt_range' ..).imp fun {t t'} hlt x hx y hy => ?_⟩
 have hlt : t < t' := hlt
 obtain ⟨_, rfl⟩ := qPN hx
 obtain ⟨_, rfl⟩ := qPN hy
 simp only [qC2, List.getD_cons_zero, List.getD_cons_succ]
 omega
theorem qjV (b h : List Int) (S : Int) : (mvs b h S).Pairwise qC2 := by
 unfold mvs
 rw [List.pairwise_append]
 refine ⟨qjP _ _ _, qjQ _ _ _ _, fun x hx y hy => ?_⟩
 obtain ⟨_, _, _, rfl⟩ := qXG hx
 obtain ⟨k, _, h1, _, rfl⟩ := qXH hy
 simp only [qC2, List.getD_cons_zero, List.getD_cons_succ]
 omega
theorem qXK (b h : List Int) (S : Int) : (mvs b h S).length <= 20000 := by
 unfold mvs
 have h1 := qLG b S fun _ => true
 have h2 := qPL b h S fun _ => true
 rw [List.length_append]
 omega
end Go.Kk.Pl
namespace Go.Kk.Pl
theorem qVO (es : List (List Int × List Int)) (r v r' d : List Int) : qAe (q8 es r v) r' d = if r' = r then v else qAe es r' d := by
 induction es with
 | nil =>
   by_cases h : r' = r
   ·subst h; simp [q8, qAe]
   ·have : (r == r') = false := by simpa using fun hh => h hh.symm
    simp [q8, qAe, this, h]
 | cons x es ih =>
   obtain ⟨k, u⟩ := x
   by_cases hk : k = r
   ·subst hk
    by_cases h : r' = k
    ·subst h; simp [q8, qAe]
    ·have : (k == r') = false := by simpa using fun hh => h hh.symm
     simp [q8, qAe, this, h]
   ·have e1 : (k == r) = false := by simpa using hk
    by_cases hk' : k = r'
    ·subst hk'
     simp [q8, qAe, e1, hk]
    ·have e2 : (k == r') = false := by simpa using hk'
     simp only [q8, e1, cond_false, qAe, e2, ih]
theorem qhY (es : List (List Int × List Int)) (r v r' : List Int) : qA1 (q8 es r v) r' = (decide (r' = r) || qA1 es r') := by
 induction es with
 | nil =>
   by_cases h : r' = r
   ·subst h; simp [q8, qA1]
   ·have : (r == r') = false := by simpa using fun hh => h hh.symm
    simp [q8, qA1, this, h]
 | cons x es ih =>
   obtain ⟨k, u⟩ := x
   by_cases hk : k = r
   ·subst hk
    by_cases h : r' = k
    ·subst h; simp [q8, qA1]
    ·have : (k == r') = false := by simpa using fun hh => h hh.symm
     simp [q8, qA1, this, h]
   ·have e1 : (k == r) = false := by simpa using hk
    by_cases hk' : k = r'
    ·subst hk'
     simp [q8, qA1, e1]
    ·have e2 : (k == r') = false := by simpa using hk'
     simp only [q8, e1, cond_false, qA1, e2, ih, Bool.false_or]
structure MvOK (b h : List Int) (S f t d p : Int) : Prop where
 pp : p = 0 \/ p = 1
 mov : qAE b h S f t d (p != 0) = true
 tr : 0 <= t /\ t < 81
 fr : 0 <= f /\ f < 81
 dr : 0 <= d /\ d <= 7
 drop : d ≠ 0 -> f = 0 /\ p = 0 /\ 0 < hd_ h S d /\ at_ b t = 0
theorem qjT {b h : List Int} (hc : Clean b) {S : Int} (hS : S = 0 \/ S = 1) {m : List Int} (hm : m ∈ mvs b h S) : ∃ f t d p : Int, m = [f, t, d, p] /\ MvOK b h S f t d p := by
 rw [qPO hc h hS] at hm
 unfold qEJ at hm
 rw [List.mem_append] at hm
 rcases hm with hm | hm
 ·obtain ⟨f, hf, hm⟩ := List.mem_flatMap.1 hm
  rw [List.mem_range'_1] at hf
  unfold qA5 at hm
  split at hm <;> try cases hm
  obtain ⟨t, ht, hm⟩ := List.mem_flatMap.1 hm
  rw [List.mem_range'_1] at ht
  unfold rTo at hm
  split at hm <;> try cases hm
  unfold qAv at hm
  rw [List.mem_append] at hm
  rcases hm with hm | hm
  ·split at hm
   ·rename_i hmv
    rw [List.mem_singleton] at hm
    exact ⟨f, t, 0, 0, hm, .inl rfl, hmv, by omega, by omega, by omega, fun h => absurd rfl h⟩
   ·cases hm
  ·split at hm
   ·rename_i hmv
    rw [List.mem_singleton] at hm
    exact ⟨f, t, 0, 1, hm, .inr rfl, hmv, by omega, by omega, by omega, fun h => absurd rfl h⟩
   ·cases hm
 ·obtain ⟨k, hk, hm⟩ := List.mem_flatMap.1 hm
  rw [List.mem_range'_1] at hk
  unfold qEK at hm
  split at hm <;> try cases hm
  rename_i hh
  obtain ⟨t, ht, hm⟩ := List.mem_flatMap.1 hm
  rw [List.mem_range'_1] at ht
  unfold qB9 at hm
  split at hm
  case isFalse => cases hm
  rename_i hmv
  rw [List.mem_singleton] at hm
  refine ⟨0, t, k, 0, hm, .inl rfl, hmv, by omega, by omega, by omega, fun h => ⟨rfl, rfl, hh, ?_⟩⟩
  have := hmv
  unfold qAE qB2 at this
  rw [if_pos h] at this
  simp only [Bool.and_eq_true, decide_eq_true_eq] at this
  exact this.1.2.2.2
theorem qia {m : List Int} : ¬ qC2 m m := by unfold qC2; omega
theorem qjU (b h : List Int) (S : Int) : (mvs b h S).Nodup := by
 refine (qjV b h S).imp fun hl he => ?_
 subst he
 exact qia hl
end Go.Kk.Pl
namespace Go.Kk.Pl
theorem qca {x : Int} {a c : Nat} (h : qAx x a c = true) : -1 <= df a c /\ df a c <= 1 /\ -2 <= dr a c /\ dr a c <= 2 /\ (dr a c = 2 \/ dr a c = -2 -> df a c = 1 \/ df a c = -1) /\ ¬ (df a c = 0 /\ dr a c = 0) := by
 have h := of_decide_eq_true h
 unfold qBz at h
 have : upS x a c = dr a c \/ upS x a c = - dr a c := by unfold upS; split <;> simp
 omega
theorem qMU {x : Int} {a c : Nat} (h : qAx x a c = true) : btw a c = [] := by
 have hs := qca h
 unfold btw
 by_cases hl : qx a c = 0
 ·rw [if_pos hl]
 ·rw [if_neg hl]
  have hl := (qK5 a c).mp hl
  unfold qEB at hl
  have : mx a c <= 1 := by
   unfold mx
   split <;> omega
  rw [show mx a c - 1 = 0 by omega]
  rfl
theorem qph {x : Int} {a : Nat} : qAx x a a = false := by
 cases h : qAx x a a with
 | false => rfl
 | true => exact absurd (qHI a) (qca h).2.2.2.2.2
theorem qo2 {x : Int} {a : Nat} : qAj x a a = false := by
 unfold qAj
 have := qHI a
 have : upS x a a = 0 := by unfold upS; split <;> omega
 rw [decide_eq_false]
 unfold slK
 omega
theorem qYf {x : Int} {a : Nat} {t : Nat -> Bool} : rch x a a t = false := by
 unfold rch; rw [qph, qo2]; rfl
theorem qIn {k c f : Nat} (hk : k < 81) (hc : c < 81) (h : f ∈ btw c k) : f < 81 /\ f ≠ k /\ f ≠ c /\ ∃ n : Nat, (qA9 (sgn (df k f)) (sgn (dr k f)) k)[n]? = some c /\ ∀ i, (i ∈ btw c k ↔ i ∈ (qA9 (sgn (df k f)) (sgn (dr k f)) k).take n) := by
 have hf : f ∈ btw k c := qIl hc hk h
 have hl : qx k c ≠ 0 := by intro h0; unfold btw at hf; rw [if_pos h0] at hf; cases hf
 have := qKQ ⟨k, hk⟩ ⟨c, hc⟩
 simp only [qIq, Bool.or_eq_true, decide_eq_true_eq, Bool.and_eq_true, beq_iff_eq, Bool.not_eq_true'] at this
 obtain ⟨e1, e2, e3⟩ := this.resolve_left hl
 have hW : f ∈ qA9 (sgn (df k c)) (sgn (dr k c)) k := List.mem_of_mem_take (by rw [e1]; exact hf)
 have hli := (qK5 k c).mp hl
 have sx : -1 <= sgn (df k c) /\ sgn (df k c) <= 1 := by unfold sgn; split <;> (try split) <;> omega
 have sy : -1 <= sgn (dr k c) /\ sgn (dr k c) <= 1 := by unfold sgn; split <;> (try split) <;> omega
 have sn : ¬ (sgn (df k c) = 0 /\ sgn (dr k c) = 0) := by
  unfold qEB at hli
  unfold sgn
  split <;> split <;> (try split) <;> (try split) <;> omega
 have hB := qTm ⟨((sgn (df k c) + 1) * 3 + (sgn (dr k c) + 1)).toNat, by omega⟩ ⟨k, hk⟩
 simp only at hB
 rw [show (((((sgn (df k c) + 1) * 3 + (sgn (dr k c) + 1)).toNat / 3 : Nat) : Int) - 1) = sgn (df k c) by omega, show (((((sgn (df k c) + 1) * 3 + (sgn (dr k c) + 1)).toNat % 3 : Nat) : Int) - 1) = sgn (dr k c) by omega] at hB
 have hB := hB.resolve_left (by omega)
 unfold qNm at hB
 rw [List.all_eq_true] at hB
 have hB := hB f hW
 simp only [Bool.and_eq_true, decide_eq_true_eq] at hB
 obtain ⟨b1, b2, b3, b4⟩ := hB
 refine ⟨b1, ?_, ?_, (btw k c).length, ?_, ?_⟩
 ·rintro rfl
  exact b2 (by unfold qx; rw [if_pos rfl])
 ·rintro rfl
  rw [List.contains_iff_mem.mpr hf] at e3
  cases e3
 ·rw [b3, b4]; exact e2
 ·intro i
  rw [b3, b4, e1]
  exact ⟨qIl hc hk, qIl hk hc⟩
theorem qTa {k c c' f : Nat} (hk : k < 81) (hc : c < 81) (hc' : c' < 81) (h : f ∈ btw c k) (h' : f ∈ btw c' k) (hne : c ≠ c') : c ∈ btw c' k \/ c' ∈ btw c k := by
 obtain ⟨_, _, _, n, e, m⟩ := qIn hk hc h
 obtain ⟨_, _, _, n', e', m'⟩ := qIn hk hc' h'
 rcases Nat.lt_trichotomy n n' with hn | hn | hn
 ·left
  rw [m', List.mem_iff_getElem?]
  exact ⟨n, by rw [List.getElem?_take, if_pos hn]; exact e⟩
 ·subst hn
  rw [e] at e'
  exact absurd (Option.some.inj e') hne
 ·right
  rw [m, List.mem_iff_getElem?]
  exact ⟨n', by rw [List.getElem?_take, if_pos hn]; exact e'⟩
def enm (b : List Int) (s : Int) (c : Nat) : Bool := decide (sd (b.getD c 0) = 1 - s)
def atk (b : List Int) (s : Int) (k c : Nat) : Bool := enm b s c && rch (b.getD c 0) c k (tk b)
def tk2 (b : List Int) (f t i : Nat) : Bool := decide (i = t) || (!decide (i = f) && tk b i)
def qDv (b : List Int) (s : Int) (k f t c : Nat) : Bool := decide (c ≠ t) && (enm b s c && rch (b.getD c 0) c k (tk2 b f t))
def qAI (b : List Int) (s : Int) (k f c : Nat) : Bool := enm b s c && (qAj (b.getD c 0) c k && ((btw c k).contains f && (tk b f && (decide (sd (b.getD f 0) = s) && (btw c k).all fun i => i == f || !tk b i))))
theorem qC6 {b : List Int} {s : Int} {k f c : Nat} : qAI b s k f c = true ↔ enm b s c = true /\ qAj (b.getD c 0) c k = true /\ f ∈ btw c k /\ tk b f = true /\ sd (b.getD f 0) = s /\ ∀ i ∈ btw c k, i ≠ f -> tk b i = false := by
 unfold qAI
 simp only [Bool.and_eq_true, decide_eq_true_eq, List.all_eq_true, Bool.or_eq_true, beq_iff_eq, Bool.not_eq_true', List.contains_iff_mem]
 constructor
 ·rintro ⟨h1, h2, h3, h4, h5, h6⟩
  exact ⟨h1, h2, h3, h4, h5, fun i hi hn => (h6 i hi).resolve_left hn⟩
 ·rintro ⟨h1, h2, h3, h4, h5, h6⟩
  exact ⟨h1, h2, h3, h4, h5, fun i hi => by by_cases hn : i = f; exact .inl hn; exact .inr (h6 i hi hn)⟩
theorem qN2 {b : List Int} {s : Int} (hs : s = 0 \/ s = 1) {c : Nat} (h : enm b s c = true) : tk b c = true := by
 have h := of_decide_eq_true h
 unfold tk
 rw [decide_eq_true_eq]
 intro h0
 rw [h0, qJd] at h
 omega
theorem qYB {b : List Int} {s : Int} (hs : s = 0 \/ s = 1) {k f c c' : Nat} (hk : k < 81) (hc : c < 81) (hc' : c' < 81) (h : qAI b s k f c = true) (h' : qAI b s k f c' = true) : c = c' := by
 apply Classical.byContradiction
 intro hne
 rw [qC6] at h h'
 rcases qTa hk hc hc' h.2.2.1 h'.2.2.1 hne with hm | hm
 ·have := h'.2.2.2.2.2 c hm (fun e => (qIn hk hc h.2.2.1).2.2.1 e.symm)
  rw [qN2 hs h.1] at this
  cases this
 ·have := h.2.2.2.2.2 c' hm (fun e => (qIn hk hc' h'.2.2.1).2.2.1 e.symm)
  rw [qN2 hs h'.1] at this
  cases this
theorem qYC {b : List Int} {s : Int} {k f f' c : Nat} (h : qAI b s k f c = true) (h' : qAI b s k f' c = true) : f = f' := by
 apply Classical.byContradiction
 intro hne
 rw [qC6] at h h'
 have := h'.2.2.2.2.2 f h.2.2.1 hne
 rw [h.2.2.2.1] at this
 cases this
theorem qBv {x : Int} {a c : Nat} {t : Nat -> Bool} : rch x a c t = true ↔ qAx x a c = true \/ (qAj x a c = true /\ ∀ i ∈ btw a c, t i = false) := by
 unfold rch
 rw [Bool.or_eq_true, Bool.and_eq_true, qG9]
theorem qda {b : List Int} {s : Int} {k f t : Nat} (hf : tk b f = true -> sd (b.getD f 0) = s) :
  (∀ c, c < 81 -> qDv b s k f t c = false) ↔ (∀ c, c < 81 -> atk b s k c = true -> t = c \/ t ∈ btw c k) /\ (∀ c, c < 81 -> qAI b s k f c = true -> t = c \/ t ∈ btw c k) := by
 constructor
 ·intro h
  refine ⟨fun c hc ha => ?_, fun c hc hp => ?_⟩
  ·apply Classical.byContradiction
   intro hn
   simp only [not_or] at hn
   have := h c hc
   rw [show qDv b s k f t c = true from ?_] at this
   ·cases this
   ·simp only [atk, Bool.and_eq_true] at ha
    simp only [qDv, Bool.and_eq_true, decide_eq_true_eq]
    refine ⟨fun e => hn.1 e.symm, ha.1, ?_⟩
    rw [qBv] at ha ⊢
    refine ha.2.imp id fun hh => ⟨hh.1, fun i hi => ?_⟩
    unfold tk2
    rw [hh.2 i hi, decide_eq_false (p := i = t) (fun e => hn.2 (e ▸ hi))]
    simp
  ·apply Classical.byContradiction
   intro hn
   simp only [not_or] at hn
   have := h c hc
   rw [show qDv b s k f t c = true from ?_] at this
   ·cases this
   ·rw [qC6] at hp
    simp only [qDv, Bool.and_eq_true, decide_eq_true_eq]
    refine ⟨fun e => hn.1 e.symm, hp.1, ?_⟩
    rw [qBv]
    refine .inr ⟨hp.2.1, fun i hi => ?_⟩
    unfold tk2
    rw [decide_eq_false (p := i = t) (fun e => hn.2 (e ▸ hi))]
    by_cases hif : i = f
    ·simp [hif]
    ·rw [hp.2.2.2.2.2 i hi hif]; simp
 ·rintro ⟨h1, h2⟩ c hc
  cases ha : qDv b s k f t c with
  | false => rfl
  | true =>
    exfalso
    simp only [qDv, Bool.and_eq_true, decide_eq_true_eq] at ha
    obtain ⟨hct, he, hr⟩ := ha
    have tt : tk2 b f t t = true := by unfold tk2; simp
    have out : t ∉ btw c k := by
     intro hm
     rw [qBv] at hr
     rcases hr with hr | hr
     ·rw [qMU hr] at hm; cases hm
     ·rw [hr.2 t hm] at tt; cases tt
    cases hak : atk b s k c with
    | true => exact (h1 c hc hak).elim (fun e => hct e.symm) out
    | false =>
      unfold atk at hak
      rw [he, Bool.true_and] at hak
      have hn : ¬ (qAx (b.getD c 0) c k = true \/ (qAj (b.getD c 0) c k = true /\ ∀ i ∈ btw c k, tk b i = false)) := by
       rw [<- qBv, hak]; simp
      simp only [not_or, not_and] at hn
      rw [qBv] at hr
      have hr := hr.resolve_left hn.1
      have two : ∀ i ∈ btw c k, i ≠ f -> tk b i = false := by
       intro i hi hif
       have := hr.2 i hi
       unfold tk2 at this
       rw [decide_eq_false hif] at this
       simpa using (Bool.or_eq_false_iff.mp this).2
      have hmf : f ∈ btw c k /\ tk b f = true := by
       apply Classical.byContradiction
       intro hh
       apply hn.2 hr.1
       intro i hi
       by_cases hif : i = f
       ·subst hif
        cases htk : tk b i with
        | false => rfl
        | true => exact absurd ⟨hi, htk⟩ hh
       ·exact two i hi hif
      exact (h2 c hc (qC6.mpr ⟨he, hr.1, hmf.1, hmf.2, hf hmf.2, two⟩)).elim (fun e => hct e.symm) out
theorem qqB {b : List Int} {s : Int} (hs : s = 0 \/ s = 1) {k c c' t : Nat} (hk : k < 81) (hc : c < 81) (hc' : c' < 81) (h : atk b s k c = true) (h' : atk b s k c' = true) (hne : c ≠ c')
  (ht : t = c \/ t ∈ btw c k) (ht' : t = c' \/ t ∈ btw c' k) : False := by
 have no : ∀ {c c' : Nat}, atk b s k c = true -> atk b s k c' = true -> c ∈ btw c' k -> False := by
  intro c c' h h' hm
  simp only [atk, Bool.and_eq_true] at h h'
  rcases qBv.mp h'.2 with hr | hr
  ·rw [qMU hr] at hm; cases hm
  ·have := hr.2 c hm
   rw [qN2 hs h.1] at this; cases this
 rcases ht with rfl | ht
 ·rcases ht' with rfl | ht'
  ·exact hne rfl
  ·exact no h h' ht'
 ·rcases ht' with rfl | ht'
  ·exact no h' h ht
  ·rcases qTa hk hc hc' ht ht' hne with hm | hm
   ·exact no h h' hm
   ·exact no h' h hm
end Go.Kk.Pl
namespace Go.Kk.Pl
theorem qfo {f g : Nat -> Bool} (h : ∀ i, i < 81 -> f i = g i) : qAr f = qAr g := by
 unfold qAr
 apply List.countP_congr
 intro i hi
 rw [h i (List.mem_range.mp hi)]
theorem qfs : ∀ f : Fin 81, qAr (only ((f.val : Nat) : Int)) = 1 := by decide +kernel
theorem qG2 {g : Nat -> Bool} : qAr g = 1 ↔ ∃ f, f < 81 /\ ∀ i, i < 81 -> (g i = true ↔ i = f) := by
 constructor
 ·intro h
  unfold qAr at h
  rw [List.countP_eq_length_filter] at h
  obtain ⟨f, hf⟩ := List.length_eq_one_iff.mp h
  have hm : ∀ i, i ∈ (List.range 81).filter g ↔ i = f := by rw [hf]; simp
  refine ⟨f, ?_, fun i hi => ?_⟩
  ·have := (hm f).mpr rfl
   rw [List.mem_filter, List.mem_range] at this
   exact this.1
  ·rw [<- hm i, List.mem_filter, List.mem_range]
   exact ⟨fun h => ⟨hi, h⟩, fun h => h.2⟩
 ·rintro ⟨f, hf, h⟩
  rw [<- qfs ⟨f, hf⟩]
  apply qfo
  intro i hi
  unfold only
  rw [Bool.eq_iff_iff, h i hi, decide_eq_true_eq]
  simp only
  omega
theorem qOA {g : Nat -> Bool} {f : Nat} (hf : f < 81) (h : ∀ i, i < 81 -> (g i = true ↔ i = f)) : fst g = f := by
 apply qKm hf ((h f hf).mpr rfl)
 intro i hi
 cases hg : g i with
 | false => rfl
 | true => exact absurd ((h i (by omega)).mp hg) (by omega)
def qDs (k c : Nat) (i : Nat) : Bool := (btw c k).contains i || only c i
def qEI (b : List Int) (s : Int) (k c : Nat) : Option Nat := (List.range 81).find? fun f => qAI b s k f c
theorem qk7 {b : List Int} {s : Int} {k c f : Nat} (h : qAI b s k f c = true) (hf : f < 81) : qEI b s k c = some f := by
 unfold qEI
 cases hp : (List.range 81).find? fun f => qAI b s k f c with
 | none =>
   rw [List.find?_eq_none] at hp
   exact absurd h (hp f (List.mem_range.mpr hf))
 | some f' =>
   have := List.find?_some hp
   rw [qYC this h]
theorem qYA {b : List Int} {s : Int} {k c : Nat} (h : ∀ f, f < 81 -> qAI b s k f c = false) : qEI b s k c = none := by
 unfold qEI
 rw [List.find?_eq_none]
 intro f hf
 rw [h f (List.mem_range.mp hf)]
 simp
def qBm (b : List Int) (s : Int) (k : Nat) (P : Nat -> Bool) (es : List (List Int × List Int)) : Prop :=
 ∀ f : Nat, f < 81 -> (qA1 es [(f : Int)] = true ↔ ∃ c, c < 81 /\ P c = true /\ qAI b s k f c = true) /\ ∀ c, c < 81 -> P c = true -> qAI b s k f c = true -> qAe es [(f : Int)] [0, 0] = prS (qDs k c)
theorem qlA {b : List Int} (hcl : Clean b) (h : List Int) (S : Int) {s : Int} (hs : s = 0 \/ s = 1) {k : Nat} (hk : k < 81) (x2 : Nat) (x3 x4 : Int) (x14 : Nat) (x15 : List Int) (N : Nat) (L : List Int) {i : Nat} (hi : i < L.length) (hl : L.length <= 1000) {c : Nat} (hc : c < 81) (hq : L[i] = (c : Int)) (he : enm b s c = true)
  (es : List (List Int × List Int)) (R : Int -> Int -> Nat -> Int -> Int -> Nat -> Int -> Int -> List Int -> List Int -> Int -> List (List Int) -> List (List Int) -> List (List Int × List Int) -> Nat -> List Int -> Nat -> List Int -> Option (Int × Int × Nat × Int × Int × List Int × List Int × Int × List (List Int) × List (List Int) × List (List Int × List Int) × Nat × List Int)) :
  qFy R s k x2 x3 x4 L.length L.length i b h S (qI b) (qO b) es x14 x15 N L =
   R s k x2 x3 x4 L.length L.length ((i + 1 : Nat) : Int) b h S (qI b) (qO b) (match qEI b s k c with | none => es | some f => q8 es [(f : Int)] (prS (qDs k c))) x14 x15 N L := by
 unfold qFy
 have hget : L.getD i 0 = L[i] := qFw hi
 rw [qd (by omega), qa (by omega) (by omega), tn, hget, hq, qYL hc hk, qA]
 simp only
 rw [qJq hcl, qA]
 simp only
 rw [qEp, qA]
 simp only
 rw [qNu, qA, w_s (n := (i : Int) + 1) (by omega) (by omega)]
 have inm : ∀ f, f < 81 -> qAI b s k f c = true -> ∀ i, i < 81 -> (((btw c k).contains i && tk b i) = true ↔ i = f) := by
  intro f _ hp i _
  rw [qC6] at hp
  rw [Bool.and_eq_true, List.contains_iff_mem]
  constructor
  ·rintro ⟨h1, h2⟩
   apply Classical.byContradiction
   intro hn
   rw [hp.2.2.2.2.2 i h1 hn] at h2; cases h2
  ·rintro rfl; exact ⟨hp.2.2.1, hp.2.2.2.1⟩
 by_cases h1 : ((qAr fun i => (btw c k).contains i && tk b i : Nat) : Int) = 1
 ·rw [qu h1]
  obtain ⟨f, hf, hm⟩ := qG2.mp (by omega : (qAr fun i => (btw c k).contains i && tk b i) = 1)
  have only_f : ∀ f', f' < 81 -> qAI b s k f' c = true -> f' = f := fun f' hf' hp => (hm f' hf').mp ((inm f' hf' hp f' hf').mpr rfl)
  have none' : qAI b s k f c = false -> qEI b s k c = none := by
   intro h0
   apply qYA
   intro f' hf'
   cases hp : qAI b s k f' c with
   | false => rfl
   | true => rw [only_f f' hf' hp, h0] at hp; cases hp
  have hmf := (hm f hf).mpr rfl
  rw [Bool.and_eq_true, List.contains_iff_mem] at hmf
  rw [qPe, qA]
  simp only
  rw [qEp, qA]
  simp only
  rw [qIw, qA]
  by_cases hsd : sd (b.getD f 0) = s
  ·have hE0 : isE (fun i => ((btw c k).contains i && tk b i) && sdP b s i) = false := by
    cases hE : isE (fun i => ((btw c k).contains i && tk b i) && sdP b s i) with
    | false => rfl
    | true =>
      have := qCd.mp hE f hf
      rw [(hm f hf).mpr rfl] at this
      unfold sdP sds at this
      rw [decide_eq_true hs, decide_eq_true hsd] at this
      cases this
   rw [hE0, b_f]
   rw [qN7, qA, qCs, qA, qAZ (by omega), tn]
   rw [qOA hf hm, qA]
   simp only
   rw [qJ1, qA]
   simp only
   rw [qLf _ hc, qA]
   simp only
   rw [qD8, qA]
   have hh : ∀ g : Nat -> Bool, has g (k : Int) = g k := by
    intro g; unfold has; rw [decide_eq_true (by omega), decide_eq_true (by omega), tn]; rfl
   rw [hh]
   cases hr1 : rch (b.getD c 0) c k (fun i => tk b i && !only f i) with
   | false =>
     rw [Bool.not_false, b_t, none' ?_]
     ·rfl
     ·cases hp : qAI b s k f c with
      | false => rfl
      | true =>
        rw [qC6] at hp
        rw [<- hr1, qBv.mpr (.inr ⟨hp.2.1, ?_⟩)]
        intro i hi
        by_cases hif : i = f
        ·subst hif; unfold only; simp
        ·rw [hp.2.2.2.2.2 i hi hif]; rfl
   | true =>
     rw [Bool.not_true, b_f, qA, qA]
     simp only
     rw [qLf _ hc, qA]
     simp only
     rw [qD8, qA, hh]
     cases hr2 : rch (b.getD c 0) c k (tk b) with
     | true =>
       rw [b_t, none' ?_]
       ·rfl
       ·cases hp : qAI b s k f c with
        | false => rfl
        | true =>
          rw [qC6] at hp
          rcases qBv.mp hr2 with hr | hr
          ·rw [qMU hr] at hmf; cases hmf.1
          ·rw [hr.2 f hmf.1] at hmf; cases hmf.2
     | false =>
       have hn : ¬ (qAx (b.getD c 0) c k = true \/ (qAj (b.getD c 0) c k = true /\ ∀ i ∈ btw c k, tk b i = false)) := by
        rw [<- qBv, hr2]; simp
       simp only [not_or] at hn
       have hp : qAI b s k f c = true := by
        rw [qC6]
        refine ⟨he, ((qBv.mp hr1).resolve_left hn.1).1, hmf.1, hmf.2, hsd, fun i hi hif => ?_⟩
        cases htk : tk b i with
        | false => rfl
        | true =>
          exact absurd ((hm i (qIm hc hk hi)).mp (by rw [Bool.and_eq_true, List.contains_iff_mem]; exact ⟨hi, htk⟩)) hif
       rw [b_f, qGg, qA, qk7 hp hf]
       rfl
  ·have hE0 : isE (fun i => ((btw c k).contains i && tk b i) && sdP b s i) = true := by
    rw [qCd]
    intro i hi
    cases hx : ((btw c k).contains i && tk b i) with
    | false => rfl
    | true =>
      rw [(hm i hi).mp hx]
      unfold sdP sds
      rw [decide_eq_false hsd]; simp
   rw [hE0, b_t, none' ?_]
   ·rfl
   ·cases hp : qAI b s k f c with
    | false => rfl
    | true => exact absurd (qC6.mp hp).2.2.2.2.1 hsd
 ·rw [qq h1, qYA ?_]
  ·rfl
  ·intro f hf
   cases hp : qAI b s k f c with
   | false => rfl
   | true =>
     have := qG2.mpr ⟨f, hf, inm f hf hp⟩
     omega
theorem qk8 {b : List Int} {s : Int} (hs : s = 0 \/ s = 1) {k : Nat} (hk : k < 81) {P : Nat -> Bool} {es : List (List Int × List Int)} (hP : qBm b s k P es) {c : Nat} (hc : c < 81) :
  qBm b s k (fun i => P i || decide (i = c)) (match qEI b s k c with | none => es | some f => q8 es [(f : Int)] (prS (qDs k c))) := by
 cases hp : qEI b s k c with
 | none =>
   unfold qEI at hp
   rw [List.find?_eq_none] at hp
   intro f hf
   have hno := hp f (List.mem_range.mpr hf)
   obtain ⟨h1, h2⟩ := hP f hf
   refine ⟨?_, ?_⟩
   ·rw [h1]
    constructor
    ·rintro ⟨c', a, a', a''⟩; exact ⟨c', a, by simp [a'], a''⟩
    ·rintro ⟨c', a, a', a''⟩
     rw [Bool.or_eq_true, decide_eq_true_eq] at a'
     rcases a' with a' | rfl
     ·exact ⟨c', a, a', a''⟩
     ·exact absurd a'' hno
   ·intro c' a a' a''
    rw [Bool.or_eq_true, decide_eq_true_eq] at a'
    rcases a' with a' | rfl
    ·exact h2 c' a a' a''
    ·exact absurd a'' hno
 | some g =>
   have hg := List.find?_some (show (List.range 81).find? (fun f => qAI b s k f c) = some g from hp)
   have hg' : g < 81 := List.mem_range.mp (List.mem_of_find?_eq_some (show (List.range 81).find? (fun f => qAI b s k f c) = some g from hp))
   intro f hf
   obtain ⟨h1, h2⟩ := hP f hf
   simp only
   rw [qhY, qVO]
   by_cases hfg : f = g
   ·subst hfg
    rw [decide_eq_true rfl, if_pos rfl]
    refine ⟨⟨fun _ => ⟨c, hc, by simp, hg⟩, fun _ => rfl⟩, fun c' a _ a'' => ?_⟩
    rw [qYB hs hk hc a hg a'']
   ·have hne : ¬ ([(f : Int)] = [(g : Int)]) := by
     intro e
     have := List.cons.inj e
     omega
    rw [decide_eq_false hne, if_neg hne, Bool.false_or]
    have hno : ¬ qAI b s k f c = true := fun hp' => hfg (qYC hp' hg)
    refine ⟨?_, ?_⟩
    ·rw [h1]
     constructor
     ·rintro ⟨c', a, a', a''⟩; exact ⟨c', a, by simp [a'], a''⟩
     ·rintro ⟨c', a, a', a''⟩
      rw [Bool.or_eq_true, decide_eq_true_eq] at a'
      rcases a' with a' | rfl
      ·exact ⟨c', a, a', a''⟩
      ·exact absurd a'' hno
    ·intro c' a a' a''
     rw [Bool.or_eq_true, decide_eq_true_eq] at a'
     rcases a' with a' | rfl
     ·exact h2 c' a a' a''
     ·exact absurd a'' hno
theorem qJL {b : List Int} {s : Int} {k : Nat} {P Q : Nat -> Bool} {es : List (List Int × List Int)} (h : ∀ i, i < 81 -> P i = Q i) (hP : qBm b s k P es) : qBm b s k Q es := by
 intro f hf
 obtain ⟨h1, h2⟩ := hP f hf
 refine ⟨?_, fun c hc hq => h2 c hc (by rw [h c hc]; exact hq)⟩
 rw [h1]
 constructor
 ·rintro ⟨c, a, a', a''⟩; exact ⟨c, a, by rw [<- h c a]; exact a', a''⟩
 ·rintro ⟨c, a, a', a''⟩; exact ⟨c, a, by rw [h c a]; exact a', a''⟩
theorem qk9 {b : List Int} (hcl : Clean b) (h : List Int) (S : Int) {s : Int} (hs : s = 0 \/ s = 1) {k : Nat} (hk : k < 81) (x2 : Nat) (x3 x4 : Int) (x14 : Nat) (x15 : List Int) (N : Nat) (L : List Int) (hl : L.length <= 1000) (hL : ∀ q ∈ L, 0 <= q /\ q < 81 /\ enm b s q.toNat = true) : ∀ (n i : Nat), i + n = L.length -> ∀ (P : Nat -> Bool) (es : List (List Int × List Int)), qBm b s k P es ->
  ∃ es', (∀ F, qEs (F + n + 1) s k x2 x3 x4 L.length L.length i b h S (qI b) (qO b) es x14 x15 N L = some (s, (k : Int), x2, x3, x4, b, h, S, qI b, qO b, es', x14, x15)) /\ qBm b s k (fun c => P c || (L.drop i).contains (c : Int)) es' := by
 intro n
 induction n with
 | zero =>
   intro i hi P es hP
   refine ⟨es, fun F => ?_, ?_⟩
   ·show qFy (qEs (F + 0)) _ _ _ _ _ _ _ _ _ _ _ _ _ _ _ _ _ _ = _
    unfold qFy
    rw [qW (by omega)]
   ·rw [List.drop_eq_nil_of_le (by omega)]
    exact qJL (fun i _ => by simp) hP
 | succ n ih =>
   intro i hi P es hP
   have hil : i < L.length := by omega
   obtain ⟨q0, q1, q2⟩ := hL L[i] (List.getElem_mem hil)
   obtain ⟨c, hc⟩ : ∃ c : Nat, L[i] = c := ⟨L[i].toNat, by omega⟩
   rw [hc] at q0 q1 q2
   obtain ⟨es', h1, h2⟩ := ih (i + 1) (by omega) _ _ (qk8 hs hk hP (c := c) (by omega))
   refine ⟨es', fun F => ?_, qJL (fun j _ => ?_) h2⟩
   ·show qFy (qEs (F + n + 1)) _ _ _ _ _ _ _ _ _ _ _ _ _ _ _ _ _ _ = _
    rw [qlA hcl h S hs hk x2 x3 x4 x14 x15 N L hil hl (by omega) hc q2]
    exact h1 F
   ·rw [List.drop_eq_getElem_cons hil, List.contains_cons, hc, Bool.or_assoc]
    congr 2
    rw [Bool.eq_iff_iff, decide_eq_true_eq, beq_iff_eq]
    omega
def qAf : List Int := [2, 6, 7, 14, 15]
theorem qiE {b : List Int} (hcl : Clean b) (h : List Int) (S : Int) {s : Int} (hs : s = 0 \/ s = 1) {k : Nat} (hk : k < 81) : ∀ (n i : Nat), i + n = 5 -> ∀ (P : Nat -> Bool) (es : List (List Int × List Int)), qBm b s k P es ->
  ∃ es', (∀ F, qEr (F + n + 1) s k 5 5 i b h S (qI b) (qO b) es 5 qAf = some (b, h, S, qI b, qO b, es')) /\ qBm b s k (fun c => P c || (qAf.drop i).any fun x => pcs b (pc (1 - s) x) c) es' := by
 intro n
 induction n with
 | zero =>
   intro i hi P es hP
   refine ⟨es, fun F => ?_, ?_⟩
   ·show qGp (qEr (F + 0)) _ _ _ _ _ _ _ _ _ _ _ _ _ = _
    unfold qGp
    rw [qW (by omega)]
   ·rw [List.drop_eq_nil_of_le (by show 5 <= i; omega)]
    exact qJL (fun i _ => by simp) hP
 | succ n ih =>
   intro i hi P es hP
   have hil : i < qAf.length := by show i < 5; omega
   obtain ⟨x, hx, hget, hdr⟩ : ∃ x, (x = 2 \/ x = 6 \/ x = 7 \/ x = 14 \/ x = 15) /\ qAf.getD i 0 = x /\ qAf.drop i = x :: qAf.drop (i + 1) := by
    have : ∀ j : Fin 5, (qAf.getD j.val 0 = 2 \/ qAf.getD j.val 0 = 6 \/ qAf.getD j.val 0 = 7 \/ qAf.getD j.val 0 = 14 \/ qAf.getD j.val 0 = 15) /\ qAf.drop j.val = qAf.getD j.val 0 :: qAf.drop (j.val + 1) := by decide
    have := this ⟨i, hil⟩
    exact ⟨qAf.getD i 0, this.1, rfl, this.2⟩
   obtain ⟨es1, h1, h2⟩ := qk9 hcl h S hs hk 5 5 i 5 qAf (sq (pcs b (pc (1 - s) x))).length (sq (pcs b (pc (1 - s) x))) (by have := qEe (pcs b (pc (1 - s) x)); omega) (by
    intro q hq
    obtain ⟨a, a', a''⟩ := qGa hq
    refine ⟨a, a', ?_⟩
    have := of_decide_eq_true a''
    unfold enm
    rw [this.2, (qDm (s := 1 - s) (by omega) (k := x) (by omega) (by omega) (by omega)).1]
    simp) (sq (pcs b (pc (1 - s) x))).length 0 (by omega) P es hP
   obtain ⟨es', h3, h4⟩ := ih (i + 1) (by omega) _ _ h2
   obtain ⟨g, hg⟩ := qe (sq (pcs b (pc (1 - s) x))).length (by have := qEe (pcs b (pc (1 - s) x)); omega)
   refine ⟨es', fun F => ?_, qJL (fun j hj => ?_) h4⟩
   ·show qGp (qEr (F + n + 1)) _ _ _ _ _ _ _ _ _ _ _ _ _ = _
    unfold qGp
    rw [qd (by omega), qa (by omega) (by omega), tn, hget, w_s (n := 1 - s) (by omega) (by omega), qGJ, qA]
    simp only
    rw [qJk, qA]
    simp only
    have := h1 g
    rw [<- hg] at this
    rw [show qEs qC s k 5 5 i (sq (pcs b (pc (1 - s) x))).length (Int.ofNat (sq (pcs b (pc (1 - s) x))).length) 0 b h S (qI b) (qO b) es 5 qAf (sq (pcs b (pc (1 - s) x))).length (sq (pcs b (pc (1 - s) x))) = _ from this, qA]
    simp only
    rw [w_s (n := (i : Int) + 1) (by omega) (by omega)]
    exact h3 F
   ·rw [hdr, List.any_cons, List.drop_zero, <- Bool.or_assoc]
    congr 2
    cases hp : pcs b (pc (1 - s) x) j with
    | true => rw [List.contains_iff_mem.mpr (qWp hj hp)]
    | false =>
      cases hcn : (sq (pcs b (pc (1 - s) x))).contains (j : Int) with
      | false => rfl
      | true =>
        have := (qGa (List.contains_iff_mem.mp hcn)).2.2
        rw [tn, hp] at this
        cases this
theorem qo1 {b : List Int} {s : Int} (_hs : s = 0 \/ s = 1) {c k : Nat} (he : enm b s c = true) (h : qAj (b.getD c 0) c k = true) : (qAf.any fun x => pcs b (pc (1 - s) x) c) = true := by
 have he := of_decide_eq_true he
 have h := of_decide_eq_true h
 have hk : kd (b.getD c 0) = 2 \/ kd (b.getD c 0) = 6 \/ kd (b.getD c 0) = 7 \/ kd (b.getD c 0) = 14 \/ kd (b.getD c 0) = 15 := by
  unfold slK at h; omega
 have hx := qLT (x := b.getD c 0) (by omega)
 rw [List.any_eq_true]
 refine ⟨kd (b.getD c 0), ?_, ?_⟩
 ·unfold qAf
  rcases hk with h | h | h | h | h <;> rw [h] <;> simp
 ·unfold pcs
  rw [decide_eq_true_eq, <- he, <- hx]
  refine ⟨fun h0 => ?_, rfl⟩
  rw [h0, qFG] at hk
  omega
theorem qlC {b : List Int} (hcl : Clean b) (h : List Int) (S : Int) {s : Int} (hs : s = 0 \/ s = 1) : ∃ es, qGn s b h S (qI b) (qO b) = some es /\
  (kg b s < 0 -> es = []) /\ (0 <= kg b s -> qBm b s (kg b s).toNat (fun c => enm b s c && (qAf.any fun x => pcs b (pc (1 - s) x) c)) es) := by
 have hr := qU2 (pcs b (pc s 8))
 unfold qGn
 rw [qOn, show fst (pcs b (pc s 8)) = kg b s from rfl, qA]
 by_cases hk : kg b s < 0
 ·rw [qd hk]
  exact ⟨[], rfl, fun _ => rfl, fun h => by omega⟩
 ·rw [qW hk]
  have hk1 : kg b s < 81 := hr.2
  obtain ⟨k, hkk⟩ : ∃ k : Nat, kg b s = k := ⟨(kg b s).toNat, by omega⟩
  rw [hkk]
  have h0 : qBm b s k (fun _ => false) [] := by
   intro f hf
   exact ⟨⟨fun h => (by cases h), fun ⟨_, _, h, _⟩ => (by cases h)⟩, fun _ _ h => (by cases h)⟩
  obtain ⟨es, h1, h2⟩ := qiE hcl h S hs (k := k) (by omega) 5 0 rfl _ [] h0
  obtain ⟨g, hg⟩ := qe 5 (by omega)
  have := h1 g
  rw [<- hg] at this
  refine ⟨es, ?_, fun h => by omega, fun _ => ?_⟩
  ·rw [show qEr qC s k 5 5 0 b h S (qI b) (qO b) [] 5 [2, 6, 7, 14, 15] = _ from this, qA]
  ·rw [tn]
   refine qJL (fun i _ => ?_) h2
   rw [List.drop_zero, Bool.false_or]
   cases ha : (qAf.any fun x => pcs b (pc (1 - s) x) i) with
   | false => simp
   | true =>
     rw [List.any_eq_true] at ha
     obtain ⟨x, hx, hp⟩ := ha
     have := of_decide_eq_true hp
     unfold qAf at hx
     have hx' : x = 2 \/ x = 6 \/ x = 7 \/ x = 14 \/ x = 15 := by simpa using hx
     unfold enm
     rw [this.2, (qDm (s := 1 - s) (by omega) (k := x) (by omega) (by omega) (by omega)).1]
     simp
end Go.Kk.Pl
namespace Go.Kk.Pl
def laid (b : List Int) (s f d : Int) (p : Bool) : Int := if d ≠ 0 then 16 * s + d else if p = true then 16 * s + up_ (kd (at_ b f)) else at_ b f
def was (b : List Int) (s f d : Int) : Int := if d ≠ 0 then 16 * s + d else at_ b f
def mb (b : List Int) (s f t d : Int) (p : Bool) : List Int := if d ≠ 0 then put b t (laid b s f d p) else put (put b f 0) t (laid b s f d p)
def mh (b h : List Int) (s t d : Int) : List Int := if d ≠ 0 then qw h s d (-1) else if at_ b t = 0 then h else qw h s (rw_ (kd (at_ b t))) 1
def qHY (K : Int) (b h : List Int) (s f t d : Int) (p : Bool) : Int := qKz (if d ≠ 0 then qCM (qFI K h s d (-1)) b t (laid b s f d p) else
 if at_ b t = 0 then qCM (qCM K b f 0) (put b f 0) t (laid b s f d p) else qFI (qCM (qCM K b f 0) (put b f 0) t (laid b s f d p)) h s (rw_ (kd (at_ b t))) 1)
theorem qIX {k : Int} (h : up_ k ≠ 0) : 1 <= up_ k /\ up_ k <= 15 /\ up_ k ≠ 13 := by
 unfold up_ at h ⊢
 split
 ·omega
 ·rename_i h2; rw [if_neg h2] at h; exact absurd rfl h
end Go.Kk.Pl
namespace Go.Kk.Pl
def kof (b h : List Int) (s : Int) : Int := (qC1 b h s).getD 0
theorem qV6 (b h : List Int) (s : Int) : qC1 b h s = some (kof b h s) := by
 obtain ⟨k, hk, _⟩ := qh7 b h s
 unfold kof; rw [hk]; rfl
end Go.Kk.Pl
namespace Go.Kk.Pl
def dl (x k : Int) : Int := if rw_ (kd x) = k then 1 else 0
theorem qTv (x : Int) (l : List Int) (k : Int) : (cnt (x :: l) k : Int) = cnt l k + dl x k := by
 unfold cnt dl
 rw [List.countP_cons]
 by_cases h : rw_ (kd x) = k
 ·simp [h]
 ·have : (rw_ (kd x) == k) = false := by simpa using h
  simp [h]
theorem qft (x k : Int) : ∀ (l : List Int) (i : Nat), i < l.length -> (cnt (l.set i x) k : Int) + dl (l.getD i 0) k = cnt l k + dl x k := by
 intro l
 induction l with
 | nil => intro i hi; simp at hi
 | cons y l ih =>
   intro i hi
   cases i with
   | zero =>
     simp only [List.set_cons_zero, qTv, List.getD_cons_zero]
     omega
   | succ i =>
     have := ih i (by simpa using hi)
     simp only [List.set_cons_succ, qTv, List.getD_cons_succ]
     omega
theorem qhj (x : Int) : kd (if kd x = 0 then 0 else x) = kd x := by
 split
 ·rename_i h; rw [h]; exact qFG
 ·rfl
theorem qNs {b : List Int} (hl : b.length = 81) {q : Int} (hq : 0 <= q /\ q < 81) (x k : Int) : (cnt (put b q x) k : Int) + dl (at_ b q) k = cnt b k + dl x k := by
 unfold put at_
 rw [if_pos hq, if_pos hq]
 have := qft (if kd x = 0 then 0 else x) k b q.toNat (by omega)
 have e : dl (if kd x = 0 then 0 else x) k = dl x k := by unfold dl; rw [qhj]
 rw [e] at this
 exact this
theorem qN0 {k : Int} (h : 1 <= k) : dl 0 k = 0 := by
 unfold dl
 rw [if_neg]
 rw [qFG]
 unfold rw_
 rw [if_pos (by omega)]
 omega
theorem qFu {n : Int} (h1 : -128 <= n) (h2 : n <= 127) : IntKind.wrap .i8 n = n := qBK h1 h2
theorem qqN (n : Int) : -128 <= IntKind.wrap .i8 n /\ IntKind.wrap .i8 n <= 127 := by
 simp [IntKind.wrap, IntKind.signed, IntKind.bits]
 omega
theorem qOU (h : List Int) (s k d : Int) : (qw h s k d).length = h.length := by simp [qw]
theorem qUt {h : List Int} (hf : qAV h) (s k d : Int) : qAV (qw h s k d) := by
 intro i
 unfold qw
 by_cases e : s.toNat * 8 + k.toNat = i
 ·by_cases hi : i < h.length
  ·subst e
   rw [List.getD_eq_getElem?_getD, List.getElem?_set_self hi]
   exact qqN _
  ·rw [List.getD_eq_getElem?_getD, List.getElem?_eq_none (by simpa using hi)]
   simp
 ·rw [List.getD_eq_getElem?_getD, List.getElem?_set_ne e, <- List.getD_eq_getElem?_getD]
  exact hf i
theorem qFD {h : List Int} (hl : h.length = 16) {s k : Int} (hs : s = 0 \/ s = 1) (k0 : 0 <= k) (k1 : k < 8) (d : Int) {s' k' : Int} (hs' : s' = 0 \/ s' = 1) (k0' : 0 <= k') (k1' : k' < 8) :
  hd_ (qw h s k d) s' k' = if s' = s /\ k' = k then IntKind.wrap .i8 (hd_ h s k + d) else hd_ h s' k' := by
 by_cases e : s' = s /\ k' = k
 ·obtain ⟨rfl, rfl⟩ := e
  rw [if_pos ⟨rfl, rfl⟩]
  unfold qw
  rw [show hd_ (h.set (s'.toNat * 8 + k'.toNat) (IntKind.wrap .i8 (hd_ h s' k' + d))) s' k' = (h.set (s'.toNat * 8 + k'.toNat) (IntKind.wrap .i8 (hd_ h s' k' + d))).getD (s'.toNat * 8 + k'.toNat) 0 from rfl,
   List.getD_eq_getElem?_getD, List.getElem?_set_self (by rcases hs' with rfl | rfl <;> simp <;> omega)]
  rfl
 ·rw [if_neg e]
  unfold qw hd_
  rw [List.getD_eq_getElem?_getD, List.getElem?_set_ne (by rcases hs with rfl | rfl <;> rcases hs' with rfl | rfl <;> simp <;> omega), <- List.getD_eq_getElem?_getD]
theorem qG6 {h : List Int} (hf : qAV h) (s k : Int) : -128 <= hd_ h s k /\ hd_ h s k <= 127 := hf _
theorem qns {k : Int} (h1 : 1 <= k) (h2 : k < 8) : rw_ k = k := by
 unfold rw_
 rw [if_neg (by omega), if_neg (by omega)]
theorem qnt {k : Int} (h : up_ k ≠ 0) : rw_ (up_ k) = rw_ k := by
 unfold up_ at h ⊢
 split
 ·unfold rw_
  rw [if_neg (by omega), if_pos (by omega), if_neg (by omega), if_neg (by omega)]
  omega
 ·rename_i h2; rw [if_neg h2] at h; exact absurd rfl h
theorem qk6 {b h : List Int} {s : Int} (hS : Sound b h s) (hf : qAV h) (hl : h.length = 16) {f t d : Int} {p : Bool} (hP : CanP b h s f t d p) {k : Int} (k0 : 1 <= k) (k1 : k < 8) :
  (cnt (mb b s f t d p) k : Int) + hd_ (mh b h s t d) 0 k + hd_ (mh b h s t d) 1 k = cnt b k + hd_ h 0 k + hd_ h 1 k := by
 have hsd := hS.side
 by_cases hd : d = 0
 ·obtain ⟨f0, f1, f2, g1, g2, g3, g4⟩ := hP.move hd
  unfold mb mh
  rw [if_neg (by simpa using hd), if_neg (by simpa using hd)]
  have c1 := qNs hS.clean.len ⟨f0, f1⟩ 0 k
  have c2 := qNs (hS.clean.put f 0).len hP.to_ (laid b s f d p) k
  have e1 : at_ (put b f 0) t = at_ b t := by rw [qDJ hS.clean.len ⟨f0, f1⟩, if_neg (Ne.symm f2)]
  rw [e1] at c2
  rw [qN0 k0] at c1
  have e2 : dl (laid b s f d p) k = dl (at_ b f) k := by
   unfold laid
   rw [if_neg (by simpa using hd)]
   cases p with
   | false => rfl
   | true =>
     have hu := g4 rfl
     obtain ⟨u1, u2, u3⟩ := qIX hu
     rw [if_pos rfl]
     unfold dl
     rw [qHL hsd u1 u2 u3, qnt hu]
  rw [e2] at c2
  by_cases ht : at_ b t = 0
  ·rw [if_pos ht]
   rw [ht, qN0 k0] at c2
   omega
  ·rw [if_neg ht]
   have hk := (hS.clean.at_ t).resolve_left ht
   obtain ⟨r1, r2⟩ := qIA hk g3
   have hc := hS.counts _ r1 r2
   have h0 := hS.hands (rw_ (kd (at_ b t))) (by omega) r2
   rw [qFD hl hsd (by omega) r2 1 (.inl rfl) (by omega) k1, qFD hl hsd (by omega) r2 1 (.inr rfl) (by omega) k1]
   by_cases hkr : k = rw_ (kd (at_ b t))
   ·have e3 : dl (at_ b t) k = 1 := by unfold dl; rw [if_pos hkr.symm]
    rw [e3] at c2
    rcases hsd with rfl | rfl
    ·rw [if_pos ⟨rfl, hkr⟩, if_neg (by omega), qFu (by omega) (by omega), <- hkr]
     omega
    ·rw [if_neg (by omega), if_pos ⟨rfl, hkr⟩, qFu (by omega) (by omega), <- hkr]
     omega
   ·have e3 : dl (at_ b t) k = 0 := by unfold dl; rw [if_neg (Ne.symm hkr)]
    rw [e3] at c2
    rw [if_neg (fun h => hkr h.2), if_neg (fun h => hkr h.2)]
    omega
 ·obtain ⟨d0, d1, d2, d3, g1, g2⟩ := hP.drop hd
  unfold mb mh
  rw [if_pos hd, if_pos hd]
  have c1 := qNs hS.clean.len hP.to_ (laid b s f d p) k
  have hl' : laid b s f d p = 16 * s + d := by unfold laid; rw [if_pos hd]
  rw [g2, qN0 k0, hl'] at c1
  rw [hl']
  have hb := qG6 hf s d
  rw [qFD hl hsd (by omega) d1 (-1) (.inl rfl) (by omega) k1, qFD hl hsd (by omega) d1 (-1) (.inr rfl) (by omega) k1]
  have e3 : dl (16 * s + d) k = if d = k then 1 else 0 := by
   unfold dl
   rw [qHL hsd (by omega) (by omega) (by omega), qns (by omega) d1]
  rw [e3] at c1
  by_cases hkd : k = d
  ·subst hkd
   rw [if_pos rfl] at c1
   rcases hsd with rfl | rfl
   ·rw [if_pos ⟨rfl, rfl⟩, if_neg (by omega), qFu (by omega) (by omega)]
    omega
   ·rw [if_neg (by omega), if_pos ⟨rfl, rfl⟩, qFu (by omega) (by omega)]
    omega
  ·rw [if_neg (Ne.symm hkd)] at c1
   rw [if_neg (fun h => hkd h.2), if_neg (fun h => hkd h.2)]
   omega
theorem qO9 {b : List Int} (hc : Clean b) (s f t d : Int) (p : Bool) : Clean (mb b s f t d p) := by
 unfold mb
 split
 ·exact hc.put _ _
 ·exact (hc.put _ _).put _ _
theorem qi0 {h : List Int} (hf : qAV h) (b : List Int) (s t d : Int) : qAV (mh b h s t d) := by
 unfold mh
 split
 ·exact qUt hf _ _ _
 ·split
  ·exact hf
  ·exact qUt hf _ _ _
theorem qi1 {h : List Int} (hl : h.length = 16) (b : List Int) (s t d : Int) : (mh b h s t d).length = 16 := by
 unfold mh
 split
 ·rw [qOU]; exact hl
 ·split
  ·exact hl
  ·rw [qOU]; exact hl
end Go.Kk.Pl
namespace Go.Kk.Pl
theorem canP {b h : List Int} {s f t d : Int} {p : Bool} (hm : qB2 b h s f t d p = true) : (s = 0 \/ s = 1) /\ CanP b h s f t d p := by
 unfold qB2 at hm
 rw [Bool.and_eq_true, Bool.and_eq_true, decide_eq_true_eq, decide_eq_true_eq] at hm
 obtain ⟨h1, hs, h2⟩ := hm
 obtain ⟨ht, hd, hmv⟩ := qKR h1
 refine ⟨hs, ht, fun d0 => ?_, fun d0 => ?_⟩
 ·rw [if_pos d0] at h2
  simp only [Bool.and_eq_true, decide_eq_true_eq] at h2
  have := hd d0
  exact ⟨by omega, by omega, this.2.2.1, this.2.2.2, by omega, h2.2⟩
 ·rw [if_neg (by simpa using d0)] at h2
  simp only [Bool.and_eq_true, decide_eq_true_eq, Bool.or_eq_true, Bool.not_eq_true'] at h2
  obtain ⟨h3, h4⟩ := hmv d0
  exact ⟨h3.1, h3.2, h4, h2.1.1, h2.1.2.1, h2.1.2.2, fun hp => by
   rcases h2.2 with h5 | h5
   ·rw [hp] at h5; cases h5
   ·exact h5⟩
theorem qFM {b h : List Int} {s f t d : Int} {p : Bool} (hm : qAE b h s f t d p = true) : (s = 0 \/ s = 1) /\ CanP b h s f t d p := by
 unfold qAE at hm
 rw [Bool.and_eq_true] at hm
 exact canP hm.1
theorem qOX {x s : Int} (hs : s = 0 \/ s = 1) (h : sd x = s) : kd x ≠ 0 := by
 intro h0
 rw [qau h0] at h
 omega
theorem qFJ {b h : List Int} {s f t d : Int} {p : Bool} (hs : s = 0 \/ s = 1) (hP : CanP b h s f t d p) : sd (laid b s f d p) = s /\ kd (laid b s f d p) ≠ 0 /\ (laid b s f d p = pc s 8 ↔ d = 0 /\ at_ b f = pc s 8) := by
 unfold laid
 by_cases hd : d = 0
 ·have hm := hP.move hd
  rw [if_neg (by simpa using hd)]
  cases p with
  | false =>
    rw [if_neg (by simp)]
    exact ⟨hm.2.2.2.1, qOX hs hm.2.2.2.1, fun h => ⟨hd, h⟩, fun h => h.2⟩
  | true =>
    rw [if_pos rfl]
    have hu := hm.2.2.2.2.2.2 rfl
    obtain ⟨u1, u2, u3⟩ := qIX hu
    have hx := qDm hs u1 u2 u3
    rw [qAu hs u1 u2 u3] at hx
    have u8 : up_ (kd (at_ b f)) ≠ 8 := by unfold up_; split <;> omega
    refine ⟨hx.1, by rw [hx.2]; omega, fun h => ?_, fun h => ?_⟩
    ·rw [qAu hs (by omega) (by omega) (by omega)] at h
     omega
    ·exfalso
     apply hu
     rw [h.2, (qDm hs (by omega) (by omega) (by omega)).2]
     rfl
 ·have hm := hP.drop hd
  rw [if_pos hd]
  have hx := qDm hs (k := d) (by omega) (by omega) (by omega)
  rw [qAu hs (by omega) (by omega) (by omega)] at hx
  refine ⟨hx.1, by rw [hx.2]; exact hd, fun h => ?_, fun h => absurd h.1 hd⟩
  rw [qAu hs (by omega) (by omega) (by omega)] at h
  omega
theorem qEC {b h : List Int} {s f t d : Int} {p : Bool} (hc : Clean b) (hs : s = 0 \/ s = 1) (hP : CanP b h s f t d p) {i : Nat} (hi : i < 81) :
  (mb b s f t d p).getD i 0 = if i = t.toNat then laid b s f d p else if d = 0 /\ i = f.toNat then 0 else b.getD i 0 := by
 have ht := hP.to_
 have hl := (qFJ hs hP).2.1
 have e1 : (mb b s f t d p).getD i 0 = at_ (mb b s f t d p) i := by rw [qAZ (by omega), tn]
 have e2 : b.getD i 0 = at_ b i := by rw [qAZ (by omega), tn]
 rw [e1, e2]
 unfold mb
 by_cases hd : d = 0
 ·have hm := hP.move hd
  rw [if_neg (by simpa using hd), qDJ (hc.put f 0).1 ht, if_neg hl, qDJ hc.1 ⟨hm.1, hm.2.1⟩]
  by_cases h1 : i = t.toNat
  ·rw [if_pos (c := (i : Int) = t) (by omega), if_pos h1]
  ·rw [if_neg (c := (i : Int) = t) (by omega), if_neg h1]
   by_cases h2 : i = f.toNat
   ·rw [if_pos (c := (i : Int) = f) (by omega), if_pos (c := d = 0 /\ i = f.toNat) ⟨hd, h2⟩]; rfl
   ·rw [if_neg (c := (i : Int) = f) (by omega), if_neg (fun h => h2 h.2)]
 ·rw [if_pos hd, qDJ hc.1 ht, if_neg hl]
  by_cases h1 : i = t.toNat
  ·rw [if_pos h1, if_pos (by omega)]
  ·rw [if_neg h1, if_neg (by omega), if_neg (fun h => hd h.1)]
def KS (b : List Int) (s : Int) (k : Nat) : Prop := k < 81 /\ ∀ i, i < 81 -> (b.getD i 0 = pc s 8 ↔ i = k)
theorem pc8 {s : Int} (hs : s = 0 \/ s = 1) : pc s 8 = 16 * s + 8 := qAu hs (by omega) (by omega) (by omega)
theorem KS.kg {b : List Int} {s : Int} {k : Nat} (hs : s = 0 \/ s = 1) (h : KS b s k) : kg b s = k := by
 apply qOA h.1
 intro i hi
 unfold pcs
 rw [decide_eq_true_eq, h.2 i hi, pc8 hs]
 exact ⟨fun h => h.2, fun h => ⟨by omega, h⟩⟩
theorem qKy {b h : List Int} {s' : Int} (hz : qAz b h s' = 0) {s : Int} (hs : s = 0 \/ s = 1) : ∃ k, KS b s k := by
 have hn : nP b 8 = 1 /\ nP b 24 = 1 := by
  unfold qAz at hz
  split at hz
  ·omega
  ·split at hz
   ·omega
   ·split at hz
    ·omega
    ·split at hz
     ·omega
     ·rename_i h; simpa using h
 have : nP b (pc s 8) = 1 := by
  rw [pc8 hs]
  rcases hs with rfl | rfl
  ·exact hn.1
  ·exact hn.2
 obtain ⟨k, hk, h⟩ := qG2.mp (show qAr (fun i => b.getD i 0 == pc s 8) = 1 from this)
 exact ⟨k, hk, fun i hi => by rw [<- h i hi, beq_iff_eq]⟩
theorem KS.sd {b : List Int} {s : Int} {k : Nat} (hs : s = 0 \/ s = 1) (h : KS b s k) : sd (b.getD k 0) = s /\ kd (b.getD k 0) = 8 := by
 rw [(h.2 k h.1).mpr rfl]
 exact qDm hs (by omega) (by omega) (by omega)
theorem qOo {b h : List Int} {s f t d : Int} {p : Bool} (hc : Clean b) (hs : s = 0 \/ s = 1) (hP : CanP b h s f t d p) {k : Nat} (hk : KS b s k) :
  KS (mb b s f t d p) s (if d = 0 /\ f.toNat = k then t.toNat else k) := by
 have ht := hP.to_
 have hl := qFJ hs hP
 have hkt : k ≠ t.toNat := by
  intro e
  have h1 := (hk.sd hs)
  have e2 : b.getD k 0 = at_ b t := by rw [qAZ ht, e]
  rw [e2] at h1
  by_cases hd : d = 0
  ·exact (hP.move hd).2.2.2.2.1 h1.1
  ·rw [(hP.drop hd).2.2.2.2.2, qFG] at h1
   omega
 have hp0 : (0 : Int) ≠ pc s 8 := by rw [pc8 hs]; omega
 refine ⟨by split; omega; exact hk.1, fun i hi => ?_⟩
 rw [qEC hc hs hP hi]
 by_cases h1 : i = t.toNat
 ·rw [if_pos h1, hl.2.2]
  by_cases hd : d = 0
  ·have hm := hP.move hd
   rw [qAZ ⟨hm.1, hm.2.1⟩, hk.2 _ (by omega)]
   by_cases hfk : f.toNat = k
   ·rw [if_pos ⟨hd, hfk⟩]; exact ⟨fun _ => h1, fun _ => ⟨hd, hfk⟩⟩
   ·rw [if_neg (fun h => hfk h.2)]
    exact ⟨fun h => absurd h.2 hfk, fun h => absurd (h.symm.trans h1) hkt⟩
  ·rw [if_neg (fun h => hd h.1)]
   exact ⟨fun h => absurd h.1 hd, fun h => absurd (h.symm.trans h1) hkt⟩
 ·rw [if_neg h1]
  by_cases h2 : d = 0 /\ i = f.toNat
  ·rw [if_pos h2]
   refine ⟨fun h => absurd h hp0, fun h => ?_⟩
   split at h
   ·exact absurd h h1
   ·rename_i h3; exact absurd ⟨h2.1, by omega⟩ h3
  ·rw [if_neg h2, hk.2 i hi]
   split
   ·rename_i h3
    exact ⟨fun h => absurd ⟨h3.1, by omega⟩ h2, fun h => absurd h h1⟩
   ·exact Iff.rfl
theorem qKx {b h : List Int} {s f t d : Int} {p : Bool} (hc : Clean b) (hs : s = 0 \/ s = 1) (hP : CanP b h s f t d p) {k : Nat} (hk : KS b (1 - s) k) :
  KS (mb b s f t d p) (1 - s) k := by
 have ht := hP.to_
 have hl := qFJ hs hP
 have hs' : 1 - s = 0 \/ 1 - s = 1 := by omega
 have hkt : k ≠ t.toNat := by
  intro e
  have h1 := (hk.sd hs')
  have e2 : b.getD k 0 = at_ b t := by rw [qAZ ht, e]
  rw [e2] at h1
  by_cases hd : d = 0
  ·exact (hP.move hd).2.2.2.2.2.1 h1.2
  ·rw [(hP.drop hd).2.2.2.2.2, qFG] at h1
   omega
 have hp0 : (0 : Int) ≠ pc (1 - s) 8 := by rw [pc8 hs']; omega
 refine ⟨hk.1, fun i hi => ?_⟩
 rw [qEC hc hs hP hi]
 by_cases h1 : i = t.toNat
 ·rw [if_pos h1]
  refine ⟨fun h => ?_, fun h => absurd (h.symm.trans h1) hkt⟩
  have := hl.1
  rw [h, (qDm hs' (by omega) (by omega) (by omega)).1] at this
  omega
 ·rw [if_neg h1]
  by_cases h2 : d = 0 /\ i = f.toNat
  ·rw [if_pos h2]
   refine ⟨fun h => absurd h hp0, fun h => ?_⟩
   have hm := hP.move h2.1
   have h3 := (hk.sd hs').1
   rw [<- h, h2.2, <- qAZ ⟨hm.1, hm.2.1⟩, hm.2.2.2.1] at h3
   omega
  ·rw [if_neg h2]
   exact hk.2 i hi
theorem qE3 {b : List Int} {s : Int} (hs : s = 0 \/ s = 1) {k : Nat} (hk : kg b s = k) (h81 : k < 81) (c : Nat) : chs b s c = atk b s k c := by
 unfold chs onS atk enm
 rw [hk, decide_eq_true (by omega), decide_eq_true (by omega), tn]
 rfl
def fof (f t d : Int) : Nat := if d = 0 then f.toNat else t.toNat
theorem qRg {b h : List Int} {s f t d : Int} {p : Bool} (hc : Clean b) (hs : s = 0 \/ s = 1) (hP : CanP b h s f t d p) {i : Nat} (hi : i < 81) : tk (mb b s f t d p) i = tk2 b (fof f t d) t.toNat i := by
 have hl := qFJ hs hP
 unfold tk tk2 fof
 rw [qEC hc hs hP hi]
 by_cases h1 : i = t.toNat
 ·rw [if_pos h1, decide_eq_true h1, Bool.true_or, decide_eq_true_eq]
  intro h0
  rw [h0, qFG] at hl
  exact hl.2.1 rfl
 ·rw [if_neg h1, decide_eq_false h1, Bool.false_or]
  by_cases hd : d = 0
  ·rw [if_pos hd]
   by_cases h2 : i = f.toNat
   ·rw [if_pos ⟨hd, h2⟩, decide_eq_true h2]; simp
   ·rw [if_neg (fun h => h2 h.2), decide_eq_false h2]; rfl
  ·rw [if_neg hd, if_neg (fun h => hd h.1), decide_eq_false h1]; rfl
theorem qUf {b h : List Int} {s f t d : Int} {p : Bool} (hc : Clean b) (hs : s = 0 \/ s = 1) (hP : CanP b h s f t d p) {c : Nat} (hcc : c < 81) : enm (mb b s f t d p) s c = (decide (c ≠ t.toNat) && enm b s c) /\ (enm (mb b s f t d p) s c = true -> (mb b s f t d p).getD c 0 = b.getD c 0) := by
 have hl := qFJ hs hP
 unfold enm
 rw [qEC hc hs hP hcc]
 by_cases h1 : c = t.toNat
 ·rw [if_pos h1, hl.1, decide_eq_false (p := s = 1 - s) (by omega), decide_eq_false (p := c ≠ t.toNat) (by simpa using h1)]
  exact ⟨rfl, fun h => by cases h⟩
 ·rw [if_neg h1, decide_eq_true (p := c ≠ t.toNat) h1, Bool.true_and]
  by_cases h2 : d = 0 /\ c = f.toNat
  ·rw [if_pos h2, qJd]
   have hm := hP.move h2.1
   rw [h2.2, <- qAZ ⟨hm.1, hm.2.1⟩, hm.2.2.2.1, decide_eq_false (p := (-1 : Int) = 1 - s) (by omega), decide_eq_false (p := s = 1 - s) (by omega)]
   exact ⟨rfl, fun h => by cases h⟩
  ·rw [if_neg h2]
   exact ⟨rfl, fun _ => rfl⟩
theorem qTp {b h : List Int} {s f t d : Int} {p : Bool} (hc : Clean b) (hs : s = 0 \/ s = 1) (hP : CanP b h s f t d p) {k : Nat} (hk : KS b s k) (hn : ¬ (d = 0 /\ f.toNat = k)) {c : Nat} (hcc : c < 81) :
  chs (mb b s f t d p) s c = qDv b s k (fof f t d) t.toNat c := by
 have hk2 := qOo hc hs hP hk
 rw [if_neg hn] at hk2
 rw [qE3 hs (hk2.kg hs) hk.1]
 obtain ⟨e1, e2⟩ := qUf hc hs hP hcc
 unfold atk qDv
 cases he : enm (mb b s f t d p) s c with
 | false =>
   rw [he] at e1
   rw [Bool.false_and, <- Bool.and_assoc, <- e1, Bool.false_and]
 | true =>
   rw [<- Bool.and_assoc, <- e1, he, Bool.true_and, Bool.true_and, e2 he]
   exact qYe hcc hk.1 (fun i hi => qRg hc hs hP hi)
theorem qTo {b h : List Int} {s f t d : Int} {p : Bool} (hc : Clean b) (hs : s = 0 \/ s = 1) (hP : CanP b h s f t d p) {k : Nat} (hk : KS b s k) (hn : d = 0 /\ f.toNat = k) {c : Nat} (hcc : c < 81) :
  chs (mb b s f t d p) s c = onS b t (1 - s) (fun i => tk b i && !only f i) c := by
 have hk2 := qOo hc hs hP hk
 have ht := hP.to_
 have hm := hP.move hn.1
 rw [if_pos hn] at hk2
 rw [qE3 hs (hk2.kg hs) hk2.1]
 obtain ⟨e1, e2⟩ := qUf hc hs hP hcc
 unfold atk onS
 rw [decide_eq_true ht, decide_eq_true (p := 1 - s = 0 \/ 1 - s = 1) (by omega), Bool.true_and, Bool.true_and]
 show _ = (enm b s c && _)
 by_cases h1 : c = t.toNat
 ·rw [e1, decide_eq_false (p := c ≠ t.toNat) (by simpa using h1), <- h1, qYf, qYf, Bool.and_false, Bool.and_false]
 ·rw [decide_eq_true (p := c ≠ t.toNat) h1, Bool.true_and] at e1
  rw [e1]
  cases he : enm b s c with
  | false => rfl
  | true =>
    rw [e2 (by rw [e1, he]), Bool.true_and, Bool.true_and, Bool.eq_iff_iff, qBv, qBv]
    have : ∀ i ∈ btw c t.toNat, tk (mb b s f t d p) i = (tk b i && !only f i) := by
     intro i hi
     have hw := qIn (by omega) hcc hi
     rw [qRg hc hs hP hw.1]
     unfold tk2 fof only
     rw [decide_eq_false hw.2.1, if_pos hn.1, Bool.false_or, Bool.and_comm]
     congr 2
     rw [decide_eq_decide]
     omega
    constructor
    ·rintro (h | ⟨h, h'⟩)
     ·exact .inl h
     ·exact .inr ⟨h, fun i hi => by rw [<- this i hi]; exact h' i hi⟩
    ·rintro (h | ⟨h, h'⟩)
     ·exact .inl h
     ·exact .inr ⟨h, fun i hi => by rw [this i hi]; exact h' i hi⟩
def qt (b : List Int) (s : Int) (t : Nat) : Bool := (List.range 81).all fun c => !chs b s c || qDs (kg b s).toNat c t
def qGL (b : List Int) (s : Int) (f t : Nat) : Bool := (List.range 81).all fun c => !qAI b s (kg b s).toNat f c || qDs (kg b s).toNat c t
def stB (b : List Int) (s : Int) (f t : Nat) : Bool := if (f : Int) = kg b s then isE (onS b t (1 - s) (fun i => tk b i && !only f i)) else qt b s t && qGL b s f t
theorem qJ0 {k c t : Nat} : qDs k c t = true ↔ t = c \/ t ∈ btw c k := by
 unfold qDs only
 rw [Bool.or_eq_true, List.contains_iff_mem, decide_eq_true_eq]
 constructor
 ·rintro (h | h)
  ·exact .inr h
  ·exact .inl (by omega)
 ·rintro (h | h)
  ·exact .inr (by omega)
  ·exact .inl h
theorem qJF {b : List Int} {s : Int} (hs : s = 0 \/ s = 1) {k : Nat} (hk : KS b s k) {t : Nat} : qt b s t = true ↔ ∀ c, c < 81 -> atk b s k c = true -> t = c \/ t ∈ btw c k := by
 have hkg := hk.kg hs
 unfold qt
 rw [List.all_eq_true, hkg, tn]
 constructor
 ·intro h c hc ha
  have := h c (List.mem_range.mpr hc)
  rw [qE3 hs hkg hk.1, ha, Bool.not_true, Bool.false_or] at this
  exact qJ0.mp this
 ·intro h c hc
  rw [qE3 hs hkg hk.1]
  cases ha : atk b s k c with
  | false => rfl
  | true =>
    rw [Bool.not_true, Bool.false_or]
    exact qJ0.mpr (h c (List.mem_range.mp hc) ha)
theorem qLZ {b : List Int} {s : Int} (hs : s = 0 \/ s = 1) {k : Nat} (hk : KS b s k) {f t : Nat} : qGL b s f t = true ↔ ∀ c, c < 81 -> qAI b s k f c = true -> t = c \/ t ∈ btw c k := by
 unfold qGL
 rw [List.all_eq_true, hk.kg hs, tn]
 constructor
 ·intro h c hc ha
  have := h c (List.mem_range.mpr hc)
  rw [ha, Bool.not_true, Bool.false_or] at this
  exact qJ0.mp this
 ·intro h c hc
  cases ha : qAI b s k f c with
  | false => rfl
  | true =>
    rw [Bool.not_true, Bool.false_or]
    exact qJ0.mpr (h c (List.mem_range.mp hc) ha)
theorem qL1 {b h : List Int} {s f t d : Int} {p : Bool} (hc : Clean b) (hs : s = 0 \/ s = 1) (hP : CanP b h s f t d p) {k : Nat} (hk : KS b s k) :
  (!inC (mb b s f t d p) s) = if d = 0 then stB b s f.toNat t.toNat else qt b s t.toNat := by
 have ht := hP.to_
 unfold inC
 rw [Bool.not_not]
 by_cases hn : d = 0 /\ f.toNat = k
 ·have hm := hP.move hn.1
  rw [if_pos hn.1]
  unfold stB
  rw [if_pos (by rw [hk.kg hs, hn.2]), Bool.eq_iff_iff, qCd, qCd, show ((t.toNat : Nat) : Int) = t by omega, show ((f.toNat : Nat) : Int) = f by omega]
  constructor
  ·intro h i hi; rw [<- qTo hc hs hP hk hn hi]; exact h i hi
  ·intro h i hi; rw [qTo hc hs hP hk hn hi]; exact h i hi
 ·have hf : tk b (fof f t d) = true -> sd (b.getD (fof f t d) 0) = s := by
   unfold fof
   intro htk
   by_cases hd : d = 0
   ·have hm := hP.move hd
    rw [if_pos hd, <- qAZ ⟨hm.1, hm.2.1⟩]
    exact hm.2.2.2.1
   ·rw [if_neg hd] at htk
    unfold tk at htk
    rw [<- qAZ ht, (hP.drop hd).2.2.2.2.2] at htk
    simp at htk
  have key := qda (b := b) (s := s) (k := k) (f := fof f t d) (t := t.toNat) hf
  have e : isE (chs (mb b s f t d p) s) = (qt b s t.toNat && qGL b s (fof f t d) t.toNat) := by
   rw [Bool.eq_iff_iff, qCd, Bool.and_eq_true, qJF hs hk, qLZ hs hk, <- key]
   constructor
   ·intro h c hcc; rw [<- qTp hc hs hP hk hn hcc]; exact h c hcc
   ·intro h c hcc; rw [qTp hc hs hP hk hn hcc]; exact h c hcc
  rw [e]
  by_cases hd : d = 0
  ·rw [if_pos hd]
   unfold stB
   have hm := hP.move hd
   rw [if_neg (by rw [hk.kg hs]; intro e; exact hn ⟨hd, by omega⟩)]
   unfold fof
   rw [if_pos hd]
  ·rw [if_neg hd]
   have : qGL b s (fof f t d) t.toNat = true := by
    rw [qLZ hs hk]
    intro c _ hp
    have := (qC6.mp hp).2.2.2.1
    unfold fof tk at this
    rw [if_neg hd, <- qAZ ht, (hP.drop hd).2.2.2.2.2] at this
    simp at this
   rw [this, Bool.and_true]
theorem rw0 : rw_ (kd 0) = 0 := by decide
theorem qix {b : List Int} {s f t : Int} {p : Bool} {h : List Int} (hs : s = 0 \/ s = 1) (hP : CanP b h s f t 0 p) : mb b s f t 0 p = (b.set t.toNat (laid b s f 0 p)).set f.toNat 0 := by
 have hm := hP.move rfl
 have ht := hP.to_
 unfold mb put
 rw [if_neg (by simp), if_pos ht, if_pos ⟨hm.1, hm.2.1⟩, if_neg (qFJ hs hP).2.1, show (if kd 0 = 0 then (0 : Int) else 0) = 0 by simp]
 exact List.set_comm _ _ (by omega)
theorem qYH {b h : List Int} {s f t d : Int} {p : Bool} (hc : Clean b) (hs : s = 0 \/ s = 1) (hP : CanP b h s f t d p) : qHx b h s f t d p = some (mb b s f t d p, mh b h s t d, 1 - s) := by
 have ht := hP.to_
 have hw : IntKind.wrap .i8 (1 - s) = 1 - s := w_8 (by omega) (by omega)
 have hin : br (inB s 2) = fun (x y : Option (List Int × List Int × Int)) => x := by
  funext x y; exact qa (by omega) (by omega)
 have hint : br (inB t 81) = fun (x y : Option (List Int × List Int × Int)) => x := by
  funext x y; exact qa (by omega) (by omega)
 unfold qHx
 simp only [hin, hint]
 by_cases hd : d = 0
 ·subst hd
  have hm := hP.move rfl
  have hinf : br (inB f 81) = fun (x y : Option (List Int × List Int × Int)) => x := by
   funext x y; exact qa (by omega) (by omega)
  have hbf : at_ b f = 16 * s + kd (at_ b f) := by
   have h1 := qLT (qOX hs hm.2.2.2.1)
   have h2 := qBo (at_ b f)
   have h3 := qOX hs hm.2.2.2.1
   rw [hm.2.2.2.1, qAu hs (by omega) (by omega) (by omega)] at h1
   exact h1
  have hbb := qBo (at_ b f)
  have hfin : ∀ p', p' = p -> br p'
    (some (List.set (List.set (List.set b (Int.toNat t) (List.getD b (Int.toNat f) 0)) (Int.toNat t) (IntKind.wrap IntKind.i8 (List.getD (List.set b (Int.toNat t) (List.getD b (Int.toNat f) 0)) (Int.toNat t) 0 + 8))) (Int.toNat f) 0))
    (some (List.set (List.set b (Int.toNat t) (List.getD b (Int.toNat f) 0)) (Int.toNat f) 0)) = some (mb b s f t 0 p) := by
   rintro p' rfl
   rw [qix hs hP]
   unfold laid
   rw [if_neg (by simp), <- qAZ ⟨hm.1, hm.2.1⟩]
   cases p' with
   | false => rfl
   | true =>
     have hu := hm.2.2.2.2.2.2 rfl
     rw [b_t, qGD (by rw [hc.1]; omega), if_pos rfl, if_pos rfl, List.set_set]
     have : up_ (kd (at_ b f)) = kd (at_ b f) + 8 := by
      unfold up_ at hu ⊢
      split
      ·rfl
      ·rename_i h; rw [if_neg h] at hu; exact absurd rfl hu
     rw [w_8 (by omega) (by omega), this, show at_ b f + 8 = 16 * s + (kd (at_ b f) + 8) by omega]
  rw [qu rfl, qBx, qA, qaf, qA]
  simp only [hinf, c_8, <- qAZ (b := b) ht, hw]
  unfold mh
  rw [if_neg (by simp)]
  by_cases h0 : at_ b t = 0
  ·rw [if_pos h0, h0, rw0, qu rfl]
   have := hfin p rfl
   cases p with
   | false => rw [b_f] at this ⊢; rw [Option.some.inj this]
   | true => rw [b_t] at this ⊢; rw [Option.some.inj this]
  ·rw [if_neg h0]
   have hr := qIA ((hc.at_ t).resolve_left h0) hm.2.2.2.2.2.1
   have hinr : br (inB (rw_ (kd (at_ b t))) 8) = fun (x y : Option (List Int × List Int × Int)) => x := by
    funext x y; exact qa (by omega) (by omega)
   rw [qq (by omega)]
   simp only [hinr]
   have := hfin p rfl
   cases p with
   | false => rw [b_f] at this ⊢; rw [Option.some.inj this]; rfl
   | true => rw [b_t] at this ⊢; rw [Option.some.inj this]; rfl
 ·have hm := hP.drop hd
  have hind : br (inB d 8) = fun (x y : Option (List Int × List Int × Int)) => x := by
   funext x y; exact qa (by omega) (by omega)
  simp only [hind]
  have hx := (qFJ hs hP).2.1
  unfold laid at hx
  rw [if_pos hd] at hx
  rw [qq hd, hw, w_s (n := 16 * s) (by omega) (by omega), w_s (n := 16 * s + d) (by omega) (by omega)]
  unfold mb mh put laid
  rw [if_pos hd, if_pos hd, if_pos ht, if_pos hd, if_neg hx]
  have : conv IntKind.i64 IntKind.i8 (16 * s + d) = 16 * s + d := by
   unfold conv; exact w_8 (by omega) (by omega)
  rw [this]
  rfl
end Go.Kk.Pl
