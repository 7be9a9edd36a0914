/- What the program's functions come to, told plainly: the texts of this project that this claim leans on, cut down to what is used. -/
import Derived.Test.YtbeinkbjmmbloaaGreatDoorKkU3
import Derived.Test.YtbeinkbjmmbloaaGreatDoorKkU2
namespace Go.Kk.Pl
def T_ (_ : Nat) : Bool := true
theorem qlB {b : List Int} (hcl : Clean b) (h : List Int) (S : Int) {s : Int} (hs : s = 0 \/ s = 1) {k : Nat} (hk : KS b s k) : ∃ es, qGn s b h S (qI b) (qO b) = some es /\ qBm b s k (fun _ => true) es := by
 obtain ⟨es, h1, _, h3⟩ := qlC hcl h S hs
 refine ⟨es, h1, ?_⟩
 have hkg := hk.kg hs
 have h3 := h3 (by omega)
 rw [hkg, tn] at h3
 intro f hf
 obtain ⟨a, a'⟩ := h3 f hf
 have hP : ∀ c, qAI b s k f c = true -> (enm b s c && (qAf.any fun x => pcs b (pc (1 - s) x) c)) = true := by
  intro c hp
  have := qC6.mp hp
  rw [this.1, qo1 hs this.1 this.2.1]; rfl
 refine ⟨?_, fun c hc _ hp => a' c hc (hP c hp) hp⟩
 rw [a]
 constructor
 ·rintro ⟨c, x, _, x'⟩; exact ⟨c, x, rfl, x'⟩
 ·rintro ⟨c, x, _, x'⟩; exact ⟨c, x, hP c x', x'⟩
theorem qWa {b : List Int} (hcl : Clean b) (h : List Int) {s : Int} (hs : s = 0 \/ s = 1) {k : Nat} (hk : KS b s k) :
  ∃ es chk, qHS b h s (qI b) (qO b) = some (s, (k : Int), sLo (qt b s), sHi (qt b s), chk, es) /\ qBm b s k (fun _ => true) es := by
 obtain ⟨es, he, hp⟩ := qlB hcl h s hs hk
 have hkg := hk.kg hs
 have hkg' : fst (pcs b (pc s 8)) = (k : Int) := hkg
 have ha : ∀ c, chs b s c = atk b s k c := qE3 hs hkg hk.1
 unfold qHS
 rw [qOn, hkg', qA, qJ6, qA]
 simp only
 rw [he, qA, qNl hcl h s (by omega), qA]
 simp only
 rw [qNu, qA]
 by_cases n0 : ((qAr (chs b s) : Nat) : Int) = 0
 ·rw [qk n0]
  have hE : isE (chs b s) = true := by rw [qNr, decide_eq_true_eq]; omega
  have : ∀ i, i < 81 -> (fun _ : Nat => true) i = qt b s i := by
   intro i _
   symm
   show qt b s i = true
   rw [qJF hs hk]
   intro c hc h1
   rw [<- ha, qCd.mp hE c hc] at h1
   cases h1
  have := qBy this
  rw [this.1, this.2]
  exact ⟨es, false, rfl, hp⟩
 ·rw [qj n0]
  by_cases n1 : ((qAr (chs b s) : Nat) : Int) = 1
  ·obtain ⟨f, hf, hm⟩ := qG2.mp (show qAr (chs b s) = 1 by omega)
   rw [qk n1, qN7, qA, qOA hf hm, qYL hf hk.1, qA]
   simp only
   rw [qHc, qA]
   simp only
   have : ∀ i, i < 81 -> ((btw f k).contains i || chs b s i) = qt b s i := by
    intro i hi
    rw [Bool.eq_iff_iff, Bool.or_eq_true, List.contains_iff_mem, hm i hi, qJF hs hk]
    constructor
    ·intro h1 c hc h2
     rw [<- ha, hm c hc] at h2
     subst h2
     exact h1.elim .inr .inl
    ·intro h1
     exact (h1 f hf (by rw [<- ha]; exact (hm f hf).mpr rfl)).elim .inr .inl
   have := qBy this
   rw [this.1, this.2]
   exact ⟨es, true, rfl, hp⟩
  ·rw [qj n1]
   have hE : isE (chs b s) = false := by
    rw [qNr, decide_eq_false_iff_not]; omega
   obtain ⟨c, hc, hc'⟩ : ∃ c, c < 81 /\ chs b s c = true := by
    apply Classical.byContradiction
    intro hno
    have : isE (chs b s) = true := by
     rw [qCd]
     intro i hi
     cases hx : chs b s i with
     | false => rfl
     | true => exact absurd ⟨i, hi, hx⟩ hno
    rw [hE] at this; cases this
   obtain ⟨c2, hc2, hc2', hne⟩ : ∃ c2, c2 < 81 /\ chs b s c2 = true /\ c ≠ c2 := by
    apply Classical.byContradiction
    intro hno
    apply n1
    rw [qG2.mpr ⟨c, hc, fun i hi => ⟨fun h1 => ?_, fun h1 => h1 ▸ hc'⟩⟩]
    ·rfl
    ·apply Classical.byContradiction
     intro hx
     exact hno ⟨i, hi, h1, fun e => hx e.symm⟩
   have : ∀ i, i < 81 -> (fun _ : Nat => false) i = qt b s i := by
    intro i hi
    symm
    show qt b s i = false
    cases ho : qt b s i with
    | false => rfl
    | true =>
      rw [qJF hs hk] at ho
      exact (qqB hs hk.1 hc hc2 (by rw [<- ha]; exact hc') (by rw [<- ha]; exact hc2') hne (ho c hc (by rw [<- ha]; exact hc')) (ho c2 hc2 (by rw [<- ha]; exact hc2'))).elim
   have := qBy this
   rw [qBg, qBf] at this
   exact ⟨es, true, by rw [<- this.1, <- this.2], hp⟩
theorem qb3 {b : List Int} (hcl : Clean b) (h : List Int) (S : Int) {s : Int} (hs : s = 0 \/ s = 1) {k : Nat} (hk : KS b s k) {es : List (List Int × List Int)} (hp : qBm b s k (fun _ => true) es) {f t : Int} (hf : 0 <= f /\ f < 81) (ht : 0 <= t /\ t < 81) (d : Int) (p chk : Bool) :
  qHT s (k : Int) (sLo (qt b s)) (sHi (qt b s)) chk f t d p b h S (qI b) (qO b) es = some (stB b s f.toNat t.toNat, b, h, S, qI b, qO b, es) := by
 obtain ⟨f, rfl⟩ : ∃ n : Nat, f = n := ⟨f.toNat, by omega⟩
 obtain ⟨t, rfl⟩ : ∃ n : Nat, t = n := ⟨t.toNat, by omega⟩
 rw [tn, tn]
 have hkg := hk.kg hs
 have hh : ∀ g : Nat -> Bool, has g (t : Int) = g t := by
  intro g; unfold has; rw [decide_eq_true (by omega), decide_eq_true (by omega), tn]; rfl
 unfold qHT stB
 rw [hkg]
 by_cases hfk : (f : Int) = k
 ·rw [qk hfk, if_pos hfk, qJq hcl, qA]
  simp only
  rw [qJ1, qA]
  simp only
  rw [w_s (n := 1 - s) (by omega) (by omega), qXX, qA]
  simp only
  rw [qIw, qA, hfk]
 ·rw [qj hfk, if_neg hfk, qD8, qA, hh]
  cases ho : qt b s t with
  | false => rfl
  | true =>
    rw [Bool.not_true, b_f, Bool.true_and]
    obtain ⟨h1, h2⟩ := hp f (by omega)
    cases hM : qA1 es [(f : Int)] with
    | false =>
      rw [Bool.not_false, b_t]
      have : qGL b s f t = true := by
       rw [qLZ hs hk]
       intro c hc hpin
       rw [h1.mpr ⟨c, hc, rfl, hpin⟩] at hM; cases hM
      rw [this]
    | true =>
      obtain ⟨c, hc, _, hpin⟩ := h1.mp hM
      rw [Bool.not_true, b_f, h2 c hc rfl hpin]
      show (ob (qCA (sLo (qDs k c)) (sHi (qDs k c)) (t : Int)) _) = _
      rw [qD8, qA, hh]
      have : qDs k c t = qGL b s f t := by
       rw [Bool.eq_iff_iff, qJ0, qLZ hs hk]
       constructor
       ·intro h3 c' hc' hpin'
        rw [qYB hs hk.1 hc' hc hpin' hpin]; exact h3
       ·intro h3; exact h3 c hc hpin
      rw [this]
def m0 (m : List Int) : Int := m.getD 0 0
def m1 (m : List Int) : Int := m.getD 1 0
def m2 (m : List Int) : Int := m.getD 2 0
def m3 (m : List Int) : Bool := m.getD 3 0 != 0
def Mv4 (m : List Int) : Prop := m = [m0 m, m1 m, m2 m, bi (m3 m)] /\ (0 <= m0 m /\ m0 m < 81) /\ (0 <= m1 m /\ m1 m < 81)
theorem qjO {b h : List Int} {s f t d p : Int} (hok : MvOK b h s f t d p) : Mv4 [f, t, d, p] := by
 refine ⟨?_, hok.fr, hok.tr⟩
 show [f, t, d, p] = [f, t, d, bi (p != 0)]
 rcases hok.pp with h0 | h0 <;> rw [h0] <;> rfl
theorem qJB {b h : List Int} (hc : Clean b) {s : Int} (hs : s = 0 \/ s = 1) {m : List Int} (hm : m ∈ mvs b h s) : Mv4 m /\ qAE b h s (m0 m) (m1 m) (m2 m) (m3 m) = true := by
 obtain ⟨f, t, d, p, rfl, hok⟩ := qjT hc hs hm
 exact ⟨qjO hok, hok.mov⟩
theorem qLF {b : List Int} (hc : Clean b) (h : List Int) {s : Int} (hs : s = 0 \/ s = 1) {m : List Int} (hm : m ∈ qr b s T_) : Mv4 m /\ qAE b h s (m0 m) (m1 m) (m2 m) (m3 m) = true /\ m2 m = 0 := by
 have h1 := qJB hc hs (h := h) (m := m) (List.mem_append_left _ hm)
 obtain ⟨f, t, p, rfl⟩ := qXG hm
 exact ⟨h1.1, h1.2, rfl⟩
theorem qPJ {b : List Int} (hc : Clean b) {h : List Int} {s : Int} (hs : s = 0 \/ s = 1) {m : List Int} (hm : m ∈ qAH b h s T_) : Mv4 m /\ qAE b h s (m0 m) (m1 m) (m2 m) (m3 m) = true /\ m0 m = 0 /\ 1 <= m2 m /\ m2 m <= 7 /\ m3 m = false := by
 have h1 := qJB hc hs (h := h) (m := m) (List.mem_append_right _ hm)
 obtain ⟨k, t, hk, hk', rfl⟩ := qXH hm
 exact ⟨h1.1, h1.2, rfl, by show (1 : Int) <= (k : Int); omega, by show (k : Int) <= 7; omega, rfl⟩
theorem qPK (b h : List Int) (s : Int) (G : Nat -> Bool) : qAH b h s G = (qAH b h s T_).filter fun m => G (m1 m).toNat := by
 unfold qAH
 rw [List.filter_flatMap]
 apply qIz
 intro k _
 unfold qBG
 split
 ·rfl
 ·rw [List.filter_map]
  unfold sq
  rw [List.filter_map, List.map_map, List.map_map, List.filter_filter]
  congr 1
  apply List.filter_congr
  intro i _
  show (qAs b s k i && G i) = (G (Int.toNat ((i : Nat) : Int)) && (qAs b s k i && true))
  rw [tn, Bool.and_true, Bool.and_comm]
theorem hdM {m : List Int} : List.headD (List.take 4 m) 0 = m0 m /\ List.headD (List.tail (List.take 4 m)) 0 = m1 m /\ List.headD (List.tail (List.tail (List.take 4 m))) 0 = m2 m /\ (List.headD (List.tail (List.tail (List.tail (List.take 4 m)))) 0 != 0) = m3 m := ⟨hd0 m, hd1 m, hd2 m, by rw [hd3 m]; rfl⟩
theorem atL {M : List (List Int)} {i : Nat} (hi : i < M.length) : M.getD i [] = M[i] := by rw [List.getD_eq_getElem?_getD, List.getElem?_eq_getElem hi]; rfl
def g1 (b : List Int) (s : Int) (m : List Int) : Bool := stB b s (m0 m).toNat (m1 m).toNat
theorem qdF {b : List Int} (hcl : Clean b) (h : List Int) (S : Int) {s : Int} (hs : s = 0 \/ s = 1) {k : Nat} (hk : KS b s k) {es : List (List Int × List Int)} (hp : qBm b s k (fun _ => true) es) (chk : Bool) (N : Nat) (M : List (List Int)) (hM : ∀ m ∈ M, Mv4 m) (hl : M.length <= 100000) : ∀ (n i : Nat), i + n = M.length -> ∀ (L : List (List Int)) (x0 x14 : Nat), x0 = L.length -> x14 = L.length -> L.length + n <= 1000000 -> ∀ F,
  qFK (F + n + 1) x0 M.length M.length i b h S (qI b) (qO b) s k (sLo (qt b s)) (sHi (qt b s)) chk x14 L N M es =
   some ((L ++ (M.drop i).filter (g1 b s)).length, b, h, S, qI b, qO b, s, (k : Int), sLo (qt b s), sHi (qt b s), chk, (L ++ (M.drop i).filter (g1 b s)).length, L ++ (M.drop i).filter (g1 b s), es) := by
 intro n
 induction n with
 | zero =>
   intro i hi L x0 x14 e0 e14 hb F
   show qHQ (qFK (F + 0)) _ _ _ _ _ _ _ _ _ _ _ _ _ _ _ _ _ _ _ = _
   unfold qHQ
   rw [qW (by omega), List.drop_eq_nil_of_le (by omega), List.filter_nil, List.append_nil, e0, e14]
 | succ n ih =>
   intro i hi L x0 x14 e0 e14 hb F
   show qHQ (qFK (F + n + 1)) _ _ _ _ _ _ _ _ _ _ _ _ _ _ _ _ _ _ _ = _
   unfold qHQ
   have hil : i < M.length := by omega
   obtain ⟨hm1, hm2, hm3⟩ := hM M[i] (List.getElem_mem hil)
   rw [qd (by omega), qa (by omega) (by omega), tn, atL hil]
   simp only [hdM]
   rw [qb3 hcl h S hs hk hp hm2 hm3, qA]
   simp only
   rw [w_s (n := (i : Int) + 1) (by omega) (by omega), List.drop_eq_getElem_cons hil, List.filter_cons]
   show br (g1 b s M[i]) _ _ = _
   cases hg : g1 b s M[i] with
   | true =>
     rw [b_t, qCG (by omega), <- hm1]
     rw [tkA e0]
     refine (ih (i + 1) (by omega) (L ++ [M[i]]) (x0 + 1) (x0 + 1) (by simp; omega) (by simp; omega) (by simp; omega) F).trans ?_
     simp
   | false =>
     rw [b_f]
     exact ih (i + 1) (by omega) L x0 x14 e0 e14 (by omega) F
def pb (b : List Int) (s : Int) (q : Int) : List Int := put b q (16 * s + 1)
def pmS (b : List Int) (s : Int) (q : Int) : Bool := decide (0 <= q /\ q < 81) && (decide (at_ b q = 0) && (chs (pb b s q) (1 - s) q.toNat && (qr (pb b s q) (1 - s) T_).all fun m => !g1 (pb b s q) (1 - s) m))
theorem qkh {b : List Int} (b0 h0 : List Int) (S0 : Int) (by0 sd0 : List (List Int)) (hcl : Clean b) (h : List Int) (S : Int) {s : Int} (hs : s = 0 \/ s = 1) {k : Nat} (hk : KS b s k) {es : List (List Int × List Int)} (hp : qBm b s k (fun _ => true) es) (chk : Bool) (N : Nat) (M : List (List Int)) (hM : ∀ m ∈ M, Mv4 m) (hl : M.length <= 100000) : ∀ (n i : Nat), i + n = M.length -> ∀ F,
  qFL (F + n + 1) M.length M.length i b0 h0 S0 by0 sd0 s k (sLo (qt b s)) (sHi (qt b s)) chk N M b h S (qI b) (qO b) es =
   some (if (M.drop i).all (fun m => !g1 b s m) then .inr (b0, h0, S0, by0, sd0) else .inl (false, b0, h0, S0, by0, sd0)) := by
 intro n
 induction n with
 | zero =>
   intro i hi F
   show qHR (qFL (F + 0)) _ _ _ _ _ _ _ _ _ _ _ _ _ _ _ _ _ _ _ _ _ = _
   unfold qHR
   rw [qW (by omega), List.drop_eq_nil_of_le (by omega)]
   rfl
 | succ n ih =>
   intro i hi F
   show qHR (qFL (F + n + 1)) _ _ _ _ _ _ _ _ _ _ _ _ _ _ _ _ _ _ _ _ _ = _
   unfold qHR
   have hil : i < M.length := by omega
   obtain ⟨hm1, hm2, hm3⟩ := hM M[i] (List.getElem_mem hil)
   rw [qd (by omega), qa (by omega) (by omega), tn, atL hil]
   simp only [hdM]
   rw [qb3 hcl h S hs hk hp hm2 hm3, qA]
   simp only
   rw [w_s (n := (i : Int) + 1) (by omega) (by omega), List.drop_eq_getElem_cons hil, List.all_cons]
   show br (g1 b s M[i]) _ _ = _
   cases hg : g1 b s M[i] with
   | true => rw [b_t]; rfl
   | false =>
     rw [b_f]
     exact ih (i + 1) (by omega) F
theorem qGK (b : List Int) (s q : Int) : pb b s q = mb b s 0 q 1 false := by
 unfold pb mb laid
 rw [if_pos (by simp), if_pos (by simp)]
theorem qPZ {b : List Int} {s q : Int} (hs : s = 0 \/ s = 1) (hq : 0 <= q /\ q < 81) (h0 : at_ b q = 0) : CanP b (List.replicate 16 1) s 0 q 1 false := by
 refine ⟨hq, fun _ => ⟨by omega, by omega, rfl, rfl, ?_, h0⟩, fun h => absurd h (by omega)⟩
 rcases hs with rfl | rfl <;> decide
theorem qkg {b : List Int} (hcl : Clean b) (h : List Int) {s : Int} (hs : s = 0 \/ s = 1) {k : Nat} (hk : KS b (1 - s) k) (q : Int) : qI7 q b h s (qI b) (qO b) = some (pmS b s q) := by
 have hs' : 1 - s = 0 \/ 1 - s = 1 := by omega
 have hpc : pc s 1 = 16 * s + 1 := qAu hs (by omega) (by omega) (by omega)
 unfold qI7 pmS
 rw [qLJ, qA, hpc, qj (by omega)]
 by_cases q0 : q < 0
 ·rw [qd q0, decide_eq_false (p := 0 <= q /\ q < 81) (by omega)]; rfl
 rw [qW q0]
 by_cases q1 : q >= 81
 ·rw [qB1 q1, decide_eq_false (p := 0 <= q /\ q < 81) (by omega)]; rfl
 have hq : 0 <= q /\ q < 81 := by omega
 rw [qBU q1, qCs, qA, decide_eq_true hq, Bool.true_and]
 by_cases h0 : at_ b q = 0
 ·have hP := qPZ hs hq h0
  have hk2 : KS (pb b s q) (1 - s) k := by rw [qGK]; exact qKx hcl hs hP hk
  have hcl2 : Clean (pb b s q) := hcl.put q _
  have w8 : IntKind.wrap IntKind.i8 (1 - s) = 1 - s := w_8 (by omega) (by omega)
  rw [qu h0, decide_eq_true h0, Bool.true_and]
  unfold qKF
  rw [qA]
  simp only
  rw [qPg hcl, qA]
  simp only
  rw [show put b q (16 * s + 1) = pb b s q from rfl, w8, c_8, qNl hcl2 h (1 - s) (by omega), qA]
  simp only
  rw [qD8, qA]
  have hh : has (chs (pb b s q) (1 - s)) q = chs (pb b s q) (1 - s) q.toNat := by
   unfold has; rw [decide_eq_true hq.1, decide_eq_true hq.2]; rfl
  rw [hh]
  cases hch : chs (pb b s q) (1 - s) q.toNat with
  | false => rfl
  | true =>
    rw [Bool.not_true, b_f, Bool.true_and]
    obtain ⟨es, chk, hl, hp⟩ := qWa hcl2 h hs' hk2
    have hlen := qLG (pb b s q) (1 - s) T_
    rw [hl, qA]
    simp only
    rw [qJ6, qA]
    simp only
    rw [show (fun _ : Nat => true) = T_ from rfl, qU4 hcl2, qA]
    simp only
    obtain ⟨g, hg⟩ := qe (qr (pb b s q) (1 - s) T_).length (by omega)
    have := qkh b h s (qI b) (qO b) hcl2 h (1 - s) hs' hk2 hp chk (qr (pb b s q) (1 - s) T_).length (qr (pb b s q) (1 - s) T_) (fun m hm => (qLF hcl2 h hs' hm).1) (by omega) (qr (pb b s q) (1 - s) T_).length 0 (by omega) g
    rw [<- hg] at this
    refine (congrArg (fun z => ob z _) (this : qFL qC (qr (pb b s q) (1 - s) T_).length (Int.ofNat (qr (pb b s q) (1 - s) T_).length) 0 b h s (qI b) (qO b) (1 - s) k (sLo (qt (pb b s q) (1 - s))) (sHi (qt (pb b s q) (1 - s))) chk (qr (pb b s q) (1 - s) T_).length (qr (pb b s q) (1 - s) T_) (pb b s q) h (1 - s) (qI (pb b s q)) (qO (pb b s q)) es = _)).trans ?_
    rw [qA, List.drop_zero]
    cases (qr (pb b s q) (1 - s) T_).all fun m => !g1 (pb b s q) (1 - s) m <;> rfl
 ·rw [qq h0, decide_eq_false h0]; rfl
def g2 (b : List Int) (s : Int) (m : List Int) : Bool := !(decide (m2 m = 1) && pmS b s (m1 m))
theorem qdD {b : List Int} (hcl : Clean b) (h : List Int) {s : Int} (hs : s = 0 \/ s = 1) {k : Nat} (hk : KS b (1 - s) k) (N : Nat) (M : List (List Int)) (hM : ∀ m ∈ M, Mv4 m) (hl : M.length <= 100000) : ∀ (n i : Nat), i + n = M.length -> ∀ (L : List (List Int)) (x0 x9 : Nat), x0 = L.length -> x9 = L.length -> L.length + n <= 1000000 -> ∀ F,
  qEA (F + n + 1) x0 M.length M.length i b h s (qI b) (qO b) x9 L N M =
   some ((L ++ (M.drop i).filter (g2 b s)).length, b, h, s, qI b, qO b, (L ++ (M.drop i).filter (g2 b s)).length, L ++ (M.drop i).filter (g2 b s)) := by
 intro n
 induction n with
 | zero =>
   intro i hi L x0 x9 e0 e9 hb F
   show qHP (qEA (F + 0)) _ _ _ _ _ _ _ _ _ _ _ _ _ = _
   unfold qHP
   rw [qW (by omega), List.drop_eq_nil_of_le (by omega), List.filter_nil, List.append_nil, e0, e9]
 | succ n ih =>
   intro i hi L x0 x9 e0 e9 hb F
   show qHP (qEA (F + n + 1)) _ _ _ _ _ _ _ _ _ _ _ _ _ = _
   unfold qHP
   have hil : i < M.length := by omega
   obtain ⟨hm1, hm2, hm3⟩ := hM M[i] (List.getElem_mem hil)
   rw [qd (by omega), qa (by omega) (by omega), tn, atL hil]
   simp only [hdM]
   rw [w_s (n := (i : Int) + 1) (by omega) (by omega), List.drop_eq_getElem_cons hil, List.filter_cons, qCG (by omega), <- hm1, tkA e0]
   have add : g2 b s M[i] = true -> qEA (F + n + 1) (x0 + 1) M.length M.length ((i : Int) + 1) b h s (qI b) (qO b) (x0 + 1) (L ++ [M[i]]) N M =
    some ((L ++ if g2 b s M[i] = true then M[i] :: (M.drop (i + 1)).filter (g2 b s) else (M.drop (i + 1)).filter (g2 b s)).length, b, h, s, qI b, qO b, (L ++ if g2 b s M[i] = true then M[i] :: (M.drop (i + 1)).filter (g2 b s) else (M.drop (i + 1)).filter (g2 b s)).length, L ++ if g2 b s M[i] = true then M[i] :: (M.drop (i + 1)).filter (g2 b s) else (M.drop (i + 1)).filter (g2 b s)) := by
    intro hg
    refine (ih (i + 1) (by omega) (L ++ [M[i]]) (x0 + 1) (x0 + 1) (by simp; omega) (by simp; omega) (by simp; omega) F).trans ?_
    rw [if_pos hg]
    simp
   by_cases hd : m2 M[i] = 1
   ·rw [qk hd, qkg hcl h hs hk, qA]
    cases hpm : pmS b s (m1 M[i]) with
    | true =>
      have hg : g2 b s M[i] = false := by unfold g2; rw [decide_eq_true hd, hpm]; rfl
      rw [b_t, hg]
      exact ih (i + 1) (by omega) L x0 x9 e0 e9 (by omega) F
    | false =>
      have hg : g2 b s M[i] = true := by unfold g2; rw [hpm]; simp
      rw [b_f]
      exact add hg
   ·have hg : g2 b s M[i] = true := by unfold g2; rw [decide_eq_false hd]; rfl
    rw [qj hd]
    exact add hg
def lgL (b h : List Int) (s : Int) : List (List Int) := (qr b s T_).filter (g1 b s) ++ (qAH b h s (qt b s)).filter (g2 b s)
theorem qWS (b h : List Int) (s : Int) : (lgL b h s).length <= 20000 := by
 unfold lgL
 have h1 := qLG b s T_
 have h2 := qPL b h s (qt b s)
 have h3 := List.length_filter_le (g1 b s) (qr b s T_)
 have h4 := List.length_filter_le (g2 b s) (qAH b h s (qt b s))
 rw [List.length_append]
 omega
theorem qV8 {b : List Int} (hcl : Clean b) (h : List Int) {s : Int} (hs : s = 0 \/ s = 1) {k k' : Nat} (hk : KS b s k) (hk' : KS b (1 - s) k') : qD9 b h s (qI b) (qO b) = some ((lgL b h s).length, b, h, s, qI b, qO b, (lgL b h s).length, lgL b h s) := by
 unfold qD9
 obtain ⟨es, chk, hl, hp⟩ := qWa hcl h hs hk
 have hlen := qLG b s T_
 have hlen2 := qPL b h s (qt b s)
 have hlen3 := List.length_filter_le (g1 b s) (qr b s T_)
 rw [hl, qA]
 simp only
 rw [qJ6, qA]
 simp only
 rw [show (fun _ : Nat => true) = T_ from rfl, qU4 hcl, qA]
 simp only
 obtain ⟨g, hg⟩ := qe (qr b s T_).length (by omega)
 have := qdF hcl h s hs hk hp chk (qr b s T_).length (qr b s T_) (fun m hm => (qLF hcl h hs hm).1) (by omega) (qr b s T_).length 0 (by omega) [] 0 0 rfl rfl (by simp only [List.length_nil]; omega) g
 rw [<- hg, List.drop_zero, List.nil_append] at this
 rw [show qFK qC 0 (qr b s T_).length (Int.ofNat (qr b s T_).length) 0 b h s (qI b) (qO b) s k (sLo (qt b s)) (sHi (qt b s)) chk 0 [] (qr b s T_).length (qr b s T_) es = _ from this, qA]
 simp only
 rw [qg5 hcl, qA]
 simp only
 have hM : ∀ m ∈ qAH b h s (qt b s), Mv4 m := by
  intro m hm
  rw [qPK] at hm
  exact (qPJ hcl hs (List.mem_filter.mp hm).1).1
 obtain ⟨g, hg⟩ := qe (qAH b h s (qt b s)).length (by omega)
 have := qdD hcl h hs hk' (qAH b h s (qt b s)).length (qAH b h s (qt b s)) hM (by omega) (qAH b h s (qt b s)).length 0 (by omega) ((qr b s T_).filter (g1 b s)) _ _ rfl rfl (by omega) g
 rw [<- hg, List.drop_zero] at this
 rw [show qEA qC ((qr b s T_).filter (g1 b s)).length (qAH b h s (qt b s)).length (Int.ofNat (qAH b h s (qt b s)).length) 0 b h s (qI b) (qO b) ((qr b s T_).filter (g1 b s)).length ((qr b s T_).filter (g1 b s)) (qAH b h s (qt b s)).length (qAH b h s (qt b s)) = _ from this, qA]
 rfl
def mbM (b : List Int) (s : Int) (m : List Int) : List Int := mb b s (m0 m) (m1 m) (m2 m) (m3 m)
def mhM (b h : List Int) (s : Int) (m : List Int) : List Int := mh b h s (m1 m) (m2 m)
def qBh (b : List Int) (s : Int) (m : List Int) : Bool := !inC (mbM b s m) s
def qJo (b h : List Int) (s : Int) : Bool := (mvs b h s).all fun m => !qBh b s m
def qC3 (b h : List Int) (s : Int) (m : List Int) : Bool := qBh b s m && (decide (m2 m ≠ 1) || !(inC (mbM b s m) (1 - s) && qJo (mbM b s m) (mhM b h s m) (1 - s)))
theorem qaq {b h : List Int} {s : Int} (hc : Clean b) (hs : s = 0 \/ s = 1) {m : List Int} (hm : qAE b h s (m0 m) (m1 m) (m2 m) (m3 m) = true) : qH4 b h s (m0 m) (m1 m) (m2 m) (m3 m) = some (qBh b s m) := by
 unfold qH4
 rw [qYH hc hs (qFM hm).2, qA]
 simp only
 rw [qaj _ _ _ hs, qA]
 rfl
theorem qni {b h : List Int} (hc : Clean b) {s : Int} (hs : s = 0 \/ s = 1) (N : Nat) (M : List (List Int)) (hM : ∀ m ∈ M, qAE b h s (m0 m) (m1 m) (m2 m) (m3 m) = true) (hl : M.length <= 100000) : ∀ (n i : Nat), i + n = M.length -> ∀ F,
  qFg (F + n + 1) M.length i b h s N M = some (if (M.drop i).all (fun m => !qBh b s m) then .inr () else .inl false) := by
 intro n
 induction n with
 | zero =>
   intro i hi F
   show qH5 (qFg (F + 0)) _ _ _ _ _ _ _ = _
   unfold qH5
   rw [qW (by simp only [Int.ofNat_eq_natCast]; omega), List.drop_eq_nil_of_le (by omega)]
   rfl
 | succ n ih =>
   intro i hi F
   show qH5 (qFg (F + n + 1)) _ _ _ _ _ _ _ = _
   unfold qH5
   have hil : i < M.length := by omega
   rw [qd (by simp only [Int.ofNat_eq_natCast]; omega), qa (by omega) (by omega), tn, atL hil]
   simp only [hdM]
   rw [qaq hc hs (hM _ (List.getElem_mem hil)), qA, w_s (n := (i : Int) + 1) (by omega) (by omega), List.drop_eq_getElem_cons hil, List.all_cons]
   cases hg : qBh b s M[i] with
   | true => rw [b_t]; rfl
   | false =>
     rw [b_f]
     exact ih (i + 1) (by omega) F
theorem qnj {b : List Int} (hc : Clean b) (h : List Int) {s : Int} (hs : s = 0 \/ s = 1) : qJZ b h s = some (qJo b h s) := by
 unfold qJZ
 rw [qac b h hs, qA, <- qPO hc h hs]
 simp only
 have hlen := qXK b h s
 obtain ⟨g, hg⟩ := qe (mvs b h s).length (by omega)
 have := qni hc hs (mvs b h s).length (mvs b h s) (fun m hm => (qJB hc hs hm).2) (by omega) (mvs b h s).length 0 (by omega) g
 rw [<- hg, List.drop_zero] at this
 rw [show qFg qC (mvs b h s).length 0 b h s (mvs b h s).length (mvs b h s) = _ from this, qA]
 unfold qJo
 cases (mvs b h s).all fun m => !qBh b s m <;> rfl
theorem qnf {b h : List Int} {s : Int} (hc : Clean b) (hs : s = 0 \/ s = 1) {m : List Int} (hm : qAE b h s (m0 m) (m1 m) (m2 m) (m3 m) = true) : qJY b h s (m0 m) (m1 m) (m2 m) (m3 m) = some (qC3 b h s m) := by
 have hs' : 1 - s = 0 \/ 1 - s = 1 := by omega
 unfold qJY qC3
 rw [qaq hc hs hm, qA]
 cases qBh b s m with
 | false => rfl
 | true =>
   rw [Bool.not_true, b_f, Bool.true_and]
   by_cases hd : m2 m = 1
   ·rw [qu hd, decide_eq_false (p := m2 m ≠ 1) (by simpa using hd), Bool.false_or, qYH hc hs (qFM hm).2, qA]
    simp only
    rw [qaj _ _ _ hs', qA]
    show (br (!inC (mbM b s m) (1 - s)) _ _) = _
    cases inC (mbM b s m) (1 - s) with
    | false => rfl
    | true =>
      rw [Bool.not_true, b_f, qnj (qO9 hc _ _ _ _ _) _ hs', qA]
      rfl
   ·rw [qq hd, decide_eq_true (p := m2 m ≠ 1) hd]; rfl
theorem qlQ {b h : List Int} (hc : Clean b) {s : Int} (hs : s = 0 \/ s = 1) (N : Nat) (M : List (List Int)) (hM : ∀ m ∈ M, Mv4 m /\ qAE b h s (m0 m) (m1 m) (m2 m) (m3 m) = true) (hl : M.length <= 100000) : ∀ (n i : Nat), i + n = M.length -> ∀ (L : List (List Int)) (x0 x6 : Nat), x0 = L.length -> x6 = L.length -> L.length + n <= 1000000 -> ∀ F,
  qFf (F + n + 1) x0 M.length i b h s x6 L N M = some ((L ++ (M.drop i).filter (qC3 b h s)).length, (L ++ (M.drop i).filter (qC3 b h s)).length, L ++ (M.drop i).filter (qC3 b h s)) := by
 intro n
 induction n with
 | zero =>
   intro i hi L x0 x6 e0 e6 hb F
   show qH3 (qFf (F + 0)) _ _ _ _ _ _ _ _ _ _ = _
   unfold qH3
   rw [qW (by simp only [Int.ofNat_eq_natCast]; omega), List.drop_eq_nil_of_le (by omega), List.filter_nil, List.append_nil, e0, e6]
 | succ n ih =>
   intro i hi L x0 x6 e0 e6 hb F
   show qH3 (qFf (F + n + 1)) _ _ _ _ _ _ _ _ _ _ = _
   unfold qH3
   have hil : i < M.length := by omega
   obtain ⟨hm1, hm2⟩ := hM M[i] (List.getElem_mem hil)
   rw [qd (by simp only [Int.ofNat_eq_natCast]; omega), qa (by omega) (by omega), tn, atL hil]
   simp only [hdM]
   rw [qnf hc hs hm2, qA, w_s (n := (i : Int) + 1) (by omega) (by omega), List.drop_eq_getElem_cons hil, List.filter_cons, qa (by omega) (by omega)]
   cases hg : qC3 b h s M[i] with
   | true =>
     rw [b_t, qCG (by omega), <- hm1.1, tkA e0]
     refine (ih (i + 1) (by omega) (L ++ [M[i]]) (x0 + 1) (x0 + 1) (by simp; omega) (by simp; omega) (by simp; omega) F).trans ?_
     simp
   | false =>
     rw [b_f]
     exact ih (i + 1) (by omega) L x0 x6 e0 e6 (by omega) F
def rlL (b h : List Int) (s : Int) : List (List Int) := (mvs b h s).filter (qC3 b h s)
theorem qne {b : List Int} (hc : Clean b) (h : List Int) {s : Int} (hs : s = 0 \/ s = 1) : qJX b h s = some ((rlL b h s).length, (rlL b h s).length, rlL b h s) := by
 unfold qJX
 rw [qac b h hs, qA, <- qPO hc h hs]
 simp only
 have hlen := qXK b h s
 obtain ⟨g, hg⟩ := qe (mvs b h s).length (by omega)
 have := qlQ hc hs (mvs b h s).length (mvs b h s) (fun m hm => qJB hc hs hm) (by omega) (mvs b h s).length 0 (by omega) [] 0 0 rfl rfl (by simp only [List.length_nil]; omega) g
 rw [<- hg, List.drop_zero, List.nil_append] at this
 rw [show qFf qC 0 (mvs b h s).length 0 b h s 0 [] (mvs b h s).length (mvs b h s) = _ from this, qA]
 rfl
end Go.Kk.Pl
namespace Go.Kk.Pl
theorem qfl {b : List Int} (hc : Clean b) {s : Int} (hs : s = 0 \/ s = 1) {k' : Nat} (hk' : KS b (1 - s) k') (hno : inC b (1 - s) = false) {q : Int} (hq : 0 <= q /\ q < 81) (h0 : at_ b q = 0) {c : Nat} (hcc : c < 81) (hch : chs (pb b s q) (1 - s) c = true) : c = q.toNat := by
 have hs' : 1 - s = 0 \/ 1 - s = 1 := by omega
 have hP := qPZ hs hq h0
 have hk2 : KS (pb b s q) (1 - s) k' := by rw [qGK]; exact qKx hc hs hP hk'
 apply Classical.byContradiction
 intro hne
 rw [qE3 hs' (hk2.kg hs') hk2.1] at hch
 have hg : (pb b s q).getD c 0 = b.getD c 0 := by
  rw [qGK, qEC hc hs hP hcc, if_neg hne, if_neg (by simp)]
 have ha : atk b (1 - s) k' c = true := by
  simp only [atk, enm, Bool.and_eq_true] at hch ⊢
  rw [hg] at hch
  refine ⟨hch.1, ?_⟩
  rw [qBv] at hch ⊢
  refine hch.2.imp id fun hh => ⟨hh.1, fun i hi => ?_⟩
  have := hh.2 i hi
  rw [qGK, qRg hc hs hP (qIm hcc hk'.1 hi)] at this
  unfold tk2 fof at this
  simp only [Bool.or_eq_false_iff, decide_eq_false_iff_not] at this
  have h2 := this.2
  rw [if_neg (by simp), decide_eq_false this.1] at h2
  simpa using h2
 unfold inC at hno
 have hE : isE (chs b (1 - s)) = true := by simpa using hno
 have := qCd.mp hE c hcc
 rw [qE3 hs' (hk'.kg hs') hk'.1, ha] at this
 cases this
theorem qiw {b : List Int} (hc : Clean b) {s : Int} (hs : s = 0 \/ s = 1) {k' : Nat} (hk' : KS b (1 - s) k') (hno : inC b (1 - s) = false) {q : Int} (hq : 0 <= q /\ q < 81) (h0 : at_ b q = 0) (hh : List Int) :
  pmS b s q = (inC (pb b s q) (1 - s) && qJo (pb b s q) hh (1 - s)) := by
 have hs' : 1 - s = 0 \/ 1 - s = 1 := by omega
 have hP := qPZ hs hq h0
 have hk2 : KS (pb b s q) (1 - s) k' := by rw [qGK]; exact qKx hc hs hP hk'
 have hc2 : Clean (pb b s q) := hc.put q _
 have hq81 : q.toNat < 81 := by omega
 have e1 : inC (pb b s q) (1 - s) = chs (pb b s q) (1 - s) q.toNat := by
  unfold inC
  cases hch : chs (pb b s q) (1 - s) q.toNat with
  | true =>
    cases hE : isE (chs (pb b s q) (1 - s)) with
    | false => rfl
    | true => rw [qCd.mp hE _ hq81] at hch; cases hch
  | false =>
    have : isE (chs (pb b s q) (1 - s)) = true := by
     rw [qCd]
     intro i hi
     cases hx : chs (pb b s q) (1 - s) i with
     | false => rfl
     | true => rw [qfl hc hs hk' hno hq h0 hi hx] at hx; rw [hx] at hch; cases hch
    rw [this]; rfl
 unfold pmS
 rw [decide_eq_true hq, decide_eq_true h0, Bool.true_and, Bool.true_and, e1]
 cases hch : chs (pb b s q) (1 - s) q.toNat with
 | false => rfl
 | true =>
   rw [Bool.true_and, Bool.true_and]
   unfold qJo
   rw [show mvs (pb b s q) hh (1 - s) = qr (pb b s q) (1 - s) T_ ++ qAH (pb b s q) hh (1 - s) T_ from rfl, List.all_append]
   have hB : ((qr (pb b s q) (1 - s) T_).all fun m => !g1 (pb b s q) (1 - s) m) = (qr (pb b s q) (1 - s) T_).all fun m => !qBh (pb b s q) (1 - s) m := by
    rw [Bool.eq_iff_iff, List.all_eq_true, List.all_eq_true]
    have : ∀ m ∈ qr (pb b s q) (1 - s) T_, g1 (pb b s q) (1 - s) m = qBh (pb b s q) (1 - s) m := by
     intro m hm
     obtain ⟨_, a2, a3⟩ := qLF hc2 hh hs' hm
     have := qL1 hc2 hs' (qFM a2).2 hk2
     unfold qBh mbM g1
     rw [this, if_pos a3]
    constructor
    ·intro h m hm; rw [<- this m hm]; exact h m hm
    ·intro h m hm; rw [this m hm]; exact h m hm
   have hD : ((qAH (pb b s q) hh (1 - s) T_).all fun m => !qBh (pb b s q) (1 - s) m) = true := by
    rw [List.all_eq_true]
    intro m hm
    obtain ⟨_, a2, _, a4, _, _⟩ := qPJ hc2 hs' hm
    have hPm := (qFM a2).2
    have := qL1 hc2 hs' hPm hk2
    unfold qBh mbM
    rw [this, if_neg (by omega), Bool.not_eq_true']
    cases ho : qt (pb b s q) (1 - s) (m1 m).toNat with
    | false => rfl
    | true =>
      exfalso
      rw [qJF hs' hk2] at ho
      rw [qE3 hs' (hk2.kg hs') hk2.1] at hch
      have hgq : (pb b s q).getD q.toNat 0 = 16 * s + 1 := by
       rw [qGK, qEC hc hs hP hq81, if_pos rfl]
       unfold laid
       rw [if_pos (by simp)]
      rcases ho _ hq81 hch with h1 | h1
      ·have h2 := (hPm.drop (by omega)).2.2.2.2.2
       rw [qAZ hPm.to_, h1, hgq] at h2
       omega
      ·simp only [atk, Bool.and_eq_true] at hch
       rcases qBv.mp hch.2 with h2 | h2
       ·rw [qMU h2] at h1; cases h1
       ·have h3 := of_decide_eq_true h2.1
        rw [hgq, qHL hs (by omega) (by omega) (by omega)] at h3
        unfold slK at h3
        omega
   rw [hB, hD, Bool.and_true]
theorem qGM {b h : List Int} {s : Int} (hl : b.length = 81) (hz : qDK b h s = 0) : Clean b /\ (s = 0 \/ s = 1) /\ inC b (1 - s) = false /\ ∃ k k', KS b s k /\ KS b (1 - s) k' := by
 have h1 : qAz b h s = 0 /\ inC b (1 - s) = false := by
  unfold qDK at hz
  split at hz
  ·rename_i h; exact absurd hz h
  ·rename_i h
   refine ⟨by simpa using h, ?_⟩
   cases hi : inC b (1 - s) with
   | false => rfl
   | true => rw [hi] at hz; simp at hz
 obtain ⟨hc, hs⟩ := qKS hl h1.1
 obtain ⟨k, hk⟩ := qKy h1.1 hs
 obtain ⟨k', hk'⟩ := qKy h1.1 (s := 1 - s) (by omega)
 exact ⟨hc, hs, h1.2, k, k', hk, hk'⟩
theorem qWZ {b : List Int} (hc : Clean b) (h : List Int) {s : Int} (hs : s = 0 \/ s = 1) (hno : inC b (1 - s) = false) {k k' : Nat} (hk : KS b s k) (hk' : KS b (1 - s) k') : lgL b h s = rlL b h s := by
 unfold lgL rlL
 rw [show mvs b h s = qr b s T_ ++ qAH b h s T_ from rfl, List.filter_append, qPK, List.filter_filter]
 congr 1
 ·apply List.filter_congr
  intro m hm
  obtain ⟨_, a2, a3⟩ := qLF hc h hs hm
  have := qL1 hc hs (qFM a2).2 hk
  unfold qC3 qBh mbM g1
  rw [this, if_pos a3, decide_eq_true (p := m2 m ≠ 1) (by omega), Bool.true_or, Bool.and_true]
 ·apply List.filter_congr
  intro m hm
  obtain ⟨_, a2, a3, a4, a5, a6⟩ := qPJ hc hs hm
  have hP := (qFM a2).2
  have := qL1 hc hs hP hk
  unfold qC3 qBh g2
  rw [show inC (mbM b s m) s = inC (mb b s (m0 m) (m1 m) (m2 m) (m3 m)) s from rfl, this, if_neg (by omega)]
  cases ho : qt b s (m1 m).toNat with
  | false => simp
  | true =>
    rw [Bool.and_true, Bool.true_and]
    by_cases hd : m2 m = 1
    ·have hdr := hP.drop (by omega)
     rw [decide_eq_true hd, decide_eq_false (p := m2 m ≠ 1) (by simpa using hd), Bool.true_and, Bool.false_or, qiw hc hs hk' hno hP.to_ hdr.2.2.2.2.2 (mhM b h s m)]
     have : mbM b s m = pb b s (m1 m) := by
      unfold mbM
      rw [a3, hd, a6, qGK]
     rw [this]
    ·rw [decide_eq_false hd, decide_eq_true (p := m2 m ≠ 1) hd]; rfl
theorem qId (p : Bool) : (bi p != 0) = p := by cases p <;> rfl
theorem qib {b : List Int} (_hc : Clean b) {h : List Int} {s : Int} (_hs : s = 0 \/ s = 1) {m : List Int} (hm : m ∈ lgL b h s) : m ∈ mvs b h s := by
 unfold lgL at hm
 rw [List.mem_append] at hm
 rcases hm with hm | hm
 ·exact List.mem_append_left _ (List.mem_filter.mp hm).1
 ·have := (List.mem_filter.mp hm).1
  rw [qPK] at this
  exact List.mem_append_right _ (List.mem_filter.mp this).1
end Go.Kk.Pl
namespace Go.Kk.Pl
end Go.Kk.Pl
namespace Go.Kk.Pl
theorem qi6 (f t d : Int) (p : Bool) : qDc f t d p = some (qCI f t d p) := by
 unfold qDc qCI
 by_cases h1 : t < 0
 ·rw [qd h1, if_pos (by omega)]
 rw [qW h1]
 by_cases h2 : t >= 81
 ·rw [qB1 h2, if_pos (by omega)]
 rw [qBU h2, if_neg (by omega)]
 by_cases hd : d = 0
 ·rw [qu hd, if_neg (by simpa using hd)]
  by_cases h3 : f < 0
  ·rw [qd h3, if_pos (by omega)]
  rw [qW h3]
  by_cases h4 : f >= 81
  ·rw [qB1 h4, if_pos (by omega)]
  rw [qBU h4, if_neg (by omega)]
  by_cases h5 : f = t
  ·rw [qk h5, if_pos h5]
  ·rw [qj h5, if_neg h5]
 ·rw [qq hd, if_pos hd]
  by_cases h3 : d < 0
  ·rw [qd h3, if_neg (by omega)]
  rw [qW h3]
  by_cases h4 : d >= 8
  ·rw [qB1 h4, if_neg (by omega)]
  rw [qBU h4]
  by_cases h5 : f = 0
  ·rw [qu h5]
   cases p with
   | true => rw [b_t, if_neg (by simp)]
   | false => rw [b_f, if_pos ⟨by omega, by omega, h5, rfl⟩]
  ·rw [qq h5, if_neg (by omega)]
theorem qfN (b h : List Int) {s : Int} (hs : s = 0 \/ s = 1) (f t d : Int) (p : Bool) (K : Int) (n : Nat) (by_ sides : List (List Int)) (m : Nat) (st : List (List Int)) :
  qD4 f t d p K n b h s by_ sides m st = some (qB2 b h s f t d p) := by
 unfold qD4 qB2
 rw [qi6, qA]
 by_cases hm : qCI f t d p = 0
 ·obtain ⟨ht, hd, hmv⟩ := qKR hm
  have main : (br (d != 0)
    (ob (qCZ s d b h s by_ sides) fun a14 =>
    br (decide (a14 > 0))
     (ob (qAc t b h s by_ sides) fun a15 =>
     some (a15 == 0))
     (some (false)))
    (ob (qAc f b h s by_ sides) fun a14 =>
    ob (qAc t b h s by_ sides) fun a15 =>
    ob (qAM a14) fun a16 =>
    br (a16 == s)
     (ob (qAM a15) fun a17 =>
     br (a17 != s)
      (ob (q9 a15) fun a18 =>
      br (a18 != 8)
       (br (!p)
        (some (true))
        (ob (q9 a14) fun a19 =>
        ob (qCk a19) fun a20 =>
        some (a20 != 0)))
       (some (false)))
      (some (false)))
     (some (false)))) = some (if d ≠ 0 then decide (0 < hd_ h s d) && decide (at_ b t = 0)
 else decide (sd (at_ b f) = s /\ sd (at_ b t) ≠ s /\ kd (at_ b t) ≠ 8) && (!p || decide (up_ (kd (at_ b f)) ≠ 0))) := by
   by_cases h0 : d = 0
   ·rw [qu h0, if_neg (by simpa using h0), qCs, qA, qCs, qA, qDC, qA]
    by_cases e1 : sd (at_ b f) = s
    ·rw [qk e1, qDC, qA]
     by_cases e2 : sd (at_ b t) = s
     ·rw [qu e2, decide_eq_false (p := sd (at_ b f) = s /\ sd (at_ b t) ≠ s /\ kd (at_ b t) ≠ 8) (fun h => h.2.1 e2)]; rfl
     ·rw [qq e2, qBP, qA]
      by_cases e3 : kd (at_ b t) = 8
      ·rw [qu e3, decide_eq_false (p := sd (at_ b f) = s /\ sd (at_ b t) ≠ s /\ kd (at_ b t) ≠ 8) (fun h => h.2.2 e3)]; rfl
      ·rw [qq e3, decide_eq_true (p := sd (at_ b f) = s /\ sd (at_ b t) ≠ s /\ kd (at_ b t) ≠ 8) ⟨e1, e2, e3⟩]
       cases p with
       | false => rfl
       | true =>
         rw [Bool.not_true, b_f, qBP, qA, qJy, qA]
         by_cases e4 : up_ (kd (at_ b f)) = 0 <;> simp [e4]
    ·rw [qj e1, decide_eq_false (p := sd (at_ b f) = s /\ sd (at_ b t) ≠ s /\ kd (at_ b t) ≠ 8) (fun h => e1 h.1)]; rfl
   ·have := hd h0
    rw [qq h0, if_pos h0, qKq hs (by omega) (by omega), qA]
    by_cases e1 : hd_ h s d > 0
    ·rw [qBL e1, qCs, qA, decide_eq_true (p := 0 < hd_ h s d) e1, Bool.true_and]
     by_cases e2 : at_ b t = 0 <;> simp [e2]
    ·rw [qBM e1, decide_eq_false (p := 0 < hd_ h s d) e1, Bool.false_and]
  rw [qu hm, decide_eq_true hm, decide_eq_true hs, Bool.true_and, Bool.true_and, <- main]
  rcases hs with rfl | rfl <;> rfl
 ·rw [qq hm, decide_eq_false hm, Bool.false_and]
theorem qWR {b : List Int} (hc : Clean b) {h : List Int} {s : Int} (hs : s = 0 \/ s = 1) {k k' : Nat} (hno : inC b (1 - s) = false) (hk : KS b s k) (hk' : KS b (1 - s) k') {m : List Int} (hm : m ∈ lgL b h s) :
  Mv4 m /\ qAE b h s (m0 m) (m1 m) (m2 m) (m3 m) = true /\ qC3 b h s m = true /\ qBh b s m = true := by
 have h1 := qJB hc hs (qib hc hs hm)
 rw [qWZ hc h hs hno hk hk'] at hm
 have h2 := (List.mem_filter.mp hm).2
 refine ⟨h1.1, h1.2, h2, ?_⟩
 unfold qC3 at h2
 rw [Bool.and_eq_true] at h2
 exact h2.1
theorem qi5 {b h : List Int} {s f t d : Int} {p : Bool} (hm : qAE b h s f t d p = true) : qB2 b h s f t d p = true := by
 unfold qAE at hm
 rw [Bool.and_eq_true] at hm
 exact hm.1
end Go.Kk.Pl
namespace Go.Kk.Pl
theorem qEq {p : Nat -> Bool} {a n : Nat} : (List.range' a n).any p = false ↔ ∀ i, a <= i -> i < a + n -> p i = false := by
 rw [List.any_eq_false]
 constructor
 ·intro h i h1 h2
  have := h i (List.mem_range'_1.mpr ⟨h1, h2⟩)
  simpa using this
 ·intro h i hi
  obtain ⟨h1, h2⟩ := List.mem_range'_1.mp hi
  rw [h i h1 h2]; simp
structure ChkP (b h : List Int) (s : Int) : Prop where
 side : s = 0 \/ s = 1
 good : ∀ i, i < 81 -> bsP b i = false
 hands : ∀ k, k < 8 -> ∀ j, j < 2 -> bsH h k j = false
 kings : nP b 8 = 1 /\ nP b 24 = 1
 over : ∀ k, 1 <= k -> k < 8 -> qBs b h k = false
 dead : ∀ i, i < 81 -> qA0 (b.getD i 0) i = false
 nifu : ∀ f, f < 9 -> qBH b f = false
theorem qTn {b h : List Int} {s : Int} : qAz b h s = 0 ↔ ChkP b h s := by
 constructor
 ·intro hz
  unfold qAz at hz
  split at hz
  ·omega
  rename_i h1
  split at hz
  ·omega
  rename_i h2
  split at hz
  ·omega
  rename_i h3
  split at hz
  ·omega
  rename_i h4
  split at hz
  ·omega
  rename_i h5
  split at hz
  ·omega
  rename_i h6
  split at hz
  ·omega
  rename_i h7
  rw [Bool.not_eq_true, qEq] at h2 h3 h5 h6 h7
  refine ⟨by omega, fun i hi => h2 i (by omega) (by omega), fun k hk j hj => ?_, by simpa using h4, fun k k1 k2 => h5 k k1 (by omega), fun i hi => h6 i (by omega) (by omega), fun f hf => h7 f (by omega) (by omega)⟩
  have := h3 k (by omega) (by omega)
  rw [qEq] at this
  exact this j (by omega) (by omega)
 ·intro ⟨a1, a2, a3, a4, a5, a6, a7⟩
  unfold qAz
  rw [if_neg (by omega), if_neg (by rw [qEq.mpr fun i _ hi => a2 i (by omega)]; simp), if_neg (by rw [qEq.mpr fun k _ hk => qEq.mpr fun j _ hj => a3 k (by omega) j (by omega)]; simp), if_neg (by simpa using a4),
   if_neg (by rw [qEq.mpr fun k k1 hk => a5 k k1 (by omega)]; simp), if_neg (by rw [qEq.mpr fun i _ hi => a6 i (by omega)]; simp), if_neg (by rw [qEq.mpr fun i _ hi => a7 i (by omega)]; simp)]
theorem qqC {n : Nat} {p : Nat -> Bool} : (List.range n).countP p <= 1 ↔ ∀ i j, i < n -> j < n -> p i = true -> p j = true -> i = j := by
 rw [List.countP_eq_length_filter]
 have hn : ((List.range n).filter p).Nodup := List.Nodup.sublist List.filter_sublist List.nodup_range
 have hm : ∀ i, i ∈ (List.range n).filter p ↔ i < n /\ p i = true := by
  intro i; rw [List.mem_filter, List.mem_range]
 match he : (List.range n).filter p with
 | [] =>
   rw [he] at hm
   refine ⟨fun _ i j hi _ h1 _ => ?_, fun _ => by simp⟩
   have := (hm i).mpr ⟨hi, h1⟩
   cases this
 | [a] =>
   rw [he] at hm
   refine ⟨fun _ i j hi hj h1 h2 => ?_, fun _ => by simp⟩
   have e1 := (hm i).mpr ⟨hi, h1⟩
   have e2 := (hm j).mpr ⟨hj, h2⟩
   rw [List.mem_singleton] at e1 e2
   rw [e1, e2]
 | a :: c :: L =>
   rw [he] at hm hn
   refine ⟨fun h => ?_, fun h => ?_⟩
   ·simp at h
   ·exfalso
    have ea := (hm a).mp (by simp)
    have ec := (hm c).mp (by simp)
    have := h a c ea.1 ec.1 ea.2 ec.2
    subst this
    simp at hn
theorem qjX {b : List Int} {x : Int} {f : Nat} : nF b x f <= 1 ↔ ∀ r r', r < 9 -> r' < 9 -> b.getD (9 * f + r) 0 = x -> b.getD (9 * f + r') 0 = x -> r = r' := by
 unfold nF
 rw [qqC]
 constructor
 ·intro h r r' hr hr' e e'
  exact h r r' hr hr' (by simpa using e) (by simpa using e')
 ·intro h r r' hr hr' e e'
  exact h r r' hr hr' (by simpa using e) (by simpa using e')
theorem qjY {b : List Int} {x : Int} {f : Nat} : nF b x f = 0 ↔ ∀ r, r < 9 -> b.getD (9 * f + r) 0 ≠ x := by
 unfold nF
 rw [List.countP_eq_zero]
 constructor
 ·intro h r hr e
  exact h r (List.mem_range.mpr hr) (by simpa using e)
 ·intro h r hr e
  exact h r (List.mem_range.mp hr) (by simpa using e)
theorem qXL {b : List Int} {s : Int} {k : Nat} (h : KS b s k) : nP b (pc s 8) = 1 := by
 show qAr (fun i => b.getD i 0 == pc s 8) = 1
 rw [qG2]
 exact ⟨k, h.1, fun i hi => by rw [beq_iff_eq]; exact h.2 i hi⟩
theorem qbz {b h : List Int} {s : Int} (hl : b.length = 81) (hf : qAV h) (hz : qAz b h s = 0) : Sound b h s := by
 obtain ⟨hc, _⟩ := qKS hl hz
 obtain ⟨v, hv, hS⟩ := qfT hc hf s
 rw [qnN hl hf] at hv
 exact hS (by rw [<- Option.some.inj hv]; exact hz)
theorem qfk {b h : List Int} {s f t d : Int} {p : Bool} (hl : b.length = 81) (hf : qAV h) (hh : h.length = 16) (hz : qAz b h s = 0) (hm : qAE b h s f t d p = true) : qAz (mb b s f t d p) (mh b h s t d) (1 - s) = 0 := by
 obtain ⟨hc, hs⟩ := qKS hl hz
 have hP := (qFM hm).2
 have hS := qbz hl hf hz
 have hC := qTn.mp hz
 have hs' : 1 - s = 0 \/ 1 - s = 1 := by omega
 obtain ⟨k, hk⟩ := qKy hz hs
 obtain ⟨k', hk'⟩ := qKy hz hs'
 have ht := hP.to_
 have hla := qFJ hs hP
 have hc2 : Clean (mb b s f t d p) := qO9 hc _ _ _ _ _
 have hmv : if d ≠ 0 then (!qDR (16 * s + d) t && (decide (d ≠ 1) || decide (nF b (16 * s + d) (t.toNat / 9) = 0))) = true
   else (rch (at_ b f) f.toNat t.toNat (tk b) && if p = true then qCh (at_ b f) f t else !qC4 (at_ b f) t) = true := by
  have := hm
  unfold qAE at this
  rw [Bool.and_eq_true] at this
  have := this.2
  by_cases hd : d = 0
  ·rw [if_neg (by simpa using hd)] at this ⊢
   exact this
  ·rw [if_pos hd] at this ⊢
   exact this
 have hhand : ∀ j : Int, (j = 0 \/ j = 1) -> ∀ i : Int, 0 <= i -> i < 8 -> (hd_ (mh b h s t d) j i = hd_ h j i \/ (1 <= i /\ 0 <= hd_ (mh b h s t d) j i)) := by
  intro j hj i i0 i8
  unfold mh
  by_cases hd : d = 0
  ·have hmm := hP.move hd
   rw [if_neg (by simpa using hd)]
   by_cases h0 : at_ b t = 0
   ·rw [if_pos h0]; exact .inl rfl
   ·rw [if_neg h0]
    have hr := qIA ((hc.at_ t).resolve_left h0) hmm.2.2.2.2.2.1
    rw [qFD hh hs (by omega) (by omega) 1 hj i0 i8]
    split
    ·right
     rename_i he
     have h1 := hS.hands (rw_ (kd (at_ b t))) (by omega) (by omega)
     have h2 := hS.counts (rw_ (kd (at_ b t))) (by omega) (by omega)
     have h3 : 0 <= hd_ h s (rw_ (kd (at_ b t))) /\ hd_ h s (rw_ (kd (at_ b t))) <= 18 := by
      rcases hs with rfl | rfl <;> omega
     rw [w_8 (by omega) (by omega)]
     omega
    ·exact .inl rfl
  ·have hmm := hP.drop hd
   rw [if_pos hd, qFD hh hs (by omega) (by omega) (-1) hj i0 i8]
   split
   ·right
    have := qG6 hf s d
    rw [w_8 (by omega) (by omega)]
    omega
   ·exact .inl rfl
 rw [qTn]
 refine ⟨hs', fun i hi => ?_, fun i hi j hj => ?_, ?_, fun i i1 i2 => ?_, fun i hi => ?_, fun g hg => ?_⟩
 ·unfold bsP
  rw [decide_eq_false_iff_not]
  rintro ⟨h1, h2⟩
  have := hc2.at_ i
  rw [qAZ (by omega), tn] at this
  exact this.elim h1 (fun h => h h2)
 ·have h1 := hC.hands i hi j hj
  unfold bsH at h1 ⊢
  rw [decide_eq_false_iff_not] at h1 ⊢
  have h2 := hhand j (by omega) i (by omega) (by omega)
  unfold hd_ at h2
  rw [show (j : Int).toNat * 8 + (i : Int).toNat = j * 8 + i from rfl] at h2
  omega
 ·have e1 := qXL (qOo hc hs hP hk)
  have e2 := qXL (qKx hc hs hP hk')
  rw [pc8 hs] at e1
  rw [pc8 hs'] at e2
  rcases hs with rfl | rfl
  ·exact ⟨e1, e2⟩
  ·exact ⟨e2, e1⟩
 ·have h1 := hC.over i i1 i2
  unfold qBs at h1 ⊢
  rw [decide_eq_false_iff_not] at h1 ⊢
  have := qk6 hS hf hh hP (k := (i : Int)) (by omega) (by omega)
  omega
 ·rw [qEC hc hs hP hi]
  by_cases h1 : i = t.toNat
  ·rw [if_pos h1, h1]
   unfold laid
   by_cases hd : d = 0
   ·rw [if_neg (by simpa using hd)]
    rw [if_neg (by simpa using hd)] at hmv
    have hmm := hP.move hd
    cases p with
    | true =>
      rw [if_pos rfl]
      obtain ⟨u1, u2, u3⟩ := qIX (hmm.2.2.2.2.2.2 rfl)
      have : 9 <= up_ (kd (at_ b f)) := by
       have hu := hmm.2.2.2.2.2.2 rfl
       unfold up_ at hu ⊢
       split
       ·omega
       ·rename_i h; rw [if_neg h] at hu; exact absurd rfl hu
      unfold qA0
      rw [qHL hs u1 u2 u3, decide_eq_false_iff_not]
      omega
    | false =>
      rw [if_neg (by simp)]
      rw [if_neg (by simp), Bool.and_eq_true] at hmv
      have h2 := hmv.2
      cases hdd : qA0 (at_ b f) t.toNat with
      | false => rfl
      | true =>
        exfalso
        have hk : kd (at_ b f) = 1 \/ kd (at_ b f) = 2 \/ kd (at_ b f) = 3 := by
         have := of_decide_eq_true hdd
         omega
        unfold qC4 at h2
        rw [show t = ((t.toNat : Nat) : Int) by omega, qNv _ (by omega), hdd] at h2
        have : up_ (kd (at_ b f)) ≠ 0 := by unfold up_; rw [if_pos (by omega)]; omega
        rw [decide_eq_true this] at h2
        cases h2
   ·rw [if_pos hd]
    rw [if_pos hd, Bool.and_eq_true] at hmv
    have h2 := hmv.1
    rw [show t = ((t.toNat : Nat) : Int) by omega, qNv _ (by omega)] at h2
    simpa using h2
  ·rw [if_neg h1]
   by_cases h2 : d = 0 /\ i = f.toNat
   ·rw [if_pos h2]
    unfold qA0
    rw [qFG]
    simp
   ·rw [if_neg h2]; exact hC.dead i hi
 ·have key : ∀ x : Int, (x = 1 \/ x = 17) -> nF (mb b s f t d p) x g <= 1 := by
   intro x hx
   have hxk : kd x = 1 := by rcases hx with rfl | rfl <;> decide
   have hold : nF b x g <= 1 := by
    have := hC.nifu g hg
    unfold qBH at this
    simp only [Bool.or_eq_false_iff, decide_eq_false_iff_not] at this
    rcases hx with rfl | rfl <;> omega
   rw [qjX] at hold ⊢
   have from_ : ∀ r, r < 9 -> (mb b s f t d p).getD (9 * g + r) 0 = x -> (b.getD (9 * g + r) 0 = x /\ ¬ (d = 0 /\ 9 * g + r = f.toNat)) \/ 9 * g + r = t.toNat := by
    intro r hr e
    rw [qEC hc hs hP (by omega)] at e
    by_cases h1 : 9 * g + r = t.toNat
    ·exact .inr h1
    ·rw [if_neg h1] at e
     by_cases h2 : d = 0 /\ 9 * g + r = f.toNat
     ·rw [if_pos h2] at e
      rcases hx with rfl | rfl <;> omega
     ·rw [if_neg h2] at e
      exact .inl ⟨e, h2⟩
   have lay : ∀ r, r < 9 -> 9 * g + r = t.toNat -> (mb b s f t d p).getD (9 * g + r) 0 = x -> ∀ r', r' < 9 -> (b.getD (9 * g + r') 0 = x /\ ¬ (d = 0 /\ 9 * g + r' = f.toNat)) -> False := by
    intro r hr he e r' hr' e'
    rw [qEC hc hs hP (by omega), if_pos he] at e
    unfold laid at e
    by_cases hd : d = 0
    ·rw [if_neg (by simpa using hd)] at e hmv
     have hmm := hP.move hd
     cases p with
     | true =>
       rw [if_pos rfl] at e
       have hu := hmm.2.2.2.2.2.2 rfl
       obtain ⟨u1, u2, u3⟩ := qIX hu
       have : kd (16 * s + up_ (kd (at_ b f))) = 1 := by rw [e, hxk]
       rw [qHL hs u1 u2 u3] at this
       unfold up_ at this
       split at this <;> omega
     | false =>
       rw [if_neg (by simp)] at e
       rw [Bool.and_eq_true] at hmv
       have hr1 := hmv.1
       have hfl : df f.toNat t.toNat = 0 := by
        rcases qBv.mp hr1 with h1 | h1
        ·have h2 := of_decide_eq_true h1
         rw [e, hxk] at h2
         unfold qBz at h2
         omega
        ·have h2 := of_decide_eq_true h1.1
         rw [e, hxk] at h2
         unfold slK at h2
         omega
       unfold df fl at hfl
       have hfe : f.toNat = 9 * g + f.toNat % 9 := by omega
       have : b.getD (9 * g + f.toNat % 9) 0 = x := by
        rw [<- hfe, <- qAZ ⟨hmm.1, hmm.2.1⟩]; exact e
       have := hold (f.toNat % 9) r' (by omega) hr' this e'.1
       exact e'.2 ⟨hd, by omega⟩
    ·rw [if_pos hd] at e hmv
     rw [Bool.and_eq_true] at hmv
     have hdd := hP.drop hd
     have hd1 : d = 1 := by rcases hs with rfl | rfl <;> rcases hx with rfl | rfl <;> omega
     have hz0 : nF b (16 * s + d) (t.toNat / 9) = 0 := by
      have := hmv.2
      rw [decide_eq_false (p := d ≠ 1) (by simpa using hd1), Bool.false_or, decide_eq_true_eq] at this
      exact this
     rw [e, show t.toNat / 9 = g by omega, qjY] at hz0
     exact hz0 r' hr' e'.1
   intro r r' hr hr' e e'
   rcases from_ r hr e with h1 | h1
   ·rcases from_ r' hr' e' with h2 | h2
    ·exact hold r r' hr hr' h1.1 h2.1
    ·exact (lay r' hr' h2 e' r hr h1).elim
   ·rcases from_ r' hr' e' with h2 | h2
    ·exact (lay r hr h1 e r' hr' h2).elim
    ·omega
  unfold qBH
  have k1 := key 1 (.inl rfl)
  have k2 := key 17 (.inr rfl)
  rw [decide_eq_false (by omega), decide_eq_false (by omega)]
  rfl
theorem qdZ {b h : List Int} {s f t d : Int} {p : Bool} (hl : b.length = 81) (hf : qAV h) (hh : h.length = 16) (hz : qAz b h s = 0) (hm : qAE b h s f t d p = true) (hsafe : inC (mb b s f t d p) s = false) : qDK (mb b s f t d p) (mh b h s t d) (1 - s) = 0 := by
 have h1 := qfk hl hf hh hz hm
 unfold qDK
 rw [if_neg (by rw [h1]; simp), show 1 - (1 - s) = s by omega, hsafe]
 rfl
theorem qSB {b h : List Int} {s : Int} (hz : qDK b h s = 0) : qAz b h s = 0 := by
 unfold qDK at hz
 split at hz
 ·rename_i h; exact absurd hz h
 ·rename_i h; simpa using h
end Go.Kk.Pl
namespace Go.Kk.Pl
theorem qpl {b : List Int} (hc : Clean b) (h : List Int) {s : Int} (hs : s = 0 \/ s = 1) {k k' : Nat} (hk : KS b s k) (hk' : KS b (1 - s) k') :
  qHX b h s (qI b) (qO b) = some (decide ((lgL b h s).length = 0), b, h, s, qI b, qO b) := by
 unfold qHX
 rw [qV8 hc h hs hk hk', qA]
 simp only
 congr 2
 rw [Bool.eq_iff_iff, decide_eq_true_eq, beq_iff_eq]
 exact ⟨fun h => by simpa using h, fun h => by rw [h]; rfl⟩
end Go.Kk.Pl
namespace Go.Kk.Pl
theorem qhR (h : List Int) (s k : Nat) (hk : k < 8) : (List.take 8 (List.drop (s * 7 + s) h)).getD k 0 = h.getD (s * 8 + k) 0 := by
 rw [List.getD_eq_getElem?_getD, List.getD_eq_getElem?_getD, List.getElem?_take, if_pos hk, List.getElem?_drop, show s * 7 + s + k = s * 8 + k by omega]
abbrev B64 := BitVec 64
def bv (n : Int) : B64 := BitVec.ofInt 64 n
def un (x : B64) : Int := (x.toNat : Int)
theorem qBN (x : B64) : bv (un x) = x := by
 unfold bv un
 rw [BitVec.ofInt_natCast, BitVec.ofNat_toNat]; simp
theorem qEl (a b : Int) : qD .xor .u64 a b = un (bv a ^^^ bv b) := by
 show IntKind.wrap .u64 _ = _
 have h : IntKind.wrap .u64 ((BitVec.ofInt 64 a ^^^ BitVec.ofInt 64 b).toNat : Int) = ((BitVec.ofInt 64 a ^^^ BitVec.ofInt 64 b).toNat : Int) :=
  qBK (by show (0 : Int) <= _; omega) (by show _ <= (18446744073709551615 : Int); have := (BitVec.ofInt 64 a ^^^ BitVec.ofInt 64 b).isLt; omega)
 exact h
def pcB (q x : Int) : B64 := bv ((qB6 q x).getD 0)
def hnB (s k n : Int) : B64 := bv ((qCe s k n).getD 0)
def sdB : B64 := bv (qCg.getD 0)
theorem qOW (x : Int) : ∃ v : B64, qDa x = some (un v) := by
 unfold qDa
 rw [qEl]
 exact ⟨_, rfl⟩
theorem qRu {m : Option Int} (h : ∃ v : B64, m = some (un v)) : m = some (un (bv (m.getD 0))) := by
 obtain ⟨v, rfl⟩ := h
 simp [qBN]
theorem qKP {b : Bool} {x y : Option Int} (hx : ∃ v : B64, x = some (un v)) (hy : ∃ v : B64, y = some (un v)) : ∃ v : B64, br b x y = some (un v) := by cases b <;> assumption
theorem qXS {α : Type} {m : Option α} {k : α -> Option Int} (hm : ∃ v, m = some v) (hk : ∀ a, m = some a -> ∃ v : B64, k a = some (un v)) : ∃ v : B64, ob m k = some (un v) := by
 obtain ⟨a, rfl⟩ := hm
 exact hk a rfl
theorem qVZ (q x : Int) : qB6 q x = some (un (pcB q x)) := qRu (by
 unfold qB6
 refine qXS (qV5 _) fun a _ => ?_
 refine qKP ⟨0, rfl⟩ (qKP ⟨0, rfl⟩ (qKP ⟨0, rfl⟩ (qXS (qLB _) fun a ha => ?_)))
 obtain ⟨v, hv⟩ := qOW _
 rw [hv] at ha
 cases ha
 exact ⟨v, rfl⟩)
theorem qVY (s k n : Int) : qCe s k n = some (un (hnB s k n)) := qRu (by
 have tail : ∀ x : Int, ∃ v : B64, (ob (qDa x) fun r => some r) = some (un v) := fun x => by
  obtain ⟨v, hv⟩ := qOW x
  exact ⟨v, by rw [hv]; rfl⟩
 unfold qCe
 repeat first | exact ⟨0, rfl⟩ | exact tail _ | apply qKP)
theorem qVa : qCg = some (un sdB) := qRu (by
 unfold qCg
 obtain ⟨v, hv⟩ := qOW 1048576
 exact ⟨v, by rw [hv]; rfl⟩)
def qAW (b : List Int) : Nat -> B64
 | 0 => 0
 | n + 1 => qAW b n ^^^ pcB n (b.getD n 0)
def qBE (h : List Int) (s : Nat) : Nat -> B64
 | 0 => 0
 | n + 1 => qBE h s n ^^^ hnB s n (conv .i8 .i64 (h.getD (s * 8 + n) 0))
def qDW (h : List Int) : B64 := qBE h 0 8 ^^^ qBE h 1 8
theorem qc2 (a b : B64) : a ^^^ (b ^^^ a) = b := by rw [BitVec.xor_comm b a, <- BitVec.xor_assoc, BitVec.xor_self, BitVec.zero_xor]
theorem qe9 : ∀ (n : Nat) (q : Nat) (acc : B64) (b c d : List Int) (e : Int) (f : Nat), q + n = 81 ->
  qCL (f + n + 1) (un acc) b q c d e = some (un (acc ^^^ qAW b q ^^^ qAW b 81), c, d, e) := by
 intro n
 induction n with
 | zero =>
   intro q acc b c d e f hq
   have : q = 81 := by omega
   subst this
   show qDY (qCL (f + 0)) (un acc) b _ c d e = _
   unfold qDY
   rw [qJ (by decide), BitVec.xor_assoc, BitVec.xor_self, BitVec.xor_zero]
 | succ n ih =>
   intro q acc b c d e f hq
   show qDY (qCL (f + n + 1)) (un acc) b q c d e = _
   unfold qDY
   rw [qF (by simp; omega), qF (qAL (by omega) (by omega))]
   simp only [cond_true, Int.toNat_natCast]
   rw [qVZ]
   show qCL (f + n + 1) (qD .xor .u64 (un acc) (un (pcB q (b.getD q 0)))) b (IntKind.wrap .i64 ((q : Int) + 1)) c d e = _
   rw [qAK (by omega) (by omega), qEl, qBN, qBN]
   have := ih (q + 1) (acc ^^^ pcB q (b.getD q 0)) b c d e f (by omega)
   rw [Int.natCast_add] at this
   rw [show ((q : Int) + 1) = (q : Int) + (1 : Nat) from rfl, this]
   congr 3
   show acc ^^^ pcB q (b.getD q 0) ^^^ (qAW b q ^^^ pcB q (b.getD q 0)) ^^^ qAW b 81 = _
   rw [BitVec.xor_assoc acc, qc2]
theorem qhV (s : Nat) : ∀ (n : Nat) (k : Nat) (acc : B64) (h x2 : List Int) (x3 : Int) (x6 x7 : List Int) (x8 : Int) (f : Nat), k + n = 8 ->
  qCf (f + n + 1) (un acc) s x2 x3 (List.take 8 (List.drop (s * 7 + s) h)) k x6 x7 x8 = some (un (acc ^^^ qBE h s k ^^^ qBE h s 8), x2, x3, x6, x7, x8) := by
 intro n
 induction n with
 | zero =>
   intro k acc h x2 x3 x6 x7 x8 f hk
   have : k = 8 := by omega
   subst this
   show qDX (qCf (f + 0)) (un acc) s x2 x3 _ _ x6 x7 x8 = _
   unfold qDX
   rw [qJ (by decide), BitVec.xor_assoc, BitVec.xor_self, BitVec.xor_zero]
 | succ n ih =>
   intro k acc h x2 x3 x6 x7 x8 f hk
   show qDX (qCf (f + n + 1)) (un acc) s x2 x3 _ k x6 x7 x8 = _
   unfold qDX
   rw [qF (by simp; omega), qF (qAL (by omega) (by omega))]
   simp only [cond_true, Int.toNat_natCast]
   rw [qhR h s k (by omega), qVY]
   show qCf (f + n + 1) (qD .xor .u64 (un acc) (un (hnB s k (conv .i8 .i64 (h.getD (s * 8 + k) 0))))) s x2 x3 _ (IntKind.wrap .i64 ((k : Int) + 1)) x6 x7 x8 = _
   rw [qAK (by omega) (by omega), qEl, qBN, qBN]
   have := ih (k + 1) (acc ^^^ hnB s k (conv .i8 .i64 (h.getD (s * 8 + k) 0))) h x2 x3 x6 x7 x8 f (by omega)
   rw [Int.natCast_add] at this
   rw [show ((k : Int) + 1) = (k : Int) + (1 : Nat) from rfl, this]
   congr 3
   show acc ^^^ hnB s k (conv .i8 .i64 (h.getD (s * 8 + k) 0)) ^^^ (qBE h s k ^^^ hnB s k (conv .i8 .i64 (h.getD (s * 8 + k) 0))) ^^^ qBE h s 8 = _
   rw [BitVec.xor_assoc acc, qc2]
theorem qhX (acc : B64) (h c : List Int) (e : Int) : qBp qC (un acc) h 0 c h e = some (un (acc ^^^ qDW h), c, h, e) := by
 obtain ⟨f, hf⟩ := qe 2 (by omega)
 obtain ⟨g, hg⟩ := qe 8 (by omega)
 have step : ∀ (s : Nat) (hs : s < 2) (acc : B64) (f : Nat), qBp (f + 1) (un acc) h s c h e = qBp f (un (acc ^^^ qBE h s 8)) h (s + 1 : Nat) c h e := by
  intro s hs acc f
  show qDZ (qBp f) (un acc) h s c h e = _
  unfold qDZ
  rw [qF (by simp; omega), qF (qAL (by omega) (by omega)), hg]
  show ob (qCf (g + 8 + 1) (un acc) s h s (List.take 8 (List.drop (Int.toNat s * 7 + Int.toNat s) h)) (0 : Nat) c h e) _ = _
  rw [Int.toNat_natCast, qhV s 8 0 acc h h s c h e g (by omega)]
  show qBp f (un (acc ^^^ 0 ^^^ qBE h s 8)) h (IntKind.wrap .i64 ((s : Int) + 1)) c h e = _
  have z : acc ^^^ (0 : B64) = acc := by simp
  rw [qAK (by omega) (by omega), z]
  rfl
 rw [hf]
 have e1 := step 0 (by omega) acc (f + 2)
 have e2 := step 1 (by omega) (acc ^^^ qBE h 0 8) (f + 1)
 rw [show f + 2 + 1 = f + 2 + 1 from rfl, show (0 : Int) = ((0 : Nat) : Int) from rfl, e1]
 rw [show f + 2 = f + 1 + 1 from rfl, e2]
 show qDZ (qBp f) _ h 2 c h e = _
 unfold qDZ
 rw [qJ (by decide), BitVec.xor_assoc]
 rfl
def qAS (b h : List Int) (s : Int) : B64 := bif s == 1 then qAW b 81 ^^^ qDW h ^^^ sdB else qAW b 81 ^^^ qDW h
theorem qhi (b h : List Int) (s : Int) : qC1 b h s = some (un (qAS b h s)) := by
 obtain ⟨g, hg⟩ := qe 81 (by omega)
 have e2 : qCL qC 0 b 0 b h s = some (un (qAW b 81), b, h, s) := by
  rw [hg]
  have := qe9 81 0 0 b b h s g (by omega)
  rw [show (0 : B64) ^^^ qAW b 0 ^^^ qAW b 81 = qAW b 81 by show (0 : B64) ^^^ 0 ^^^ _ = _; simp] at this
  exact this
 unfold qC1
 rw [e2]
 show ob (qBp qC (un (qAW b 81)) h 0 b h s) _ = _
 rw [qhX]
 show br (s == 1) (ob qCg fun r10 => some (qD .xor .u64 (un (qAW b 81 ^^^ qDW h)) r10)) (some (un (qAW b 81 ^^^ qDW h))) = _
 unfold qAS
 cases hs : s == 1
 ·rfl
 ·rw [qVa]
  show some (qD .xor .u64 _ _) = _
  rw [qEl, qBN, qBN]
  rfl
theorem qeI (b : List Int) (i : Nat) (x : Int) (hi : i < b.length) : ∀ n, qAW (b.set i x) n = if i < n then qAW b n ^^^ pcB i (b.getD i 0) ^^^ pcB i x else qAW b n := by
 intro n
 induction n with
 | zero => rfl
 | succ n ih =>
   show qAW (b.set i x) n ^^^ pcB n ((b.set i x).getD n 0) = _
   rw [ih]
   rcases Nat.lt_trichotomy i n with h | h | h
   ·rw [if_pos h, if_pos (by omega)]
    have : (b.set i x).getD n 0 = b.getD n 0 := by
     rw [List.getD_eq_getElem?_getD, List.getD_eq_getElem?_getD, List.getElem?_set_ne (by omega)]
    rw [this]
    show qAW b n ^^^ pcB i (b.getD i 0) ^^^ pcB i x ^^^ pcB n (b.getD n 0) = qAW b n ^^^ pcB n (b.getD n 0) ^^^ pcB i (b.getD i 0) ^^^ pcB i x
    ac_rfl
   ·subst h
    rw [if_neg (by omega), if_pos (by omega)]
    have : (b.set i x).getD i 0 = x := by
     rw [List.getD_eq_getElem?_getD, List.getElem?_set_self hi]; rfl
    rw [this]
    show qAW b i ^^^ pcB i x = qAW b i ^^^ pcB i (b.getD i 0) ^^^ pcB i (b.getD i 0) ^^^ pcB i x
    rw [BitVec.xor_assoc (qAW b i), BitVec.xor_self, BitVec.xor_zero]
   ·rw [if_neg (by omega), if_neg (by omega)]
    have : (b.set i x).getD n 0 = b.getD n 0 := by
     rw [List.getD_eq_getElem?_getD, List.getD_eq_getElem?_getD, List.getElem?_set_ne (by omega)]
    rw [this]
    rfl
theorem qVS (h : List Int) (s0 k0 : Nat) (x : Int) (hk : k0 < 8) (hi : s0 * 8 + k0 < h.length) (s : Nat) : ∀ n, n <= 8 -> qBE (h.set (s0 * 8 + k0) x) s n =
  if s = s0 /\ k0 < n then qBE h s n ^^^ hnB s0 k0 (conv .i8 .i64 (h.getD (s0 * 8 + k0) 0)) ^^^ hnB s0 k0 (conv .i8 .i64 x) else qBE h s n := by
 intro n
 induction n with
 | zero => intro _; rw [if_neg (by omega)]; rfl
 | succ n ih =>
   intro hn
   show qBE (h.set (s0 * 8 + k0) x) s n ^^^ hnB s n (conv .i8 .i64 ((h.set (s0 * 8 + k0) x).getD (s * 8 + n) 0)) = _
   rw [ih (by omega)]
   by_cases hq : s * 8 + n = s0 * 8 + k0
   ·have e1 : s = s0 := by omega
    have e2 : n = k0 := by omega
    subst e1
    subst e2
    rw [if_neg (by omega), if_pos (by omega)]
    have : (h.set (s * 8 + n) x).getD (s * 8 + n) 0 = x := by
     rw [List.getD_eq_getElem?_getD, List.getElem?_set_self hi]; rfl
    rw [this]
    show qBE h s n ^^^ hnB s n (conv .i8 .i64 x) = qBE h s n ^^^ hnB s n (conv .i8 .i64 (h.getD (s * 8 + n) 0)) ^^^ hnB s n (conv .i8 .i64 (h.getD (s * 8 + n) 0)) ^^^ hnB s n (conv .i8 .i64 x)
    rw [BitVec.xor_assoc (qBE h s n), BitVec.xor_self, BitVec.xor_zero]
   ·have : (h.set (s0 * 8 + k0) x).getD (s * 8 + n) 0 = h.getD (s * 8 + n) 0 := by
     rw [List.getD_eq_getElem?_getD, List.getD_eq_getElem?_getD, List.getElem?_set_ne (by omega)]
    rw [this]
    by_cases hc : s = s0 /\ k0 < n
    ·rw [if_pos hc, if_pos (by omega)]
     show _ = qBE h s n ^^^ hnB s n (conv .i8 .i64 (h.getD (s * 8 + n) 0)) ^^^ _ ^^^ _
     ac_rfl
    ·rw [if_neg hc, if_neg (by omega)]
     rfl
theorem qhW (h : List Int) (s0 k0 : Nat) (x : Int) (hs : s0 < 2) (hk : k0 < 8) (hh : h.length = 16) :
  qDW (h.set (s0 * 8 + k0) x) = qDW h ^^^ hnB s0 k0 (conv .i8 .i64 (h.getD (s0 * 8 + k0) 0)) ^^^ hnB s0 k0 (conv .i8 .i64 x) := by
 unfold qDW
 rw [qVS h s0 k0 x hk (by omega) 0 8 (Nat.le_refl _), qVS h s0 k0 x hk (by omega) 1 8 (Nat.le_refl _)]
 have : s0 = 0 \/ s0 = 1 := by omega
 rcases this with rfl | rfl
 ·rw [if_pos (by omega), if_neg (by omega)]; ac_rfl
 ·rw [if_neg (by omega), if_pos (by omega)]; ac_rfl
theorem qKw (b h : List Int) (s : Int) : kof b h s = un (qAS b h s) := by unfold kof; rw [qhi]; rfl
theorem qV7 (q x : Int) : kp q x = un (pcB q x) := by unfold kp; rw [qVZ]; rfl
theorem qV4 (s k n : Int) : kh s k n = un (hnB s k n) := by unfold kh; rw [qVY]; rfl
theorem qiH : qI6 = un sdB := by unfold qI6; rw [qVa]; rfl
theorem qki {q x : Int} (h : kd x = 0) : pcB q x = pcB q 0 := by
 have e : ∀ y, kd y = 0 -> qB6 q y = some 0 := by
  intro y hy
  unfold qB6
  rw [qBP, qA, hy]
  rfl
 unfold pcB
 rw [e x h, e 0 qFG]
theorem qhm {b : List Int} (hl : b.length = 81) {q : Int} (hq : 0 <= q /\ q < 81) (x : Int) (h : List Int) (s : Int) : qAS (put b q x) h s = qAS b h s ^^^ pcB q (at_ b q) ^^^ pcB q x := by
 have e : pcB q (if kd x = 0 then 0 else x) = pcB q x := by
  split
  ·rename_i h; exact (qki h).symm
  ·rfl
 unfold qAS put at_
 rw [if_pos hq, if_pos hq]
 revert e
 generalize (if kd x = 0 then 0 else x) = y
 intro e
 have qw := qeI b q.toNat y (by omega) 81
 rw [if_pos (show q.toNat < 81 by omega), show ((q.toNat : Nat) : Int) = q by omega, e] at qw
 rw [qw]
 cases s == 1 <;> simp only [cond_true, cond_false] <;> ac_rfl
theorem qhl {h : List Int} (hh : h.length = 16) {s k : Int} (hs : s = 0 \/ s = 1) (k0 : 0 <= k) (k1 : k < 8) (d : Int) (b : List Int) (S : Int) :
  qAS b (qw h s k d) S = qAS b h S ^^^ hnB s k (hd_ h s k) ^^^ hnB s k (IntKind.wrap .i8 (hd_ h s k + d)) := by
 have e2 : ∀ x, conv .i8 .i64 x = x := fun _ => rfl
 have hset' := qhW h s.toNat k.toNat (IntKind.wrap .i8 (hd_ h s k + d)) (by omega) (by omega) hh
 rw [e2, e2, show ((s.toNat : Nat) : Int) = s by omega, show ((k.toNat : Nat) : Int) = k by omega] at hset'
 unfold qAS qw
 rw [hset']
 unfold hd_
 cases S == 1 <;> simp only [cond_true, cond_false] <;> ac_rfl
theorem qhn {s : Int} (hs : s = 0 \/ s = 1) (b h : List Int) : qAS b h (1 - s) = qAS b h s ^^^ sdB := by
 rcases hs with rfl | rfl
 ·rfl
 ·show qAW b 81 ^^^ qDW h = qAW b 81 ^^^ qDW h ^^^ sdB ^^^ sdB
  rw [BitVec.xor_assoc _ sdB, BitVec.xor_self, BitVec.xor_zero]
theorem qHM {b : List Int} (hl : b.length = 81) {q : Int} (hq : 0 <= q /\ q < 81) (x : Int) (h : List Int) (s : Int) : qCM (un (qAS b h s)) b q x = un (qAS (put b q x) h s) := by
 unfold qCM
 rw [qV7, qV7, qEl, qEl, qBN, qBN, qBN, qBN, qhm hl hq, BitVec.xor_assoc]
theorem qOm {h : List Int} (hh : h.length = 16) {s k : Int} (hs : s = 0 \/ s = 1) (k0 : 0 <= k) (k1 : k < 8) {d : Int} (b : List Int) (S : Int) (r0 : -128 <= hd_ h s k + d) (r1 : hd_ h s k + d <= 127) :
  qFI (un (qAS b h S)) h s k d = un (qAS b (qw h s k d) S) := by
 unfold qFI
 rw [qV4, qV4, qEl, qEl, qBN, qBN, qBN, qBN, qhl hh hs k0 k1, BitVec.xor_assoc, qAK (by omega) (by omega), qFu r0 r1]
theorem qK0 {s : Int} (hs : s = 0 \/ s = 1) (b h : List Int) : qKz (un (qAS b h s)) = un (qAS b h (1 - s)) := by
 unfold qKz
 rw [qiH, qEl, qBN, qBN, qhn hs]
theorem qi3 {b h : List Int} {s : Int} (hS : Sound b h s) (hf : qAV h) (hh : h.length = 16) {f t d : Int} {p : Bool} (hP : CanP b h s f t d p) :
  qHY (kof b h s) b h s f t d p = kof (mb b s f t d p) (mh b h s t d) (1 - s) := by
 rw [qKw, qKw]
 unfold qHY mb mh
 by_cases hd : d = 0
 ·obtain ⟨f0, f1, f2, g1, g2, g3, g4⟩ := hP.move hd
  simp only [if_neg (show ¬ (d ≠ 0) from fun h => h hd)]
  rw [qHM hS.clean.len ⟨f0, f1⟩, qHM (hS.clean.put f 0).len hP.to_]
  by_cases ht : at_ b t = 0
  ·simp only [if_pos ht]
   rw [qK0 hS.side]
  ·have hk := (hS.clean.at_ t).resolve_left ht
   obtain ⟨r1, r2⟩ := qIA hk g3
   have hc := hS.counts _ r1 r2
   have h0 := hS.hands (rw_ (kd (at_ b t))) (by omega) r2
   have hsd := hS.side
   simp only [if_neg ht]
   rw [qOm hh hS.side (by omega) r2 _ _ (by rcases hsd with rfl | rfl <;> omega) (by rcases hsd with rfl | rfl <;> omega), qK0 hS.side]
 ·obtain ⟨d0, d1, d2, d3, g1, g2⟩ := hP.drop hd
  have hb := qG6 hf s d
  simp only [if_pos (show d ≠ 0 from hd)]
  rw [qOm hh hS.side (by omega) d1 _ _ (by omega) (by omega), qHM hS.clean.len hP.to_, qK0 hS.side]
end Go.Kk.Pl
namespace Go.Kk.Pl
structure Going (b h : List Int) (s : Int) : Prop where
 sound : Sound b h s
 fits : qAV h
 len : h.length = 16
end Go.Kk.Pl
namespace Go.Kk.Pl
theorem qTT {b c : List Int} (hb : b.length = 81) (hc : c.length = 81) (h : ∀ q, 0 <= q -> q < 81 -> at_ b q = at_ c q) : b = c := by
 refine List.ext_getElem (by rw [hb, hc]) fun j h1 h2 => ?_
 have := h j (by omega) (by omega)
 unfold at_ at this
 rw [if_pos (by omega), if_pos (by omega), Int.toNat_natCast, List.getD_eq_getElem?_getD, List.getD_eq_getElem?_getD, List.getElem?_eq_getElem h1, List.getElem?_eq_getElem h2] at this
 exact this
theorem qTt {b : List Int} (hc : Clean b) (q : Int) : (if kd (at_ b q) = 0 then 0 else at_ b q) = at_ b q := by
 rcases hc.at_ q with h | h
 ·rw [h]; rfl
 ·rw [if_neg h]
theorem qd0 {b : List Int} (hc : Clean b) {t : Int} (ht : 0 <= t /\ t < 81) (h0 : at_ b t = 0) (x : Int) : put (put b t x) t 0 = b := by
 refine qTT ((hc.put _ _).put _ _).len hc.len fun q q0 q1 => ?_
 rw [qDJ (hc.put _ _).len ht, qDJ hc.len ht]
 split
 ·rename_i e; subst e; rw [h0]; rfl
 ·rfl
theorem qd2 {b : List Int} (hc : Clean b) {f t : Int} (hf : 0 <= f /\ f < 81) (ht : 0 <= t /\ t < 81) (x : Int) : put (put (put (put b f 0) t x) t (at_ b t)) f (at_ b f) = b := by
 have c1 := hc.put f 0
 have c2 := c1.put t x
 have c3 := c2.put t (at_ b t)
 refine qTT (c3.put _ _).len hc.len fun q q0 q1 => ?_
 rw [qDJ c3.len hf, qDJ c2.len ht, qDJ c1.len ht, qDJ hc.len hf, qTt hc, qTt hc]
 split
 ·rename_i e; subst e; rfl
 ·split
  ·rename_i e; subst e; rfl
  ·rfl
theorem qOT {h : List Int} (hl : h.length = 16) {s k : Int} (hs : s = 0 \/ s = 1) (k0 : 0 <= k) (k1 : k < 8) {d : Int} (r0 : -128 <= hd_ h s k /\ hd_ h s k <= 127) (r1 : -128 <= hd_ h s k + d /\ hd_ h s k + d <= 127) :
  qw (qw h s k d) s k (-d) = h := by
 have e := qFD hl hs k0 k1 d hs k0 k1
 rw [if_pos ⟨rfl, rfl⟩, qFu r1.1 r1.2] at e
 rw [show qw (qw h s k d) s k (-d) = (qw h s k d).set (s.toNat * 8 + k.toNat) (IntKind.wrap .i8 (hd_ (qw h s k d) s k + -d)) from rfl, e, show hd_ h s k + d + -d = hd_ h s k by omega, qFu r0.1 r0.2]
 have hi : s.toNat * 8 + k.toNat < h.length := by rcases hs with rfl | rfl <;> simp <;> omega
 have hg : hd_ h s k = h[s.toNat * 8 + k.toNat] := by
  unfold hd_
  rw [List.getD_eq_getElem?_getD, List.getElem?_eq_getElem hi]
  rfl
 unfold qw
 rw [List.set_set, hg, List.set_getElem_self]
end Go.Kk.Pl
namespace Go.Kk.Pl
theorem qHJ {b : List Int} (hc : Clean b) (q x K : Int) (n : Nat) (h : List Int) (s : Int) (m : Nat) (st : List (List Int)) :
  qB4 q x K n b h s (qI b) (qO b) m st = some (qCM K b q x, n, put b q x, h, s, qI (put b q x), qO (put b q x), m, st) := by
 unfold qB4
 simp only [qCs, qA, qiG, qPg hc]
 rfl
theorem qhT {b : List Int} (hc : Clean b) (h : List Int) (s : Int) : qIv b h s = some (kof b h s, 0, b, h, s, qI b, qO b, 0, []) := by
 unfold qIv
 rw [qJD hc.len, qIr hc, qA]
 simp only
 rw [qV6, qA]
theorem qir {b : List Int} (hc : Clean b) (h : List Int) {s : Int} (hs : s = 0 \/ s = 1) (f t d : Int) (p : Bool) : ∃ c, (∀ K n m st, qD4 f t d p K n b h s (qI b) (qO b) m st = some c) /\
  ((c = false /\ ∀ K n m st, qDS f t d p K n b h s (qI b) (qO b) m st = some (.inl (false, K, n, b, h, s, qI b, qO b, m, st))) \/
   (c = true /\ CanP b h s f t d p /\ ∀ K n m st, (n + 1) * 40 <= 140737488355328 -> qDS f t d p K n b h s (qI b) (qO b) m st =
    some (.inr (true, qHY K b h s f t d p, n + 1, mb b s f t d p, mh b h s t d, 1 - s, qI (mb b s f t d p), qO (mb b s f t d p), n + 1, List.append (List.take n st) [[f, t, d, bi p, at_ b t, was b s f d]])))) := by
 obtain ⟨c, hcan, hP⟩ := qfO b h hs f t d p
 refine ⟨c, fun K n m st => hcan K n _ _ m st, ?_⟩
 cases c with
 | false =>
   refine .inl ⟨rfl, fun K n m st => ?_⟩
   unfold qDS
   rw [hcan, qA, qF (by rfl)]
 | true =>
   have hP := hP rfl
   refine .inr ⟨rfl, hP, fun K n m st hn => ?_⟩
   have hn' : decide ((n + 1) * 40 <= 140737488355328) = true := by simpa using hn
   unfold qDS
   rw [hcan, qA, qJ (by rfl), qCs, qA]
   by_cases hd : d = 0
   ·obtain ⟨f0, f1, f2, g1, g2, g3, g4⟩ := hP.move hd
    rw [qJ (by simpa using hd), qCs, qA]
    have hx : ∀ {α : Type} (k : Int -> Option α), (br p (ob (q9 (at_ b f)) fun a16 => ob (qCk a16) fun a17 => ob (qAh s a17) k) (k (at_ b f))) = k (laid b s f d p) := by
     intro α k
     unfold laid
     rw [if_neg (by simpa using hd)]
     cases p with
     | false => rfl
     | true =>
       obtain ⟨u1, u2, u3⟩ := qIX (g4 rfl)
       rw [qF rfl, qBP, qA, qJy, qA, qLK hs u1 u2 u3, qA, if_pos rfl]
    have p1 := qHJ hc f 0 K n h s m st
    have p2 := qHJ (hc.put f 0) t (laid b s f d p) (qCM K b f 0) n h s m st
    have tail : (br (at_ b t != 0)
      (ob (q9 (at_ b t)) fun a37 =>
      ob (qCj a37) fun a38 =>
      ob (qDT s a38 1 (qCM (qCM K b f 0) (put b f 0) t (laid b s f d p)) n (put (put b f 0) t (laid b s f d p)) h s (qI (put (put b f 0) t (laid b s f d p))) (qO (put (put b f 0) t (laid b s f d p))) m st) fun (a39_0, a39_1, a39_2, a39_3, a39_4, a39_5, a39_6, a39_7, a39_8) =>
      ob (qCa a39_0 a39_1 a39_2 a39_3 a39_4 a39_5 a39_6 a39_7 a39_8) fun (a48_0, a48_1, a48_2, a48_3, a48_4, a48_5, a48_6, _, a48_8) =>
      br (decide ((a48_1 + 1) * 40 <= 140737488355328))
       (some (Sum.inr (true, a48_0, a48_1 + 1, a48_2, a48_3, a48_4, a48_5, a48_6, a48_1 + 1, List.append (List.take a48_1 a48_8) [[f, t, d, bi p, at_ b t, at_ b f]])))
       (none))
      (ob (qCa (qCM (qCM K b f 0) (put b f 0) t (laid b s f d p)) n (put (put b f 0) t (laid b s f d p)) h s (qI (put (put b f 0) t (laid b s f d p))) (qO (put (put b f 0) t (laid b s f d p))) m st) fun (a37_0, a37_1, a37_2, a37_3, a37_4, a37_5, a37_6, _, a37_8) =>
      br (decide ((a37_1 + 1) * 40 <= 140737488355328))
       (some (Sum.inr (true, a37_0, a37_1 + 1, a37_2, a37_3, a37_4, a37_5, a37_6, a37_1 + 1, List.append (List.take a37_1 a37_8) [[f, t, d, bi p, at_ b t, at_ b f]])))
       (none)) : Option ((Bool × Int × Nat × List Int × List Int × Int × List (List Int) × List (List Int) × Nat × List (List Int)) ⊕ (Bool × Int × Nat × List Int × List Int × Int × List (List Int) × List (List Int) × Nat × List (List Int)))) =
      some (.inr (true, qHY K b h s f t d p, n + 1, mb b s f t d p, mh b h s t d, 1 - s, qI (mb b s f t d p), qO (mb b s f t d p), n + 1, List.append (List.take n st) [[f, t, d, bi p, at_ b t, was b s f d]])) := by
     unfold qHY mb mh was
     by_cases ht : at_ b t = 0
     ·rw [qJ (by simpa using ht), qKp hs, qA]
      simp only
      rw [qF hn']
      simp [hd, ht]
     ·have hk := (hc.at_ t).resolve_left ht
      obtain ⟨r1, r2⟩ := qIA hk g3
      obtain ⟨k1, k2, k3⟩ := qBo (at_ b t)
      rw [qF (by simpa using ht), qBP, qA, qPh k1 k2, qA, qKo hs r1 r2 1 (.inl rfl), qA]
      simp only
      rw [qKp hs, qA]
      simp only
      rw [qF hn']
      simp [hd, ht]
    refine Eq.trans ?_ tail
    cases p with
    | true =>
      have hx := hx (fun a18 => ob (qB4 f 0 K n b h s (qI b) (qO b) m st) fun (a19_0, a19_1, a19_2, a19_3, a19_4, a19_5, a19_6, a19_7, a19_8) =>
       ob (qB4 t a18 a19_0 a19_1 a19_2 a19_3 a19_4 a19_5 a19_6 a19_7 a19_8) fun r => some r)
      rw [qF rfl] at hx ⊢
      obtain ⟨u1, u2, u3⟩ := qIX (g4 rfl)
      have hl : laid b s f d true = 16 * s + up_ (kd (at_ b f)) := by unfold laid; rw [if_neg (by simpa using hd), if_pos rfl]
      rw [qBP, qA, qJy, qA, qLK hs u1 u2 u3, qA, p1, qA]
      simp only
      rw [<- hl, p2, qA]
    | false =>
      have hl : laid b s f d false = at_ b f := by unfold laid; rw [if_neg (by simpa using hd), if_neg (by simp)]
      rw [qJ rfl, p1, qA]
      simp only
      rw [hl] at p2 ⊢
      rw [p2, qA]
   ·obtain ⟨d0, d1, d2, d3, g1, g2⟩ := hP.drop hd
    have hl : laid b s f d p = 16 * s + d := by unfold laid; rw [if_pos hd]
    have e1 : qAh s d = some (laid b s f d p) := by rw [hl]; exact qLK hs (by omega) (by omega) (by omega)
    have p1 := qHJ hc t (laid b s f d p) (qFI K h s d (-1)) n (qw h s d (-1)) s m st
    rw [qF (by simpa using hd), e1, qA, qKo hs (by omega) d1 (-1) (.inr rfl), qA]
    simp only
    rw [p1, qA]
    simp only
    rw [qKp hs, qA]
    simp only
    rw [qF hn']
    unfold qHY mb mh was
    simp only [if_pos hd, hl]
theorem qVy {h : List Int} (hl : h.length = 16) {s k : Int} (hs : s = 0 \/ s = 1) (k0 : 0 <= k) (k1 : k < 8) {d : Int} (b : List Int) (S : Int) (r0 : -128 <= hd_ h s k /\ hd_ h s k <= 127) (r1 : -128 <= hd_ h s k + d /\ hd_ h s k + d <= 127) :
  qFI (un (qAS b (qw h s k d) S)) (qw h s k d) s k (-d) = un (qAS b h S) := by
 have e := qFD hl hs k0 k1 d hs k0 k1
 rw [if_pos ⟨rfl, rfl⟩, qFu r1.1 r1.2] at e
 rw [qOm (by rw [qOU, hl]) hs k0 k1 b S (by omega) (by omega), qOT hl hs k0 k1 r0 r1]
theorem qd1 {b h : List Int} {s : Int} (hg : Going b h s) {f t d : Int} {p : Bool} (hP : CanP b h s f t d p) (n : Nat) (hn : n <= 1000) (m : Nat) (st : List (List Int))
  (hst : st.getD n [] = [f, t, d, bi p, at_ b t, was b s f d]) :
  qE5 (un (qAS (mb b s f t d p) (mh b h s t d) (1 - s))) (n + 1) (mb b s f t d p) (mh b h s t d) (1 - s) (qI (mb b s f t d p)) (qO (mb b s f t d p)) m st = some (true, un (qAS b h s), n, b, h, s, qI b, qO b, m, st) := by
 have hS := hg.sound
 have hs' : 1 - s = 0 \/ 1 - s = 1 := by have := hS.side; omega
 unfold qE5
 have e1 : IntKind.wrap .i64 (Int.ofNat (n + 1) - 1) = (n : Int) := by
  have : Int.ofNat (n + 1) = (n : Int) + 1 := rfl
  rw [this, qAK (by omega) (by omega)]
  omega
 rw [qJ (by simp; omega), e1, qF (qAL (by omega) (by omega)), qF (qhb (by omega) (by omega)), qKp hs', qA, qK0 hs', show (1 : Int) - (1 - s) = s by omega]
 simp only [Int.toNat_natCast, hst, Nat.sub_zero]
 simp only [List.take_succ_cons, List.take_zero, List.headD_cons, List.tail_cons]
 by_cases hd : d = 0
 ·obtain ⟨f0, f1, f2, g1, g2, g3, g4⟩ := hP.move hd
  have hw : was b s f d = at_ b f := by unfold was; rw [if_neg (by simpa using hd)]
  have hmb : mb b s f t d p = put (put b f 0) t (laid b s f d p) := by unfold mb; rw [if_neg (by simpa using hd)]
  rw [qJ (by simpa using hd), hw, hmb]
  have p1 := qHJ ((hS.clean.put f 0).put t (laid b s f d p)) t (at_ b t) (un (qAS (put (put b f 0) t (laid b s f d p)) (mh b h s t d) s)) n (mh b h s t d) s m st
  rw [qHM ((hS.clean.put f 0).put t (laid b s f d p)).len hP.to_] at p1
  have p2 := qHJ (((hS.clean.put f 0).put t (laid b s f d p)).put t (at_ b t)) f (at_ b f) (un (qAS (put (put (put b f 0) t (laid b s f d p)) t (at_ b t)) (mh b h s t d) s)) n (mh b h s t d) s m st
  rw [qHM (((hS.clean.put f 0).put t (laid b s f d p)).put t (at_ b t)).len ⟨f0, f1⟩] at p2
  rw [qd2 hS.clean ⟨f0, f1⟩ hP.to_] at p2
  rw [p1, qA]
  simp only
  rw [p2, qA]
  simp only
  by_cases ht : at_ b t = 0
  ·have hmh : mh b h s t d = h := by unfold mh; rw [if_neg (by simpa using hd), if_pos ht]
   rw [qJ (by simpa using ht), hmh]
  ·have hk := (hS.clean.at_ t).resolve_left ht
   obtain ⟨r1, r2⟩ := qIA hk g3
   obtain ⟨k1, k2, k3⟩ := qBo (at_ b t)
   have hc := hS.counts _ r1 r2
   have h0 := hS.hands (rw_ (kd (at_ b t))) (by omega) r2
   have hsd := hS.side
   have hmh : mh b h s t d = qw h s (rw_ (kd (at_ b t))) 1 := by unfold mh; rw [if_neg (by simpa using hd), if_neg ht]
   rw [qF (by simpa using ht), qBP, qA, qPh k1 k2, qA, qKo hS.side r1 r2 (-1) (.inr rfl), qA, hmh,
    qOT hg.len hS.side (by omega) r2 (qG6 hg.fits _ _) (by rcases hsd with rfl | rfl <;> constructor <;> omega),
    qVy hg.len hS.side (by omega) r2 _ _ (qG6 hg.fits _ _) (by rcases hsd with rfl | rfl <;> constructor <;> omega)]
 ·obtain ⟨d0, d1, d2, d3, g1, g2⟩ := hP.drop hd
  have hmb : mb b s f t d p = put b t (laid b s f d p) := by unfold mb; rw [if_pos hd]
  have hmh : mh b h s t d = qw h s d (-1) := by unfold mh; rw [if_pos hd]
  have hb := qG6 hg.fits s d
  have p1 := qHJ (hS.clean.put t (laid b s f d p)) t 0 (un (qAS (put b t (laid b s f d p)) (mh b h s t d) s)) n (mh b h s t d) s m st
  rw [qHM (hS.clean.put t (laid b s f d p)).len hP.to_] at p1
  rw [qd0 hS.clean hP.to_ g2] at p1
  rw [qF (by simpa using hd), hmb, p1, qA]
  simp only
  have hbk : qw (qw h s d (-1)) s d 1 = h := qOT hg.len hS.side (by omega) d1 (d := -1) hb (by constructor <;> omega)
  rw [qKo hS.side (by omega) d1 1 (.inl rfl), qA, hmh]
  have hky : qFI (un (qAS b (qw h s d (-1)) s)) (qw h s d (-1)) s d 1 = un (qAS b h s) := qVy hg.len hS.side (by omega) d1 (d := -1) _ _ hb (by constructor <;> omega)
  rw [hbk, hky]
end Go.Kk.Pl
namespace Go.Kk.Pl
structure PosP (b h : List Int) (s : Int) : Prop where
 len : b.length = 81
 fits : qAV h
 hlen : h.length = 16
 zero : qDK b h s = 0
theorem PosP.clean {b h : List Int} {s : Int} (hp : PosP b h s) : Clean b := (qGM hp.len hp.zero).1
theorem PosP.side {b h : List Int} {s : Int} (hp : PosP b h s) : s = 0 \/ s = 1 := (qGM hp.len hp.zero).2.1
theorem PosP.going {b h : List Int} {s : Int} (hp : PosP b h s) : Going b h s := ⟨qbz hp.len hp.fits (qSB hp.zero), hp.fits, hp.hlen⟩
theorem PosP.after {b h : List Int} {s : Int} (hp : PosP b h s) {m : List Int} (hm : m ∈ lgL b h s) : PosP (mbM b s m) (mhM b h s m) (1 - s) := by
 obtain ⟨hc, hs, hno, k, k', hk, hk'⟩ := qGM hp.len hp.zero
 obtain ⟨_, hm2, _, hm4⟩ := qWR hc hs hno hk hk' hm
 have hsafe : inC (mb b s (m0 m) (m1 m) (m2 m) (m3 m)) s = false := by simpa [qBh, mbM] using hm4
 exact ⟨(qO9 hc _ _ _ _ _).1, qi0 hp.fits _ _ _ _, qi1 hp.hlen _ _ _ _, qdZ hp.len hp.fits hp.hlen (qSB hp.zero) hm2 hsafe⟩
theorem PosP.stuck {b h : List Int} {s : Int} (hp : PosP b h s) : qHX b h s (qI b) (qO b) = some (decide ((lgL b h s).length = 0), b, h, s, qI b, qO b) := by
 obtain ⟨hc, hs, hno, k, k', hk, hk'⟩ := qGM hp.len hp.zero
 exact qpl hc h hs hk hk'
theorem PosP.lists {b h : List Int} {s : Int} (hp : PosP b h s) : lgL b h s = rlL b h s := by
 obtain ⟨hc, hs, hno, k, k', hk, hk'⟩ := qGM hp.len hp.zero
 exact qWZ hc h hs hno hk hk'
theorem PosP.all {b h : List Int} {s : Int} (hp : PosP b h s) : qD9 b h s (qI b) (qO b) = some ((lgL b h s).length, b, h, s, qI b, qO b, (lgL b h s).length, lgL b h s) := by
 obtain ⟨hc, hs, hno, k, k', hk, hk'⟩ := qGM hp.len hp.zero
 exact qV8 hc h hs hk hk'
theorem PosP.full {b h : List Int} {s : Int} (hp : PosP b h s) {m : List Int} (hm : m ∈ lgL b h s) : Mv4 m /\ qAE b h s (m0 m) (m1 m) (m2 m) (m3 m) = true := by
 obtain ⟨hc, hs, hno, k, k', hk, hk'⟩ := qGM hp.len hp.zero
 have := qWR hc hs hno hk hk' hm
 exact ⟨this.1, this.2.1⟩
theorem qK2 (n : Nat) : (Int.ofNat n == 0) = decide (n = 0) := by
 rw [Bool.eq_iff_iff, decide_eq_true_eq, beq_iff_eq]
 exact ⟨fun h => by simpa using h, fun h => by rw [h]; rfl⟩
end Go.Kk.Pl
namespace Go.Kk.Pl
end Go.Kk.Pl
namespace Go.Kk.Pl
end Go.Kk.Pl
namespace Go.Kk.Pl
end Go.Kk.Pl
namespace Go.Kk.Pl
theorem qic {b h : List Int} {s : Int} (hp : PosP b h s) : (lgL b h s).Nodup := by
 rw [hp.lists]
 exact (qjU b h s).sublist List.filter_sublist
end Go.Kk.Pl
namespace Go.Kk.Pl
def sqL (q : Nat) : List UInt8 := [UInt8.ofNat (49 + q / 9), UInt8.ofNat (97 + q % 9)]
def ltr (d : Nat) : UInt8 := [0, 80, 76, 78, 83, 71, 66, 82].getD d 0
def txL (f t d : Nat) (p : Bool) : List UInt8 := if d ≠ 0 then [ltr d, 42] ++ sqL t else sqL f ++ sqL t ++ (if p then [43] else [])
def bts (l : List UInt8) : ByteArray := { data := { toList := l } }
def qBF (l : List UInt8) : List Int := l.map fun x => Int.ofNat x.toNat
theorem qRN : ∀ q, q < 81 -> qFO (Int.ofNat q) = some (bts (sqL q)) := by decide +kernel
theorem qb1 : ∀ q, q < 81 -> qEF (Int.ofNat (UInt8.ofNat (49 + q / 9)).toNat) (Int.ofNat (UInt8.ofNat (97 + q % 9)).toNat) = some (Int.ofNat q, true) := by decide +kernel
theorem qb0 : ∀ q, q < 81 -> (UInt8.ofNat (49 + q / 9)).toNat < 128 /\ (UInt8.ofNat (97 + q % 9)).toNat < 128 /\ (UInt8.ofNat (97 + q % 9)).toNat ≠ 42 := by decide +kernel
theorem qWe : ∀ d, d < 8 -> d ≠ 0 -> qAh 0 (Int.ofNat d) = some (Int.ofNat d) /\ qLU (Int.ofNat d) = some (bts [ltr d]) /\ (ltr d).toNat < 128 /\ qJI (Int.ofNat (ltr d).toNat) false = some (Int.ofNat d) /\ qAM (Int.ofNat d) = some 0 /\ (Int.ofNat d == 8) = false := by decide +kernel
theorem qfz {s : ByteArray} {i : Nat} (h : (s.get! i).toNat < 128) : Utf8.decode s i = ((s.get! i).toNat, 1) := by
 unfold Utf8.decode
 simp only [Nat.add_zero]
 rw [if_pos h]
theorem qVP {l : List UInt8} {i : Nat} (hi : i < l.length) : (bts l).get! i = l[i] := by
 show (Array.mk l)[i]! = l[i]
 rw [getElem!_pos _ _ (by simpa using hi)]
 rfl
theorem qke (l : List UInt8) (hl : l.length <= 5) (h : ∀ x ∈ l, x.toNat < 128) : ∀ (n i : Nat), i + n = l.length -> ∀ F,
  qEE (F + n + 1) i 0 0 0 false i (qBF (l.take i)) (bts l) i = some (l.length, 0, 0, 0, false, l.length, qBF l) := by
 intro n
 induction n with
 | zero =>
   intro i hi F
   show qHZ (qEE (F + 0)) _ _ _ _ _ _ _ _ _ = _
   unfold qHZ
   have e : (bts l).size = l.length := rfl
   rw [e, qJ (by rw [Bool.eq_false_iff, ne_eq, Nat.blt_eq]; omega), List.take_of_length_le (by omega), show i = l.length by omega]
 | succ n ih =>
   intro i hi F
   show qHZ (qEE (F + n + 1)) _ _ _ _ _ _ _ _ _ = _
   unfold qHZ
   have e : (bts l).size = l.length := rfl
   have hil : i < l.length := by omega
   have hd : Utf8.decode (bts l) i = (l[i].toNat, 1) := by
    rw [qfz (by rw [qVP hil]; exact h _ (List.getElem_mem hil)), qVP hil]
   have h6 : (Int.ofNat i == 6) = false := by rw [beq_eq_false_iff_ne]; simp only [Int.ofNat_eq_natCast]; omega
   rw [e, qF (by rw [Nat.blt_eq]; omega), qJ h6, qCG (by omega)]
   unfold qD3 qCx
   rw [hd]
   have e2 : List.append (List.take i (qBF (List.take i l))) [Int.ofNat l[i].toNat] = qBF (l.take (i + 1)) := by
    unfold qBF
    rw [List.take_of_length_le (by simp; omega), List.append_eq]
    rw [List.take_succ_eq_append_getElem hil, List.map_append]
    rfl
   show qEE (F + n + 1) (i + 1) 0 0 0 false (i + 1) (List.append (List.take i (qBF (List.take i l))) [Int.ofNat l[i].toNat]) (bts l) (i + 1) = _
   rw [e2]
   exact ih (i + 1) (by omega) F
theorem qPY (l : List UInt8) (hl : l.length <= 5) (h : ∀ x ∈ l, x.toNat < 128) : qEE qC 0 0 0 0 false 0 [] (bts l) 0 = some (l.length, 0, 0, 0, false, l.length, qBF l) := by
 obtain ⟨g, hg⟩ := qe l.length (by omega)
 have := qke l hl h l.length 0 (by omega) g
 rw [<- hg] at this
 exact this
theorem qRb {l : List UInt8} (h : l.length <= 1000) : decide (Int.ofNat (bts l).size <= qEf) = true := by
 rw [decide_eq_true_eq]
 unfold qEf
 show ((l.length : Nat) : Int) <= _
 omega
structure Nmd (f t d : Nat) (p : Bool) : Prop where
 to_ : t < 81
 drop : d ≠ 0 -> d < 8 /\ f = 0 /\ p = false
 move : d = 0 -> f < 81 /\ f ≠ t
theorem qIy {n : Nat} (h : n <= 1000) : qEg n = true := by rw [qcb]; unfold qEf; simp only [Int.ofNat_eq_natCast]; omega
theorem qfU {f t d : Nat} {p : Bool} (h : Nmd f t d p) : qDc (Int.ofNat f) (Int.ofNat t) (Int.ofNat d) p = some 0 := by
 have := h.to_
 unfold qDc
 simp only [Int.ofNat_eq_natCast]
 rw [qW (by omega), qJ (by simp; omega)]
 by_cases hd : d = 0
 ·obtain ⟨h1, h2⟩ := h.move hd
  have e : ((f : Int) == (t : Int)) = false := by rw [beq_eq_false_iff_ne]; omega
  rw [qJ (by simp [hd]), qW (by omega), qJ (by simp; omega), qJ e]
 ·obtain ⟨h1, h2, h3⟩ := h.drop hd
  subst h2 h3
  rw [qF (by simp; omega), qW (by omega), qJ (by simp; omega), qJ (by simp), qJ rfl]
theorem qps {f t d : Nat} {p : Bool} (h : Nmd f t d p) : qHa (Int.ofNat f) (Int.ofNat t) (Int.ofNat d) p = some (bts (txL f t d p)) := by
 unfold qHa txL
 rw [qfU h, qA, qJ (by rfl)]
 by_cases hd : d = 0
 ·obtain ⟨h1, h2⟩ := h.move hd
  subst hd
  rw [qJ (by rfl), qRN f h1, qRN t h.to_, if_neg (by simp)]
  simp only [qA]
  cases p with
  | true =>
    rw [b_t, qF (qIy (by show 4 <= 1000; omega)), qF (qIy (by show 5 <= 1000; omega))]
    rfl
  | false =>
    rw [b_f, qF (qIy (by show 4 <= 1000; omega))]
    simp only [Bool.false_eq_true, if_false, List.append_nil]
    rfl
 ·obtain ⟨h1, h2, h3⟩ := h.drop hd
  obtain ⟨e1, e2, e3, e4, e5, e6⟩ := qWe d h1 hd
  rw [qF (by simp; omega), e1, qA, e2, qA, qF (qIy (by show 2 <= 1000; omega)), qRN t h.to_, qA, qF (qIy (by show 4 <= 1000; omega)), if_pos hd]
  rfl
theorem qkf {f t d : Nat} {p : Bool} (h : Nmd f t d p) : qFN (bts (txL f t d p)) = some (Int.ofNat f, Int.ofNat t, Int.ofNat d, p, 0) := by
 have st := qb1 t h.to_
 have at_ := qb0 t h.to_
 by_cases hd : d = 0
 ·obtain ⟨h1, h2⟩ := h.move hd
  have sf := qb1 f h1
  have af := qb0 f h1
  have e42 : (Int.ofNat (UInt8.ofNat (97 + f % 9)).toNat == 42) = false := by rw [beq_eq_false_iff_ne]; intro e; exact af.2.2 (by injection e)
  have eft : (Int.ofNat f == Int.ofNat t) = false := by rw [beq_eq_false_iff_ne]; intro e; exact h2 (by injection e)
  subst hd
  unfold txL
  rw [if_neg (by simp)]
  cases p with
  | true =>
    have hl : ∀ x ∈ (sqL f ++ sqL t ++ (if true = true then [43] else []) : List UInt8), x.toNat < 128 := by
     intro x hx
     simp only [if_true, sqL, List.cons_append, List.nil_append, List.mem_cons, List.not_mem_nil, or_false] at hx
     rcases hx with rfl | rfl | rfl | rfl | rfl
     ·exact af.1
     ·exact af.2.1
     ·exact at_.1
     ·exact at_.2.1
     ·decide
    unfold qFN
    rw [qF (qRb (by simp [sqL])), qPY _ (by simp [sqL]) hl, qA]
    simp only [if_true, sqL, List.cons_append, List.nil_append, qBF, List.map_cons, List.map_nil, List.length_cons, List.length_nil, List.getD_cons_zero, List.getD_cons_succ]
    rw [qF (by rfl), qJ (by rfl), qF (by rfl), qJ e42, qF (by rfl), qF (by rfl), sf, qA]
    simp only
    rw [qF (by rfl), qF (by rfl), st, qA]
    simp only
    rw [qJ (by rfl), qJ (by rfl), qJ eft, qF (by rfl), qF (by rfl), qJ (by rfl)]
    rfl
  | false =>
    have hl : ∀ x ∈ (sqL f ++ sqL t ++ (if false = true then [43] else []) : List UInt8), x.toNat < 128 := by
     intro x hx
     simp only [Bool.false_eq_true, if_false, sqL, List.cons_append, List.nil_append, List.mem_cons, List.not_mem_nil, or_false] at hx
     rcases hx with rfl | rfl | rfl | rfl
     ·exact af.1
     ·exact af.2.1
     ·exact at_.1
     ·exact at_.2.1
    unfold qFN
    rw [qF (qRb (by simp [sqL])), qPY _ (by simp [sqL]) hl, qA]
    simp only [Bool.false_eq_true, if_false, sqL, List.cons_append, List.nil_append, qBF, List.map_cons, List.map_nil, List.length_cons, List.length_nil, List.getD_cons_zero, List.getD_cons_succ]
    rw [qJ (by rfl), qF (by rfl), qJ e42, qF (by rfl), qF (by rfl), sf, qA]
    simp only
    rw [qF (by rfl), qF (by rfl), st, qA]
    simp only
    rw [qJ (by rfl), qJ (by rfl), qJ eft, qJ (by rfl)]
    rfl
 ·obtain ⟨h1, h2, h3⟩ := h.drop hd
  obtain ⟨e1, e2, e3, e4, e5, e6⟩ := qWe d h1 hd
  subst h2 h3
  unfold txL
  rw [if_pos hd]
  have hl : ∀ x ∈ ([ltr d, 42] ++ sqL t : List UInt8), x.toNat < 128 := by
   intro x hx
   simp only [sqL, List.cons_append, List.nil_append, List.mem_cons, List.not_mem_nil, or_false] at hx
   rcases hx with rfl | rfl | rfl | rfl
   ·exact e3
   ·decide
   ·exact at_.1
   ·exact at_.2.1
  unfold qFN
  rw [qF (qRb (by simp [sqL])), qPY _ (by simp [sqL]) hl, qA]
  simp only [sqL, List.cons_append, List.nil_append, qBF, List.map_cons, List.map_nil, List.length_cons, List.length_nil, List.getD_cons_zero, List.getD_cons_succ]
  rw [qJ (by rfl), qF (by rfl), qF (by rfl), qF (by rfl), e4, qA, qF (by rfl), qF (by rfl), st, qA]
  simp only
  rw [e5, qA, qJ (by rfl), qJ e6, qJ (by rfl), qJ (by rfl)]
  rfl
end Go.Kk.Pl
namespace Go.Kk.Pl
def qIP : List Int := [18, 0, 17, 0, 0, 0, 1, 0, 2, 19, 22, 17, 0, 0, 0, 1, 7, 3, 20, 0, 17, 0, 0, 0, 1, 0, 4, 21, 0, 17, 0, 0, 0, 1, 0, 5, 24, 0, 17, 0, 0, 0, 1, 0, 8, 21, 0, 17, 0, 0, 0, 1, 0, 5, 20, 0, 17, 0, 0, 0, 1, 0, 4, 19, 23, 17, 0, 0, 0, 1, 6, 3, 18, 0, 17, 0, 0, 0, 1, 0, 2]
def qDD : List Int := [0, 0, 0, 0, 0, 0, 0, 0, 0, 0, 0, 0, 0, 0, 0, 0]
theorem qpE : qIi = some (qIP, qDD, 0) := by kernel_rfl
end Go.Kk.Pl
namespace Go.Kk.Pl
def tx (m : List Int) : ByteArray := bts (txL (m0 m).toNat (m1 m).toNat (m2 m).toNat (m3 m))
theorem qXN {b h : List Int} {s f t d : Int} {p : Bool} (hP : CanP b h s f t d p) : f = Int.ofNat f.toNat /\ t = Int.ofNat t.toNat /\ d = Int.ofNat d.toNat /\ Nmd f.toNat t.toNat d.toNat p := by
 have ht := hP.to_
 simp only [Int.ofNat_eq_natCast]
 by_cases hd : d = 0
 ·obtain ⟨h1, h2, h3, _⟩ := hP.move hd
  exact ⟨by omega, by omega, by omega, by omega, fun h => by omega, fun _ => ⟨by omega, by omega⟩⟩
 ·obtain ⟨h1, h2, h3, h4, _⟩ := hP.drop hd
  exact ⟨by omega, by omega, by omega, by omega, fun _ => ⟨by omega, by omega, h4⟩, fun h => by omega⟩
theorem PosP.canP {b h : List Int} {s : Int} (hp : PosP b h s) {m : List Int} (hm : m ∈ lgL b h s) : CanP b h s (m0 m) (m1 m) (m2 m) (m3 m) := (qFM (hp.full hm).2).2
theorem PosP.text {b h : List Int} {s : Int} (hp : PosP b h s) {m : List Int} (hm : m ∈ lgL b h s) : qHa (m0 m) (m1 m) (m2 m) (m3 m) = some (tx m) := by
 obtain ⟨e1, e2, e3, hn⟩ := qXN (hp.canP hm)
 have := qps hn
 rw [<- e1, <- e2, <- e3] at this
 exact this
theorem PosP.parse {b h : List Int} {s : Int} (hp : PosP b h s) {m : List Int} (hm : m ∈ lgL b h s) : qFN (tx m) = some (m0 m, m1 m, m2 m, m3 m, 0) := by
 obtain ⟨e1, e2, e3, hn⟩ := qXN (hp.canP hm)
 have := qkf hn
 rw [<- e1, <- e2, <- e3] at this
 exact this
theorem PosP.apart {b h : List Int} {s : Int} (hp : PosP b h s) {m m' : List Int} (hm : m ∈ lgL b h s) (hm' : m' ∈ lgL b h s) (e : qAR (tx m) = qAR (tx m')) : m = m' := by
 have e : tx m = tx m' := by rw [<- qE4 (tx m), e, qE4]
 have h1 := hp.parse hm
 rw [e, hp.parse hm'] at h1
 simp only [Option.some.injEq, Prod.mk.injEq, and_true] at h1
 obtain ⟨a, b, c, d⟩ := h1
 rw [(hp.full hm).1.1, (hp.full hm').1.1, a, b, c, d]
theorem qpp {A : List (List Int)} {B : List (List Int)} {n j : Nat} (e : B.take n = A.take n) (hj : j < n) : B.getD j [] = A.getD j [] := by
 have h1 : ∀ X : List (List Int), (X.take n).getD j [] = X.getD j [] := by
  intro X
  rw [List.getD_eq_getElem?_getD, List.getD_eq_getElem?_getD, List.getElem?_take_of_lt hj]
 rw [<- h1 B, <- h1 A, e]
theorem qXO {A : List (List Int)} {n : Nat} (hn : n <= A.length) (e : List Int) : (List.append (List.take n A) [e]).getD n [] = e := by
 rw [List.append_eq, List.getD_eq_getElem?_getD, List.getElem?_append_right (by simp; omega)]
 simp [Nat.min_eq_left hn]
theorem qXQ {A : List (List Int)} {n : Nat} (hn : n <= A.length) (e : List Int) : (List.append (List.take n A) [e]).take n = A.take n := by
 rw [List.append_eq, List.take_append_of_le_length (by simp; omega), List.take_take, Nat.min_self]
theorem qXP {A : List (List Int)} {n : Nat} (hn : n <= A.length) (e : List Int) : (List.append (List.take n A) [e]).length = n + 1 := by
 rw [List.append_eq, List.length_append, List.length_take]
 simp; omega
def qLH (b : List Int) (s : Int) (m : List Int) : List Int := [m0 m, m1 m, m2 m, bi (m3 m), at_ b (m1 m), was b s (m0 m) (m2 m)]
theorem PosP.make {b h : List Int} {s : Int} (hp : PosP b h s) {m : List Int} (hm : m ∈ lgL b h s) (n : Nat) (hn : n <= 1000) (x : Nat) (st : List (List Int)) :
  qDS (m0 m) (m1 m) (m2 m) (m3 m) (kof b h s) n b h s (qI b) (qO b) x st =
   some (.inr (true, kof (mbM b s m) (mhM b h s m) (1 - s), n + 1, mbM b s m, mhM b h s m, 1 - s, qI (mbM b s m), qO (mbM b s m), n + 1, List.append (List.take n st) [qLH b s m])) := by
 obtain ⟨c, hcan, hmk⟩ := qir hp.clean h hp.side (m0 m) (m1 m) (m2 m) (m3 m)
 have e : qB2 b h s (m0 m) (m1 m) (m2 m) (m3 m) = c := Option.some.inj ((qfN b h hp.side (m0 m) (m1 m) (m2 m) (m3 m) 0 0 (qI b) (qO b) 0 []).symm.trans (hcan 0 0 0 []))
 rw [qi5 (hp.full hm).2] at e
 rcases hmk with ⟨h1, _⟩ | ⟨_, hP, hmk⟩
 ·rw [h1] at e; cases e
 ·rw [hmk _ _ _ _ (by omega), qi3 hp.going.sound hp.going.fits hp.going.len hP]
  rfl
theorem PosP.back {b h : List Int} {s : Int} (hp : PosP b h s) {m : List Int} (hm : m ∈ lgL b h s) (n : Nat) (hn : n <= 1000) (x : Nat) (st : List (List Int)) (hst : st.getD n [] = qLH b s m) :
  qE5 (kof (mbM b s m) (mhM b h s m) (1 - s)) (n + 1) (mbM b s m) (mhM b h s m) (1 - s) (qI (mbM b s m)) (qO (mbM b s m)) x st = some (true, kof b h s, n, b, h, s, qI b, qO b, x, st) := by
 rw [qKw, qKw]
 exact qd1 hp.going (hp.canP hm) n hn x st hst
theorem qja {b h : List Int} {s : Int} (hp : PosP b h s) (pk : Int) (x3 : Nat) (x4 x5 : Int) (x9 : Nat) (x10 x11 x12 : List Int) (x13 : Int) (n : Nat) (hn : n <= 1000) (x19 x21 x24 : Nat) (x25 : List Int) : ∀ (k i : Nat), i + k = (lgL b h s).length ->
  ∀ (es : List (List Int × List Int)), (∀ j, i <= j -> (hj : j < (lgL b h s).length) -> qAe es [qAR (tx (lgL b h s)[j])] [0] = [0]) -> ∀ (x : Nat) (st : List (List Int)), n <= st.length -> ∀ F, ∃ x' st', st'.take n = st.take n /\ n <= st'.length /\
    qDr (F + k + 1) pk (lgL b h s).length (lgL b h s).length x3 x4 x5 (lgL b h s).length (lgL b h s).length i x9 x10 x11 x12 x13 (kof b h s) n b h s x19 (lgL b h s) x21 (lgL b h s) es x24 x25 b h s (qI b) (qO b) x st =
     some (.inr (pk, (lgL b h s).length, x3, x4, x5, x9, x10, x11, x12, x13, kof b h s, n, x19, lgL b h s, x24, x25, b, h, s, qI b, qO b, x', st')) := by
 have hlen := qWS b h s
 have hnd := qic hp
 intro k
 induction k with
 | zero =>
   intro i hi es _ x st hst F
   refine ⟨x, st, rfl, hst, ?_⟩
   rw [qDr.eq_2]
   unfold qMY
   rw [qW (by omega)]
 | succ k ih =>
   intro i hi es hes x st hst F
   have hil : i < (lgL b h s).length := by omega
   have hm : (lgL b h s)[i] ∈ lgL b h s := List.getElem_mem hil
   have hp2 := hp.after hm
   have hes2 : ∀ j, i + 1 <= j -> (hj : j < (lgL b h s).length) -> qAe (q8 es [qAR (tx (lgL b h s)[i])] [1]) [qAR (tx (lgL b h s)[j])] [0] = [0] := by
    intro j hj1 hj
    rw [qVO, if_neg, hes j (by omega) hj]
    intro e
    have e := hp.apart (List.getElem_mem hj) hm (by injection e)
    have := (List.getElem_inj hnd).mp e
    omega
   obtain ⟨x', st', e1, e2, e3⟩ := ih (i + 1) (by omega) _ hes2 (n + 1) (List.append (List.take n st) [qLH b s (lgL b h s)[i]]) (by rw [qXP hst]; omega) F
   refine ⟨x', st', by rw [e1, qXQ hst], e2, ?_⟩
   refine Eq.trans ?_ e3
   rw [qDr.eq_2]
   unfold qMY
   rw [qd (by omega), qa (by omega) (by omega), tn, atL hil]
   simp only [hdM]
   rw [hp.text hm, qA, hp.parse hm, qA]
   simp only [beq_self_eq_true, Bool.and_self, Bool.not_true, b_f, bne_self_eq_false, hes i (by omega) hil, List.headD_cons]
   rw [qa (by omega) (by omega), hp.make hm n hn, qA, qAp]
   simp only [Bool.not_true, b_f]
   rw [qMn hp2.len hp2.fits, hp2.zero, qA]
   simp only [bne_self_eq_false, b_f]
   unfold qIu
   rw [qA, qV6, qA]
   simp only [bne_self_eq_false, b_f]
   rw [hp.back hm n hn _ _ (qXO hst _), qA]
   simp only [beq_self_eq_true, Bool.and_self, Bool.not_true, b_f]
   rw [w_s (n := (i : Int) + 1) (by omega) (by omega)]
   rfl
inductive Hist (b0 h0 : List Int) (s0 : Int) : Nat -> List (List Int) -> List Int -> List Int -> Int -> Prop
 | zero (st : List (List Int)) : Hist b0 h0 s0 0 st b0 h0 s0
 | succ {n : Nat} {st : List (List Int)} {b h : List Int} {s : Int} {m : List Int} (hh : Hist b0 h0 s0 n st b h s) (hp : PosP b h s) (hm : m ∈ lgL b h s) (hst : st.getD n [] = qLH b s m) :
   Hist b0 h0 s0 (n + 1) st (mbM b s m) (mhM b h s m) (1 - s)
theorem Hist.congr {b0 h0 : List Int} {s0 : Int} {n : Nat} {st : List (List Int)} {b h : List Int} {s : Int} (hh : Hist b0 h0 s0 n st b h s) : ∀ {st' : List (List Int)}, st'.take n = st.take n -> Hist b0 h0 s0 n st' b h s := by
 induction hh with
 | zero st => intro st' _; exact .zero st'
 | @succ n st b h s m hh hp hm hst ih =>
   intro st' e
   have e' : st'.take n = st.take n := by
    have := congrArg (List.take n) e
    rwa [List.take_take, List.take_take, Nat.min_eq_left (by omega)] at this
   exact .succ (ih e') hp hm (by rw [qpp e (by omega), hst])
theorem qqF {b0 h0 : List Int} {s0 : Int} {n : Nat} {st : List (List Int)} {b h : List Int} {s : Int} (hh : Hist b0 h0 s0 n st b h s) : n <= 1000 -> ∀ (x0 : Nat) (x1 x2 x3 : List Int) (x4 : Int) (x : Nat) F,
  qIV (F + n + 1) x0 x1 x2 x3 x4 (kof b h s) n b h s (qI b) (qO b) x st = some (x0, x1, x2, x3, x4, kof b0 h0 s0, 0, b0, h0, s0, qI b0, qO b0, x, st) := by
 induction hh with
 | zero st => intro _ x0 x1 x2 x3 x4 x F; rfl
 | @succ n st b h s m hh hp hm hst ih =>
   intro hn x0 x1 x2 x3 x4 x F
   rw [qIV.eq_2]
   unfold qRm
   rw [hp.back hm n (by omega) _ _ hst, qA]
   exact ih (by omega) x0 x1 x2 x3 x4 x F
theorem qp8 {b0 h0 : List Int} {s0 : Int} (N : Nat) (hN : N <= 100) (x3 : Nat) (x4 pks : List Int) : ∀ (k i : Nat), i + k = N -> ∀ (n : Nat) (b h : List Int) (s : Int) (x : Nat) (st : List (List Int)), PosP b h s -> n <= i -> Hist b0 h0 s0 n st b h s -> n <= st.length -> ∀ F,
  ∃ n' b' h' s' x' st', n' <= 1000 /\ Hist b0 h0 s0 n' st' b' h' s' /\
    qCV (F + k + 1) N N i x3 x4 b0 h0 s0 (kof b h s) n N pks b h s (qI b) (qO b) x st = some (.inr (x3, x4, b0, h0, s0, kof b' h' s', n', b', h', s', qI b', qO b', x', st')) := by
 intro k
 induction k with
 | zero =>
   intro i hi n b h s x st hp hni hh hst F
   refine ⟨n, b, h, s, x, st, by omega, hh, ?_⟩
   rw [qCV.eq_2]
   unfold qMZ
   rw [qW (by omega)]
 | succ k ih =>
   intro i hi n b h s x st hp hni hh hst F
   have hlen := qWS b h s
   obtain ⟨pk, hpk⟩ : ∃ pk, pks.getD i 0 = pk := ⟨_, rfl⟩
   obtain ⟨g, hg⟩ := qe (lgL b h s).length (by omega)
   obtain ⟨x', st', e1, e2, e3⟩ := qja hp pk N N i x3 x4 b0 h0 s0 n (by omega) (lgL b h s).length (lgL b h s).length N pks (lgL b h s).length 0 (by omega) [] (fun j _ hj => rfl) x st hst g
   rw [<- hg] at e3
   have hh' := hh.congr e1
   have start : ∀ r, (∃ n' b' h' s' x' st', n' <= 1000 /\ Hist b0 h0 s0 n' st' b' h' s' /\ r = some (.inr (x3, x4, b0, h0, s0, kof b' h' s', n', b', h', s', qI b', qO b', x', st'))) ->
     qCV (F + (k + 1) + 1) N N i x3 x4 b0 h0 s0 (kof b h s) n N pks b h s (qI b) (qO b) x st = r -> ∃ n' b' h' s' x' st', n' <= 1000 /\ Hist b0 h0 s0 n' st' b' h' s' /\
      qCV (F + (k + 1) + 1) N N i x3 x4 b0 h0 s0 (kof b h s) n N pks b h s (qI b) (qO b) x st = some (.inr (x3, x4, b0, h0, s0, kof b' h' s', n', b', h', s', qI b', qO b', x', st')) := by
    intro r ⟨n', b', h', s', x', st', q1, q2, q3⟩ q4
    exact ⟨n', b', h', s', x', st', q1, q2, q4.trans q3⟩
   have body : qCV (F + (k + 1) + 1) N N i x3 x4 b0 h0 s0 (kof b h s) n N pks b h s (qI b) (qO b) x st =
     br (Int.ofNat (lgL b h s).length == 0) (some (.inr (x3, x4, b0, h0, s0, kof b h s, n, b, h, s, qI b, qO b, x', st')))
      (br (decide (pk < 0)) (some (.inr (x3, x4, b0, h0, s0, kof b h s, n, b, h, s, qI b, qO b, x', st')))
       (br (decide (Int.ofNat (lgL b h s).length = 0)) none
        (br (inB (Int.tmod pk (Int.ofNat (lgL b h s).length)) (lgL b h s).length)
         (ob (qDS (m0 ((lgL b h s).getD (Int.toNat (Int.tmod pk (Int.ofNat (lgL b h s).length))) [])) (m1 ((lgL b h s).getD (Int.toNat (Int.tmod pk (Int.ofNat (lgL b h s).length))) [])) (m2 ((lgL b h s).getD (Int.toNat (Int.tmod pk (Int.ofNat (lgL b h s).length))) [])) (m3 ((lgL b h s).getD (Int.toNat (Int.tmod pk (Int.ofNat (lgL b h s).length))) [])) (kof b h s) n b h s (qI b) (qO b) x' st') fun t =>
          sw t (fun (_, a1, a2, a3, a4, a5, a6, a7, a8, a9) => qCV (F + k + 1) N N ((i : Int) + 1) x3 x4 b0 h0 s0 a1 a2 N pks a3 a4 a5 a6 a7 a8 a9)
           (fun (_, a1, a2, a3, a4, a5, a6, a7, a8, a9) => qCV (F + k + 1) N N ((i : Int) + 1) x3 x4 b0 h0 s0 a1 a2 N pks a3 a4 a5 a6 a7 a8 a9))
         none))) := by
    rw [qCV.eq_2]
    unfold qMZ
    rw [qd (by omega), qa (by omega) (by omega), tn, hp.all, qA]
    simp only
    rw [qne hp.clean h hp.side, qA, <- hp.lists]
    simp only [bne_self_eq_false, b_f, hpk]
    rw [show qDr qC pk (lgL b h s).length (lgL b h s).length N (N : Int) (i : Int) (lgL b h s).length (Int.ofNat (lgL b h s).length) 0 x3 x4 b0 h0 s0 (kof b h s) n b h s (lgL b h s).length (lgL b h s) (lgL b h s).length (lgL b h s) [] N pks b h s (qI b) (qO b) x st = _ from e3, qA, qAp]
    simp only
    rw [hp.stuck, qA]
    simp only
    rw [qK2, beq_self_eq_true, Bool.not_true, b_f]
    simp only [hdM]
    rw [w_s (n := (i : Int) + 1) (by omega) (by omega)]
    rfl
   by_cases h0 : (lgL b h s).length = 0
   ·refine start _ ⟨n, b, h, s, x', st', by omega, hh', ?_⟩ body
    rw [qF (by rw [qK2]; simpa using h0)]
   by_cases h1 : pk < 0
   ·refine start _ ⟨n, b, h, s, x', st', by omega, hh', ?_⟩ body
    rw [qJ (by rw [qK2]; simpa using h0), qF (by simpa using h1)]
   have hj0 : 0 <= Int.tmod pk (Int.ofNat (lgL b h s).length) := Int.tmod_nonneg _ (by omega)
   have hj1 : Int.tmod pk (Int.ofNat (lgL b h s).length) < Int.ofNat (lgL b h s).length := Int.tmod_lt_of_pos _ (by simp only [Int.ofNat_eq_natCast]; omega)
   obtain ⟨j, hj⟩ : ∃ j : Nat, Int.tmod pk (Int.ofNat (lgL b h s).length) = (j : Int) := ⟨_, (Int.toNat_of_nonneg hj0).symm⟩
   rw [hj] at hj1 body
   have hjl : j < (lgL b h s).length := by simp only [Int.ofNat_eq_natCast] at hj1; omega
   have hm : (lgL b h s)[j] ∈ lgL b h s := List.getElem_mem hjl
   rw [qJ (by rw [qK2]; simpa using h0), qJ (by simpa using h1), qJ (by simp only [Int.ofNat_eq_natCast, decide_eq_false_iff_not]; omega), qa (by omega) (by omega), tn, atL hjl, hp.make hm n (by omega), qA, qAp] at body
   refine start _ ?_ body
   exact ih (i + 1) (by omega) (n + 1) _ _ _ (n + 1) _ (hp.after hm) (by omega) (.succ (hh'.congr (qXQ e2 _)) hp hm (qXO e2 _)) (by rw [qXP e2]; omega) F
theorem qb2 : qDw qIP qDD 0 = some 0 := by kernel_rfl
theorem qMP : PosP qIP qDD 0 := by
 have hf : qAV qDD := by
  intro i
  by_cases h : i < 16
  ·have h2 : ∀ j, j < 16 -> qDD.getD j 0 = 0 := by decide
   rw [h2 i h]; omega
  ·have h2 : qDD.getD i 0 = 0 := by rw [List.getD_eq_getElem?_getD, List.getElem?_eq_none (by show qDD.length <= i; have : qDD.length = 16 := rfl; omega)]; rfl
   rw [h2]; omega
 refine ⟨rfl, hf, rfl, ?_⟩
 have := qMn (b := qIP) (h := qDD) rfl hf 0
 rw [qb2] at this
 exact (Option.some.inj this).symm
theorem qpC : (ob (qD0 qIP qDD 0) fun (a10_0, a10_1, a10_2, a10_3, a10_4) => ob (qD9 a10_0 a10_1 a10_2 a10_3 a10_4) fun (a15_0, _, _, _, _, _, _, _) => some a15_0) = some 30 := by kernel_rfl
theorem qpD : (lgL qIP qDD 0).length = 30 := by
 have := qpC
 rw [qJD rfl, qIr qMP.clean, qA] at this
 simp only at this
 rw [qMP.all, qA] at this
 exact Option.some.inj this
theorem qqL {b h : List Int} (s : Int) (hl : b.length = 81) (hf : qAV h) (hh : h.length = 16) (lo len cap : Nat) (l : List Int) : qJu b h s lo len cap l = some true := by
 unfold qJu
 rw [qpE, qA]
 simp only
 rw [qJD rfl, qIr qMP.clean, qA]
 simp only
 rw [qMP.all, qA]
 simp only
 rw [qpD, qJ (by rfl), qA]
 simp only
 rw [qb2, qA]
 simp only [bne_self_eq_false, b_f]
 rw [qMn hl hf, qA]
 by_cases hz : qDK b h s = 0
 ·have hp : PosP b h s := ⟨hl, hf, hh, hz⟩
  rw [qu hz]
  by_cases hn : Int.ofNat len > 12
  ·rw [qF (by simpa using hn)]
  ·have hn' : len <= 12 := by simp only [Int.ofNat_eq_natCast] at hn; omega
   rw [qJ (by simpa using hn), qhT hp.clean, qA]
   simp only
   rw [qCG (by omega)]
   obtain ⟨g, hg⟩ := qe (1 + len) (by omega)
   obtain ⟨n', b', h', s', x', st', q1, q2, q3⟩ := qp8 (1 + len) (by omega) cap l (0 :: List.take len (List.drop lo l)) (1 + len) 0 (by omega) 0 b h s 0 [] hp (by omega) (.zero []) (by simp) g
   rw [<- hg] at q3
   rw [show qCV qC (1 + len) (Int.ofNat (1 + len)) 0 cap l b h s (kof b h s) 0 (1 + len) (0 :: List.take len (List.drop lo l)) b h s (qI b) (qO b) 0 [] = _ from q3, qA, qAp]
   simp only
   obtain ⟨g2, hg2⟩ := qe n' (by omega)
   have := qqF q2 q1 cap l b h s x' g2
   rw [<- hg2] at this
   rw [this, qA]
   simp only [beq_self_eq_true, Bool.and_self, b_t]
   unfold qKW
   rfl
 ·rw [qq hz]
end Go.Kk.Pl
