/- What the program's functions come to, told plainly: the texts of this project that this claim leans on, cut down to what is used. -/
import Derived.Test.YtbeinkbjmmbloaaGreatDoorKkU3
import Derived.Test.YtbeinkbjmmbloaaGreatDoorKkU2
namespace Go.Kk.Pl
def T_ (_ : Nat) : Bool := true
theorem qlA {b : List Int} (hcl : Clean b) (h : List Int) (S : Int) {s : Int} (hs : s = 0 \/ s = 1) {k : Nat} (hk : KS b s k) : ∃ es, qGm s b h S (qI b) (qO b) = some es /\ qBl b s k (fun _ => true) es := by
 obtain ⟨es, h1, _, h3⟩ := qlB hcl h S hs
 refine ⟨es, h1, ?_⟩
 have hkg := hk.kg hs
 have h3 := h3 (by omega)
 rw [hkg, tn] at h3
 intro f hf
 obtain ⟨a, a'⟩ := h3 f hf
 have hP : ∀ c, qAH b s k f c = true -> (enm b s c && (qAe.any fun x => pcs b (pc (1 - s) x) c)) = true := by
  intro c hp
  have := qC4.mp hp
  rw [this.1, qo0 hs this.1 this.2.1]; rfl
 refine ⟨?_, fun c hc _ hp => a' c hc (hP c hp) hp⟩
 rw [a]
 constructor
 ·rintro ⟨c, x, _, x'⟩; exact ⟨c, x, rfl, x'⟩
 ·rintro ⟨c, x, _, x'⟩; exact ⟨c, x, hP c x', x'⟩
theorem qWZ {b : List Int} (hcl : Clean b) (h : List Int) {s : Int} (hs : s = 0 \/ s = 1) {k : Nat} (hk : KS b s k) :
  ∃ es chk, qHR b h s (qI b) (qO b) = some (s, (k : Int), sLo (qr b s), sHi (qr b s), chk, es) /\ qBl b s k (fun _ => true) es := by
 obtain ⟨es, he, hp⟩ := qlA hcl h s hs hk
 have hkg := hk.kg hs
 have hkg' : fst (pcs b (pc s 8)) = (k : Int) := hkg
 have ha : ∀ c, chs b s c = atk b s k c := qE1 hs hkg hk.1
 unfold qHR
 rw [qOl, hkg', qA, qJ5, qA]
 simp only
 rw [he, qA, qNj hcl h s (by omega), qA]
 simp only
 rw [qNs, qA]
 by_cases n0 : ((qAq (chs b s) : Nat) : Int) = 0
 ·rw [qj n0]
  have hE : isE (chs b s) = true := by rw [qNp, decide_eq_true_eq]; omega
  have : ∀ i, i < 81 -> (fun _ : Nat => true) i = qr b s i := by
   intro i _
   symm
   show qr b s i = true
   rw [qJE hs hk]
   intro c hc h1
   rw [<- ha, qCc.mp hE c hc] at h1
   cases h1
  have := qBx this
  rw [this.1, this.2]
  exact ⟨es, false, rfl, hp⟩
 ·rw [qi n0]
  by_cases n1 : ((qAq (chs b s) : Nat) : Int) = 1
  ·obtain ⟨f, hf, hm⟩ := qG1.mp (show qAq (chs b s) = 1 by omega)
   rw [qj n1, qN5, qA, qN8 hf hm, qYK hf hk.1, qA]
   simp only
   rw [qHb, qA]
   simp only
   have : ∀ i, i < 81 -> ((btw f k).contains i || chs b s i) = qr b s i := by
    intro i hi
    rw [Bool.eq_iff_iff, Bool.or_eq_true, List.contains_iff_mem, hm i hi, qJE hs hk]
    constructor
    ·intro h1 c hc h2
     rw [<- ha, hm c hc] at h2
     subst h2
     exact h1.elim .inr .inl
    ·intro h1
     exact (h1 f hf (by rw [<- ha]; exact (hm f hf).mpr rfl)).elim .inr .inl
   have := qBx this
   rw [this.1, this.2]
   exact ⟨es, true, rfl, hp⟩
  ·rw [qi n1]
   have hE : isE (chs b s) = false := by
    rw [qNp, decide_eq_false_iff_not]; omega
   obtain ⟨c, hc, hc'⟩ : ∃ c, c < 81 /\ chs b s c = true := by
    apply Classical.byContradiction
    intro hno
    have : isE (chs b s) = true := by
     rw [qCc]
     intro i hi
     cases hx : chs b s i with
     | false => rfl
     | true => exact absurd ⟨i, hi, hx⟩ hno
    rw [hE] at this; cases this
   obtain ⟨c2, hc2, hc2', hne⟩ : ∃ c2, c2 < 81 /\ chs b s c2 = true /\ c ≠ c2 := by
    apply Classical.byContradiction
    intro hno
    apply n1
    rw [qG1.mpr ⟨c, hc, fun i hi => ⟨fun h1 => ?_, fun h1 => h1 ▸ hc'⟩⟩]
    ·rfl
    ·apply Classical.byContradiction
     intro hx
     exact hno ⟨i, hi, h1, fun e => hx e.symm⟩
   have : ∀ i, i < 81 -> (fun _ : Nat => false) i = qr b s i := by
    intro i hi
    symm
    show qr b s i = false
    cases ho : qr b s i with
    | false => rfl
    | true =>
      rw [qJE hs hk] at ho
      exact (qqA hs hk.1 hc hc2 (by rw [<- ha]; exact hc') (by rw [<- ha]; exact hc2') hne (ho c hc (by rw [<- ha]; exact hc')) (ho c2 hc2 (by rw [<- ha]; exact hc2'))).elim
   have := qBx this
   rw [qBf, qBe] at this
   exact ⟨es, true, by rw [<- this.1, <- this.2], hp⟩
theorem qb2 {b : List Int} (hcl : Clean b) (h : List Int) (S : Int) {s : Int} (hs : s = 0 \/ s = 1) {k : Nat} (hk : KS b s k) {es : List (List Int × List Int)} (hp : qBl b s k (fun _ => true) es) {f t : Int} (hf : 0 <= f /\ f < 81) (ht : 0 <= t /\ t < 81) (d : Int) (p chk : Bool) :
  qHS s (k : Int) (sLo (qr b s)) (sHi (qr b s)) chk f t d p b h S (qI b) (qO b) es = some (stB b s f.toNat t.toNat, b, h, S, qI b, qO b, es) := by
 obtain ⟨f, rfl⟩ : ∃ n : Nat, f = n := ⟨f.toNat, by omega⟩
 obtain ⟨t, rfl⟩ : ∃ n : Nat, t = n := ⟨t.toNat, by omega⟩
 rw [tn, tn]
 have hkg := hk.kg hs
 have hh : ∀ g : Nat -> Bool, has g (t : Int) = g t := by
  intro g; unfold has; rw [decide_eq_true (by omega), decide_eq_true (by omega), tn]; rfl
 unfold qHS stB
 rw [hkg]
 by_cases hfk : (f : Int) = k
 ·rw [qj hfk, if_pos hfk, qJp hcl, qA]
  simp only
  rw [qJ0, qA]
  simp only
  rw [w_s (n := 1 - s) (by omega) (by omega), qXW, qA]
  simp only
  rw [qIv, qA, hfk]
 ·rw [qi hfk, if_neg hfk, qD7, qA, hh]
  cases ho : qr b s t with
  | false => rfl
  | true =>
    rw [Bool.not_true, b_f, Bool.true_and]
    obtain ⟨h1, h2⟩ := hp f (by omega)
    cases hM : qA0 es [(f : Int)] with
    | false =>
      rw [Bool.not_false, b_t]
      have : qGK b s f t = true := by
       rw [qLY hs hk]
       intro c hc hpin
       rw [h1.mpr ⟨c, hc, rfl, hpin⟩] at hM; cases hM
      rw [this]
    | true =>
      obtain ⟨c, hc, _, hpin⟩ := h1.mp hM
      rw [Bool.not_true, b_f, h2 c hc rfl hpin]
      show (ob (qB9 (sLo (qDq k c)) (sHi (qDq k c)) (t : Int)) _) = _
      rw [qD7, qA, hh]
      have : qDq k c t = qGK b s f t := by
       rw [Bool.eq_iff_iff, qJz, qLY hs hk]
       constructor
       ·intro h3 c' hc' hpin'
        rw [qYA hs hk.1 hc' hc hpin' hpin]; exact h3
       ·intro h3; exact h3 c hc hpin
      rw [this]
def m0 (m : List Int) : Int := m.getD 0 0
def m1 (m : List Int) : Int := m.getD 1 0
def m2 (m : List Int) : Int := m.getD 2 0
def m3 (m : List Int) : Bool := m.getD 3 0 != 0
def Mv4 (m : List Int) : Prop := m = [m0 m, m1 m, m2 m, bi (m3 m)] /\ (0 <= m0 m /\ m0 m < 81) /\ (0 <= m1 m /\ m1 m < 81)
theorem qjN {b h : List Int} {s f t d p : Int} (hok : MvOK b h s f t d p) : Mv4 [f, t, d, p] := by
 refine ⟨?_, hok.fr, hok.tr⟩
 show [f, t, d, p] = [f, t, d, bi (p != 0)]
 rcases hok.pp with h0 | h0 <;> rw [h0] <;> rfl
theorem qJA {b h : List Int} (hc : Clean b) {s : Int} (hs : s = 0 \/ s = 1) {m : List Int} (hm : m ∈ mvs b h s) : Mv4 m /\ qAD b h s (m0 m) (m1 m) (m2 m) (m3 m) = true := by
 obtain ⟨f, t, d, p, rfl, hok⟩ := qjS hc hs hm
 exact ⟨qjN hok, hok.mov⟩
theorem qLE {b : List Int} (hc : Clean b) (h : List Int) {s : Int} (hs : s = 0 \/ s = 1) {m : List Int} (hm : m ∈ qq b s T_) : Mv4 m /\ qAD b h s (m0 m) (m1 m) (m2 m) (m3 m) = true /\ m2 m = 0 := by
 have h1 := qJA hc hs (h := h) (m := m) (List.mem_append_left _ hm)
 obtain ⟨f, t, p, rfl⟩ := qXF hm
 exact ⟨h1.1, h1.2, rfl⟩
theorem qPH {b : List Int} (hc : Clean b) {h : List Int} {s : Int} (hs : s = 0 \/ s = 1) {m : List Int} (hm : m ∈ qAG b h s T_) : Mv4 m /\ qAD b h s (m0 m) (m1 m) (m2 m) (m3 m) = true /\ m0 m = 0 /\ 1 <= m2 m /\ m2 m <= 7 /\ m3 m = false := by
 have h1 := qJA hc hs (h := h) (m := m) (List.mem_append_right _ hm)
 obtain ⟨k, t, hk, hk', rfl⟩ := qXG hm
 exact ⟨h1.1, h1.2, rfl, by show (1 : Int) <= (k : Int); omega, by show (k : Int) <= 7; omega, rfl⟩
theorem qPI (b h : List Int) (s : Int) (G : Nat -> Bool) : qAG b h s G = (qAG b h s T_).filter fun m => G (m1 m).toNat := by
 unfold qAG
 rw [List.filter_flatMap]
 apply qIy
 intro k _
 unfold qBF
 split
 ·rfl
 ·rw [List.filter_map]
  unfold sq
  rw [List.filter_map, List.map_map, List.map_map, List.filter_filter]
  congr 1
  apply List.filter_congr
  intro i _
  show (qAr b s k i && G i) = (G (Int.toNat ((i : Nat) : Int)) && (qAr b s k i && true))
  rw [tn, Bool.and_true, Bool.and_comm]
theorem hdM {m : List Int} : List.headD (List.take 4 m) 0 = m0 m /\ List.headD (List.tail (List.take 4 m)) 0 = m1 m /\ List.headD (List.tail (List.tail (List.take 4 m))) 0 = m2 m /\ (List.headD (List.tail (List.tail (List.tail (List.take 4 m)))) 0 != 0) = m3 m := ⟨hd0 m, hd1 m, hd2 m, by rw [hd3 m]; rfl⟩
theorem atL {M : List (List Int)} {i : Nat} (hi : i < M.length) : M.getD i [] = M[i] := by rw [List.getD_eq_getElem?_getD, List.getElem?_eq_getElem hi]; rfl
def g1 (b : List Int) (s : Int) (m : List Int) : Bool := stB b s (m0 m).toNat (m1 m).toNat
theorem qdE {b : List Int} (hcl : Clean b) (h : List Int) (S : Int) {s : Int} (hs : s = 0 \/ s = 1) {k : Nat} (hk : KS b s k) {es : List (List Int × List Int)} (hp : qBl b s k (fun _ => true) es) (chk : Bool) (N : Nat) (M : List (List Int)) (hM : ∀ m ∈ M, Mv4 m) (hl : M.length <= 100000) : ∀ (n i : Nat), i + n = M.length -> ∀ (L : List (List Int)) (x0 x14 : Nat), x0 = L.length -> x14 = L.length -> L.length + n <= 1000000 -> ∀ F,
  qFI (F + n + 1) x0 M.length M.length i b h S (qI b) (qO b) s k (sLo (qr b s)) (sHi (qr b s)) chk x14 L N M es =
   some ((L ++ (M.drop i).filter (g1 b s)).length, b, h, S, qI b, qO b, s, (k : Int), sLo (qr b s), sHi (qr b s), chk, (L ++ (M.drop i).filter (g1 b s)).length, L ++ (M.drop i).filter (g1 b s), es) := by
 intro n
 induction n with
 | zero =>
   intro i hi L x0 x14 e0 e14 hb F
   show qHP (qFI (F + 0)) _ _ _ _ _ _ _ _ _ _ _ _ _ _ _ _ _ _ _ = _
   unfold qHP
   rw [qW (by omega), List.drop_eq_nil_of_le (by omega), List.filter_nil, List.append_nil, e0, e14]
 | succ n ih =>
   intro i hi L x0 x14 e0 e14 hb F
   show qHP (qFI (F + n + 1)) _ _ _ _ _ _ _ _ _ _ _ _ _ _ _ _ _ _ _ = _
   unfold qHP
   have hil : i < M.length := by omega
   obtain ⟨hm1, hm2, hm3⟩ := hM M[i] (List.getElem_mem hil)
   rw [qc (by omega), qa (by omega) (by omega), tn, atL hil]
   simp only [hdM]
   rw [qb2 hcl h S hs hk hp hm2 hm3, qA]
   simp only
   rw [w_s (n := (i : Int) + 1) (by omega) (by omega), List.drop_eq_getElem_cons hil, List.filter_cons]
   show br (g1 b s M[i]) _ _ = _
   cases hg : g1 b s M[i] with
   | true =>
     rw [b_t, qCF (by omega), <- hm1]
     rw [tkA e0]
     refine (ih (i + 1) (by omega) (L ++ [M[i]]) (x0 + 1) (x0 + 1) (by simp; omega) (by simp; omega) (by simp; omega) F).trans ?_
     simp
   | false =>
     rw [b_f]
     exact ih (i + 1) (by omega) L x0 x14 e0 e14 (by omega) F
def pb (b : List Int) (s : Int) (q : Int) : List Int := put b q (16 * s + 1)
def pmS (b : List Int) (s : Int) (q : Int) : Bool := decide (0 <= q /\ q < 81) && (decide (at_ b q = 0) && (chs (pb b s q) (1 - s) q.toNat && (qq (pb b s q) (1 - s) T_).all fun m => !g1 (pb b s q) (1 - s) m))
theorem qkg {b : List Int} (b0 h0 : List Int) (S0 : Int) (by0 sd0 : List (List Int)) (hcl : Clean b) (h : List Int) (S : Int) {s : Int} (hs : s = 0 \/ s = 1) {k : Nat} (hk : KS b s k) {es : List (List Int × List Int)} (hp : qBl b s k (fun _ => true) es) (chk : Bool) (N : Nat) (M : List (List Int)) (hM : ∀ m ∈ M, Mv4 m) (hl : M.length <= 100000) : ∀ (n i : Nat), i + n = M.length -> ∀ F,
  qFJ (F + n + 1) M.length M.length i b0 h0 S0 by0 sd0 s k (sLo (qr b s)) (sHi (qr b s)) chk N M b h S (qI b) (qO b) es =
   some (if (M.drop i).all (fun m => !g1 b s m) then .inr (b0, h0, S0, by0, sd0) else .inl (false, b0, h0, S0, by0, sd0)) := by
 intro n
 induction n with
 | zero =>
   intro i hi F
   show qHQ (qFJ (F + 0)) _ _ _ _ _ _ _ _ _ _ _ _ _ _ _ _ _ _ _ _ _ = _
   unfold qHQ
   rw [qW (by omega), List.drop_eq_nil_of_le (by omega)]
   rfl
 | succ n ih =>
   intro i hi F
   show qHQ (qFJ (F + n + 1)) _ _ _ _ _ _ _ _ _ _ _ _ _ _ _ _ _ _ _ _ _ = _
   unfold qHQ
   have hil : i < M.length := by omega
   obtain ⟨hm1, hm2, hm3⟩ := hM M[i] (List.getElem_mem hil)
   rw [qc (by omega), qa (by omega) (by omega), tn, atL hil]
   simp only [hdM]
   rw [qb2 hcl h S hs hk hp hm2 hm3, qA]
   simp only
   rw [w_s (n := (i : Int) + 1) (by omega) (by omega), List.drop_eq_getElem_cons hil, List.all_cons]
   show br (g1 b s M[i]) _ _ = _
   cases hg : g1 b s M[i] with
   | true => rw [b_t]; rfl
   | false =>
     rw [b_f]
     exact ih (i + 1) (by omega) F
theorem qGJ (b : List Int) (s q : Int) : pb b s q = mb b s 0 q 1 false := by
 unfold pb mb laid
 rw [if_pos (by simp), if_pos (by simp)]
theorem qPX {b : List Int} {s q : Int} (hs : s = 0 \/ s = 1) (hq : 0 <= q /\ q < 81) (h0 : at_ b q = 0) : CanP b (List.replicate 16 1) s 0 q 1 false := by
 refine ⟨hq, fun _ => ⟨by omega, by omega, rfl, rfl, ?_, h0⟩, fun h => absurd h (by omega)⟩
 rcases hs with rfl | rfl <;> decide
theorem qkf {b : List Int} (hcl : Clean b) (h : List Int) {s : Int} (hs : s = 0 \/ s = 1) {k : Nat} (hk : KS b (1 - s) k) (q : Int) : qI6 q b h s (qI b) (qO b) = some (pmS b s q) := by
 have hs' : 1 - s = 0 \/ 1 - s = 1 := by omega
 have hpc : pc s 1 = 16 * s + 1 := qAt hs (by omega) (by omega) (by omega)
 unfold qI6 pmS
 rw [qLI, qA, hpc, qi (by omega)]
 by_cases q0 : q < 0
 ·rw [qc q0, decide_eq_false (p := 0 <= q /\ q < 81) (by omega)]; rfl
 rw [qW q0]
 by_cases q1 : q >= 81
 ·rw [qB0 q1, decide_eq_false (p := 0 <= q /\ q < 81) (by omega)]; rfl
 have hq : 0 <= q /\ q < 81 := by omega
 rw [qBS q1, qCq, qA, decide_eq_true hq, Bool.true_and]
 by_cases h0 : at_ b q = 0
 ·have hP := qPX hs hq h0
  have hk2 : KS (pb b s q) (1 - s) k := by rw [qGJ]; exact qKw hcl hs hP hk
  have hcl2 : Clean (pb b s q) := hcl.put q _
  have w8 : IntKind.wrap IntKind.i8 (1 - s) = 1 - s := w_8 (by omega) (by omega)
  rw [qt h0, decide_eq_true h0, Bool.true_and]
  unfold qKE
  rw [qA]
  simp only
  rw [qPe hcl, qA]
  simp only
  rw [show put b q (16 * s + 1) = pb b s q from rfl, w8, c_8, qNj hcl2 h (1 - s) (by omega), qA]
  simp only
  rw [qD7, qA]
  have hh : has (chs (pb b s q) (1 - s)) q = chs (pb b s q) (1 - s) q.toNat := by
   unfold has; rw [decide_eq_true hq.1, decide_eq_true hq.2]; rfl
  rw [hh]
  cases hch : chs (pb b s q) (1 - s) q.toNat with
  | false => rfl
  | true =>
    rw [Bool.not_true, b_f, Bool.true_and]
    obtain ⟨es, chk, hl, hp⟩ := qWZ hcl2 h hs' hk2
    have hlen := qLF (pb b s q) (1 - s) T_
    rw [hl, qA]
    simp only
    rw [qJ5, qA]
    simp only
    rw [show (fun _ : Nat => true) = T_ from rfl, qU3 hcl2, qA]
    simp only
    obtain ⟨g, hg⟩ := qd (qq (pb b s q) (1 - s) T_).length (by omega)
    have := qkg b h s (qI b) (qO b) hcl2 h (1 - s) hs' hk2 hp chk (qq (pb b s q) (1 - s) T_).length (qq (pb b s q) (1 - s) T_) (fun m hm => (qLE hcl2 h hs' hm).1) (by omega) (qq (pb b s q) (1 - s) T_).length 0 (by omega) g
    rw [<- hg] at this
    refine (congrArg (fun z => ob z _) (this : qFJ qC (qq (pb b s q) (1 - s) T_).length (Int.ofNat (qq (pb b s q) (1 - s) T_).length) 0 b h s (qI b) (qO b) (1 - s) k (sLo (qr (pb b s q) (1 - s))) (sHi (qr (pb b s q) (1 - s))) chk (qq (pb b s q) (1 - s) T_).length (qq (pb b s q) (1 - s) T_) (pb b s q) h (1 - s) (qI (pb b s q)) (qO (pb b s q)) es = _)).trans ?_
    rw [qA, List.drop_zero]
    cases (qq (pb b s q) (1 - s) T_).all fun m => !g1 (pb b s q) (1 - s) m <;> rfl
 ·rw [qp h0, decide_eq_false h0]; rfl
def g2 (b : List Int) (s : Int) (m : List Int) : Bool := !(decide (m2 m = 1) && pmS b s (m1 m))
theorem qdC {b : List Int} (hcl : Clean b) (h : List Int) {s : Int} (hs : s = 0 \/ s = 1) {k : Nat} (hk : KS b (1 - s) k) (N : Nat) (M : List (List Int)) (hM : ∀ m ∈ M, Mv4 m) (hl : M.length <= 100000) : ∀ (n i : Nat), i + n = M.length -> ∀ (L : List (List Int)) (x0 x9 : Nat), x0 = L.length -> x9 = L.length -> L.length + n <= 1000000 -> ∀ F,
  qD9 (F + n + 1) x0 M.length M.length i b h s (qI b) (qO b) x9 L N M =
   some ((L ++ (M.drop i).filter (g2 b s)).length, b, h, s, qI b, qO b, (L ++ (M.drop i).filter (g2 b s)).length, L ++ (M.drop i).filter (g2 b s)) := by
 intro n
 induction n with
 | zero =>
   intro i hi L x0 x9 e0 e9 hb F
   show qHO (qD9 (F + 0)) _ _ _ _ _ _ _ _ _ _ _ _ _ = _
   unfold qHO
   rw [qW (by omega), List.drop_eq_nil_of_le (by omega), List.filter_nil, List.append_nil, e0, e9]
 | succ n ih =>
   intro i hi L x0 x9 e0 e9 hb F
   show qHO (qD9 (F + n + 1)) _ _ _ _ _ _ _ _ _ _ _ _ _ = _
   unfold qHO
   have hil : i < M.length := by omega
   obtain ⟨hm1, hm2, hm3⟩ := hM M[i] (List.getElem_mem hil)
   rw [qc (by omega), qa (by omega) (by omega), tn, atL hil]
   simp only [hdM]
   rw [w_s (n := (i : Int) + 1) (by omega) (by omega), List.drop_eq_getElem_cons hil, List.filter_cons, qCF (by omega), <- hm1, tkA e0]
   have add : g2 b s M[i] = true -> qD9 (F + n + 1) (x0 + 1) M.length M.length ((i : Int) + 1) b h s (qI b) (qO b) (x0 + 1) (L ++ [M[i]]) N M =
    some ((L ++ if g2 b s M[i] = true then M[i] :: (M.drop (i + 1)).filter (g2 b s) else (M.drop (i + 1)).filter (g2 b s)).length, b, h, s, qI b, qO b, (L ++ if g2 b s M[i] = true then M[i] :: (M.drop (i + 1)).filter (g2 b s) else (M.drop (i + 1)).filter (g2 b s)).length, L ++ if g2 b s M[i] = true then M[i] :: (M.drop (i + 1)).filter (g2 b s) else (M.drop (i + 1)).filter (g2 b s)) := by
    intro hg
    refine (ih (i + 1) (by omega) (L ++ [M[i]]) (x0 + 1) (x0 + 1) (by simp; omega) (by simp; omega) (by simp; omega) F).trans ?_
    rw [if_pos hg]
    simp
   by_cases hd : m2 M[i] = 1
   ·rw [qj hd, qkf hcl h hs hk, qA]
    cases hpm : pmS b s (m1 M[i]) with
    | true =>
      have hg : g2 b s M[i] = false := by unfold g2; rw [decide_eq_true hd, hpm]; rfl
      rw [b_t, hg]
      exact ih (i + 1) (by omega) L x0 x9 e0 e9 (by omega) F
    | false =>
      have hg : g2 b s M[i] = true := by unfold g2; rw [hpm]; simp
      rw [b_f]
      exact add hg
   ·have hg : g2 b s M[i] = true := by unfold g2; rw [decide_eq_false hd]; rfl
    rw [qi hd]
    exact add hg
def lgL (b h : List Int) (s : Int) : List (List Int) := (qq b s T_).filter (g1 b s) ++ (qAG b h s (qr b s)).filter (g2 b s)
theorem qWR (b h : List Int) (s : Int) : (lgL b h s).length <= 20000 := by
 unfold lgL
 have h1 := qLF b s T_
 have h2 := qPJ b h s (qr b s)
 have h3 := List.length_filter_le (g1 b s) (qq b s T_)
 have h4 := List.length_filter_le (g2 b s) (qAG b h s (qr b s))
 rw [List.length_append]
 omega
theorem qV7 {b : List Int} (hcl : Clean b) (h : List Int) {s : Int} (hs : s = 0 \/ s = 1) {k k' : Nat} (hk : KS b s k) (hk' : KS b (1 - s) k') : qD8 b h s (qI b) (qO b) = some ((lgL b h s).length, b, h, s, qI b, qO b, (lgL b h s).length, lgL b h s) := by
 unfold qD8
 obtain ⟨es, chk, hl, hp⟩ := qWZ hcl h hs hk
 have hlen := qLF b s T_
 have hlen2 := qPJ b h s (qr b s)
 have hlen3 := List.length_filter_le (g1 b s) (qq b s T_)
 rw [hl, qA]
 simp only
 rw [qJ5, qA]
 simp only
 rw [show (fun _ : Nat => true) = T_ from rfl, qU3 hcl, qA]
 simp only
 obtain ⟨g, hg⟩ := qd (qq b s T_).length (by omega)
 have := qdE hcl h s hs hk hp chk (qq b s T_).length (qq b s T_) (fun m hm => (qLE hcl h hs hm).1) (by omega) (qq b s T_).length 0 (by omega) [] 0 0 rfl rfl (by simp only [List.length_nil]; omega) g
 rw [<- hg, List.drop_zero, List.nil_append] at this
 rw [show qFI qC 0 (qq b s T_).length (Int.ofNat (qq b s T_).length) 0 b h s (qI b) (qO b) s k (sLo (qr b s)) (sHi (qr b s)) chk 0 [] (qq b s T_).length (qq b s T_) es = _ from this, qA]
 simp only
 rw [qg4 hcl, qA]
 simp only
 have hM : ∀ m ∈ qAG b h s (qr b s), Mv4 m := by
  intro m hm
  rw [qPI] at hm
  exact (qPH hcl hs (List.mem_filter.mp hm).1).1
 obtain ⟨g, hg⟩ := qd (qAG b h s (qr b s)).length (by omega)
 have := qdC hcl h hs hk' (qAG b h s (qr b s)).length (qAG b h s (qr b s)) hM (by omega) (qAG b h s (qr b s)).length 0 (by omega) ((qq b s T_).filter (g1 b s)) _ _ rfl rfl (by omega) g
 rw [<- hg, List.drop_zero] at this
 rw [show qD9 qC ((qq b s T_).filter (g1 b s)).length (qAG b h s (qr b s)).length (Int.ofNat (qAG b h s (qr b s)).length) 0 b h s (qI b) (qO b) ((qq b s T_).filter (g1 b s)).length ((qq b s T_).filter (g1 b s)) (qAG b h s (qr b s)).length (qAG b h s (qr b s)) = _ from this, qA]
 rfl
def mbM (b : List Int) (s : Int) (m : List Int) : List Int := mb b s (m0 m) (m1 m) (m2 m) (m3 m)
def mhM (b h : List Int) (s : Int) (m : List Int) : List Int := mh b h s (m1 m) (m2 m)
def qBg (b : List Int) (s : Int) (m : List Int) : Bool := !inC (mbM b s m) s
def qJn (b h : List Int) (s : Int) : Bool := (mvs b h s).all fun m => !qBg b s m
def qC1 (b h : List Int) (s : Int) (m : List Int) : Bool := qBg b s m && (decide (m2 m ≠ 1) || !(inC (mbM b s m) (1 - s) && qJn (mbM b s m) (mhM b h s m) (1 - s)))
theorem qap {b h : List Int} {s : Int} (hc : Clean b) (hs : s = 0 \/ s = 1) {m : List Int} (hm : qAD b h s (m0 m) (m1 m) (m2 m) (m3 m) = true) : qH3 b h s (m0 m) (m1 m) (m2 m) (m3 m) = some (qBg b s m) := by
 unfold qH3
 rw [qYG hc hs (qFK hm).2, qA]
 simp only
 rw [qai _ _ _ hs, qA]
 rfl
theorem qnh {b h : List Int} (hc : Clean b) {s : Int} (hs : s = 0 \/ s = 1) (N : Nat) (M : List (List Int)) (hM : ∀ m ∈ M, qAD b h s (m0 m) (m1 m) (m2 m) (m3 m) = true) (hl : M.length <= 100000) : ∀ (n i : Nat), i + n = M.length -> ∀ F,
  qFe (F + n + 1) M.length i b h s N M = some (if (M.drop i).all (fun m => !qBg b s m) then .inr () else .inl false) := by
 intro n
 induction n with
 | zero =>
   intro i hi F
   show qH4 (qFe (F + 0)) _ _ _ _ _ _ _ = _
   unfold qH4
   rw [qW (by simp only [Int.ofNat_eq_natCast]; omega), List.drop_eq_nil_of_le (by omega)]
   rfl
 | succ n ih =>
   intro i hi F
   show qH4 (qFe (F + n + 1)) _ _ _ _ _ _ _ = _
   unfold qH4
   have hil : i < M.length := by omega
   rw [qc (by simp only [Int.ofNat_eq_natCast]; omega), qa (by omega) (by omega), tn, atL hil]
   simp only [hdM]
   rw [qap hc hs (hM _ (List.getElem_mem hil)), qA, w_s (n := (i : Int) + 1) (by omega) (by omega), List.drop_eq_getElem_cons hil, List.all_cons]
   cases hg : qBg b s M[i] with
   | true => rw [b_t]; rfl
   | false =>
     rw [b_f]
     exact ih (i + 1) (by omega) F
theorem qni {b : List Int} (hc : Clean b) (h : List Int) {s : Int} (hs : s = 0 \/ s = 1) : qJY b h s = some (qJn b h s) := by
 unfold qJY
 rw [qab b h hs, qA, <- qPM hc h hs]
 simp only
 have hlen := qXJ b h s
 obtain ⟨g, hg⟩ := qd (mvs b h s).length (by omega)
 have := qnh hc hs (mvs b h s).length (mvs b h s) (fun m hm => (qJA hc hs hm).2) (by omega) (mvs b h s).length 0 (by omega) g
 rw [<- hg, List.drop_zero] at this
 rw [show qFe qC (mvs b h s).length 0 b h s (mvs b h s).length (mvs b h s) = _ from this, qA]
 unfold qJn
 cases (mvs b h s).all fun m => !qBg b s m <;> rfl
theorem qne {b h : List Int} {s : Int} (hc : Clean b) (hs : s = 0 \/ s = 1) {m : List Int} (hm : qAD b h s (m0 m) (m1 m) (m2 m) (m3 m) = true) : qJX b h s (m0 m) (m1 m) (m2 m) (m3 m) = some (qC1 b h s m) := by
 have hs' : 1 - s = 0 \/ 1 - s = 1 := by omega
 unfold qJX qC1
 rw [qap hc hs hm, qA]
 cases qBg b s m with
 | false => rfl
 | true =>
   rw [Bool.not_true, b_f, Bool.true_and]
   by_cases hd : m2 m = 1
   ·rw [qt hd, decide_eq_false (p := m2 m ≠ 1) (by simpa using hd), Bool.false_or, qYG hc hs (qFK hm).2, qA]
    simp only
    rw [qai _ _ _ hs', qA]
    show (br (!inC (mbM b s m) (1 - s)) _ _) = _
    cases inC (mbM b s m) (1 - s) with
    | false => rfl
    | true =>
      rw [Bool.not_true, b_f, qni (qO7 hc _ _ _ _ _) _ hs', qA]
      rfl
   ·rw [qp hd, decide_eq_true (p := m2 m ≠ 1) hd]; rfl
theorem qlP {b h : List Int} (hc : Clean b) {s : Int} (hs : s = 0 \/ s = 1) (N : Nat) (M : List (List Int)) (hM : ∀ m ∈ M, Mv4 m /\ qAD b h s (m0 m) (m1 m) (m2 m) (m3 m) = true) (hl : M.length <= 100000) : ∀ (n i : Nat), i + n = M.length -> ∀ (L : List (List Int)) (x0 x6 : Nat), x0 = L.length -> x6 = L.length -> L.length + n <= 1000000 -> ∀ F,
  qFd (F + n + 1) x0 M.length i b h s x6 L N M = some ((L ++ (M.drop i).filter (qC1 b h s)).length, (L ++ (M.drop i).filter (qC1 b h s)).length, L ++ (M.drop i).filter (qC1 b h s)) := by
 intro n
 induction n with
 | zero =>
   intro i hi L x0 x6 e0 e6 hb F
   show qH2 (qFd (F + 0)) _ _ _ _ _ _ _ _ _ _ = _
   unfold qH2
   rw [qW (by simp only [Int.ofNat_eq_natCast]; omega), List.drop_eq_nil_of_le (by omega), List.filter_nil, List.append_nil, e0, e6]
 | succ n ih =>
   intro i hi L x0 x6 e0 e6 hb F
   show qH2 (qFd (F + n + 1)) _ _ _ _ _ _ _ _ _ _ = _
   unfold qH2
   have hil : i < M.length := by omega
   obtain ⟨hm1, hm2⟩ := hM M[i] (List.getElem_mem hil)
   rw [qc (by simp only [Int.ofNat_eq_natCast]; omega), qa (by omega) (by omega), tn, atL hil]
   simp only [hdM]
   rw [qne hc hs hm2, qA, w_s (n := (i : Int) + 1) (by omega) (by omega), List.drop_eq_getElem_cons hil, List.filter_cons, qa (by omega) (by omega)]
   cases hg : qC1 b h s M[i] with
   | true =>
     rw [b_t, qCF (by omega), <- hm1.1, tkA e0]
     refine (ih (i + 1) (by omega) (L ++ [M[i]]) (x0 + 1) (x0 + 1) (by simp; omega) (by simp; omega) (by simp; omega) F).trans ?_
     simp
   | false =>
     rw [b_f]
     exact ih (i + 1) (by omega) L x0 x6 e0 e6 (by omega) F
def rlL (b h : List Int) (s : Int) : List (List Int) := (mvs b h s).filter (qC1 b h s)
theorem qnd {b : List Int} (hc : Clean b) (h : List Int) {s : Int} (hs : s = 0 \/ s = 1) : qJW b h s = some ((rlL b h s).length, (rlL b h s).length, rlL b h s) := by
 unfold qJW
 rw [qab b h hs, qA, <- qPM hc h hs]
 simp only
 have hlen := qXJ b h s
 obtain ⟨g, hg⟩ := qd (mvs b h s).length (by omega)
 have := qlP hc hs (mvs b h s).length (mvs b h s) (fun m hm => qJA hc hs hm) (by omega) (mvs b h s).length 0 (by omega) [] 0 0 rfl rfl (by simp only [List.length_nil]; omega) g
 rw [<- hg, List.drop_zero, List.nil_append] at this
 rw [show qFd qC 0 (mvs b h s).length 0 b h s 0 [] (mvs b h s).length (mvs b h s) = _ from this, qA]
 rfl
end Go.Kk.Pl
namespace Go.Kk.Pl
theorem qfk {b : List Int} (hc : Clean b) {s : Int} (hs : s = 0 \/ s = 1) {k' : Nat} (hk' : KS b (1 - s) k') (hno : inC b (1 - s) = false) {q : Int} (hq : 0 <= q /\ q < 81) (h0 : at_ b q = 0) {c : Nat} (hcc : c < 81) (hch : chs (pb b s q) (1 - s) c = true) : c = q.toNat := by
 have hs' : 1 - s = 0 \/ 1 - s = 1 := by omega
 have hP := qPX hs hq h0
 have hk2 : KS (pb b s q) (1 - s) k' := by rw [qGJ]; exact qKw hc hs hP hk'
 apply Classical.byContradiction
 intro hne
 rw [qE1 hs' (hk2.kg hs') hk2.1] at hch
 have hg : (pb b s q).getD c 0 = b.getD c 0 := by
  rw [qGJ, qEB hc hs hP hcc, if_neg hne, if_neg (by simp)]
 have ha : atk b (1 - s) k' c = true := by
  simp only [atk, enm, Bool.and_eq_true] at hch ⊢
  rw [hg] at hch
  refine ⟨hch.1, ?_⟩
  rw [qBu] at hch ⊢
  refine hch.2.imp id fun hh => ⟨hh.1, fun i hi => ?_⟩
  have := hh.2 i hi
  rw [qGJ, qRe hc hs hP (qIl hcc hk'.1 hi)] at this
  unfold tk2 fof at this
  simp only [Bool.or_eq_false_iff, decide_eq_false_iff_not] at this
  have h2 := this.2
  rw [if_neg (by simp), decide_eq_false this.1] at h2
  simpa using h2
 unfold inC at hno
 have hE : isE (chs b (1 - s)) = true := by simpa using hno
 have := qCc.mp hE c hcc
 rw [qE1 hs' (hk'.kg hs') hk'.1, ha] at this
 cases this
theorem qiv {b : List Int} (hc : Clean b) {s : Int} (hs : s = 0 \/ s = 1) {k' : Nat} (hk' : KS b (1 - s) k') (hno : inC b (1 - s) = false) {q : Int} (hq : 0 <= q /\ q < 81) (h0 : at_ b q = 0) (hh : List Int) :
  pmS b s q = (inC (pb b s q) (1 - s) && qJn (pb b s q) hh (1 - s)) := by
 have hs' : 1 - s = 0 \/ 1 - s = 1 := by omega
 have hP := qPX hs hq h0
 have hk2 : KS (pb b s q) (1 - s) k' := by rw [qGJ]; exact qKw hc hs hP hk'
 have hc2 : Clean (pb b s q) := hc.put q _
 have hq81 : q.toNat < 81 := by omega
 have e1 : inC (pb b s q) (1 - s) = chs (pb b s q) (1 - s) q.toNat := by
  unfold inC
  cases hch : chs (pb b s q) (1 - s) q.toNat with
  | true =>
    cases hE : isE (chs (pb b s q) (1 - s)) with
    | false => rfl
    | true => rw [qCc.mp hE _ hq81] at hch; cases hch
  | false =>
    have : isE (chs (pb b s q) (1 - s)) = true := by
     rw [qCc]
     intro i hi
     cases hx : chs (pb b s q) (1 - s) i with
     | false => rfl
     | true => rw [qfk hc hs hk' hno hq h0 hi hx] at hx; rw [hx] at hch; cases hch
    rw [this]; rfl
 unfold pmS
 rw [decide_eq_true hq, decide_eq_true h0, Bool.true_and, Bool.true_and, e1]
 cases hch : chs (pb b s q) (1 - s) q.toNat with
 | false => rfl
 | true =>
   rw [Bool.true_and, Bool.true_and]
   unfold qJn
   rw [show mvs (pb b s q) hh (1 - s) = qq (pb b s q) (1 - s) T_ ++ qAG (pb b s q) hh (1 - s) T_ from rfl, List.all_append]
   have hB : ((qq (pb b s q) (1 - s) T_).all fun m => !g1 (pb b s q) (1 - s) m) = (qq (pb b s q) (1 - s) T_).all fun m => !qBg (pb b s q) (1 - s) m := by
    rw [Bool.eq_iff_iff, List.all_eq_true, List.all_eq_true]
    have : ∀ m ∈ qq (pb b s q) (1 - s) T_, g1 (pb b s q) (1 - s) m = qBg (pb b s q) (1 - s) m := by
     intro m hm
     obtain ⟨_, a2, a3⟩ := qLE hc2 hh hs' hm
     have := qL0 hc2 hs' (qFK a2).2 hk2
     unfold qBg mbM g1
     rw [this, if_pos a3]
    constructor
    ·intro h m hm; rw [<- this m hm]; exact h m hm
    ·intro h m hm; rw [this m hm]; exact h m hm
   have hD : ((qAG (pb b s q) hh (1 - s) T_).all fun m => !qBg (pb b s q) (1 - s) m) = true := by
    rw [List.all_eq_true]
    intro m hm
    obtain ⟨_, a2, _, a4, _, _⟩ := qPH hc2 hs' hm
    have hPm := (qFK a2).2
    have := qL0 hc2 hs' hPm hk2
    unfold qBg mbM
    rw [this, if_neg (by omega), Bool.not_eq_true']
    cases ho : qr (pb b s q) (1 - s) (m1 m).toNat with
    | false => rfl
    | true =>
      exfalso
      rw [qJE hs' hk2] at ho
      rw [qE1 hs' (hk2.kg hs') hk2.1] at hch
      have hgq : (pb b s q).getD q.toNat 0 = 16 * s + 1 := by
       rw [qGJ, qEB hc hs hP hq81, if_pos rfl]
       unfold laid
       rw [if_pos (by simp)]
      rcases ho _ hq81 hch with h1 | h1
      ·have h2 := (hPm.drop (by omega)).2.2.2.2.2
       rw [qAY hPm.to_, h1, hgq] at h2
       omega
      ·simp only [atk, Bool.and_eq_true] at hch
       rcases qBu.mp hch.2 with h2 | h2
       ·rw [qMT h2] at h1; cases h1
       ·have h3 := of_decide_eq_true h2.1
        rw [hgq, qHK hs (by omega) (by omega) (by omega)] at h3
        unfold slK at h3
        omega
   rw [hB, hD, Bool.and_true]
theorem qGL {b h : List Int} {s : Int} (hl : b.length = 81) (hz : qDI b h s = 0) : Clean b /\ (s = 0 \/ s = 1) /\ inC b (1 - s) = false /\ ∃ k k', KS b s k /\ KS b (1 - s) k' := by
 have h1 : qAy b h s = 0 /\ inC b (1 - s) = false := by
  unfold qDI at hz
  split at hz
  ·rename_i h; exact absurd hz h
  ·rename_i h
   refine ⟨by simpa using h, ?_⟩
   cases hi : inC b (1 - s) with
   | false => rfl
   | true => rw [hi] at hz; simp at hz
 obtain ⟨hc, hs⟩ := qKR hl h1.1
 obtain ⟨k, hk⟩ := qKx h1.1 hs
 obtain ⟨k', hk'⟩ := qKx h1.1 (s := 1 - s) (by omega)
 exact ⟨hc, hs, h1.2, k, k', hk, hk'⟩
theorem qWY {b : List Int} (hc : Clean b) (h : List Int) {s : Int} (hs : s = 0 \/ s = 1) (hno : inC b (1 - s) = false) {k k' : Nat} (hk : KS b s k) (hk' : KS b (1 - s) k') : lgL b h s = rlL b h s := by
 unfold lgL rlL
 rw [show mvs b h s = qq b s T_ ++ qAG b h s T_ from rfl, List.filter_append, qPI, List.filter_filter]
 congr 1
 ·apply List.filter_congr
  intro m hm
  obtain ⟨_, a2, a3⟩ := qLE hc h hs hm
  have := qL0 hc hs (qFK a2).2 hk
  unfold qC1 qBg mbM g1
  rw [this, if_pos a3, decide_eq_true (p := m2 m ≠ 1) (by omega), Bool.true_or, Bool.and_true]
 ·apply List.filter_congr
  intro m hm
  obtain ⟨_, a2, a3, a4, a5, a6⟩ := qPH hc hs hm
  have hP := (qFK a2).2
  have := qL0 hc hs hP hk
  unfold qC1 qBg g2
  rw [show inC (mbM b s m) s = inC (mb b s (m0 m) (m1 m) (m2 m) (m3 m)) s from rfl, this, if_neg (by omega)]
  cases ho : qr b s (m1 m).toNat with
  | false => simp
  | true =>
    rw [Bool.and_true, Bool.true_and]
    by_cases hd : m2 m = 1
    ·have hdr := hP.drop (by omega)
     rw [decide_eq_true hd, decide_eq_false (p := m2 m ≠ 1) (by simpa using hd), Bool.true_and, Bool.false_or, qiv hc hs hk' hno hP.to_ hdr.2.2.2.2.2 (mhM b h s m)]
     have : mbM b s m = pb b s (m1 m) := by
      unfold mbM
      rw [a3, hd, a6, qGJ]
     rw [this]
    ·rw [decide_eq_false hd, decide_eq_true (p := m2 m ≠ 1) hd]; rfl
theorem qIc (p : Bool) : (bi p != 0) = p := by cases p <;> rfl
theorem qia {b : List Int} (_hc : Clean b) {h : List Int} {s : Int} (_hs : s = 0 \/ s = 1) {m : List Int} (hm : m ∈ lgL b h s) : m ∈ mvs b h s := by
 unfold lgL at hm
 rw [List.mem_append] at hm
 rcases hm with hm | hm
 ·exact List.mem_append_left _ (List.mem_filter.mp hm).1
 ·have := (List.mem_filter.mp hm).1
  rw [qPI] at this
  exact List.mem_append_right _ (List.mem_filter.mp this).1
end Go.Kk.Pl
namespace Go.Kk.Pl
end Go.Kk.Pl
namespace Go.Kk.Pl
theorem qi5 (f t d : Int) (p : Bool) : qDa f t d p = some (qCH f t d p) := by
 unfold qDa qCH
 by_cases h1 : t < 0
 ·rw [qc h1, if_pos (by omega)]
 rw [qW h1]
 by_cases h2 : t >= 81
 ·rw [qB0 h2, if_pos (by omega)]
 rw [qBS h2, if_neg (by omega)]
 by_cases hd : d = 0
 ·rw [qt hd, if_neg (by simpa using hd)]
  by_cases h3 : f < 0
  ·rw [qc h3, if_pos (by omega)]
  rw [qW h3]
  by_cases h4 : f >= 81
  ·rw [qB0 h4, if_pos (by omega)]
  rw [qBS h4, if_neg (by omega)]
  by_cases h5 : f = t
  ·rw [qj h5, if_pos h5]
  ·rw [qi h5, if_neg h5]
 ·rw [qp hd, if_pos hd]
  by_cases h3 : d < 0
  ·rw [qc h3, if_neg (by omega)]
  rw [qW h3]
  by_cases h4 : d >= 8
  ·rw [qB0 h4, if_neg (by omega)]
  rw [qBS h4]
  by_cases h5 : f = 0
  ·rw [qt h5]
   cases p with
   | true => rw [b_t, if_neg (by simp)]
   | false => rw [b_f, if_pos ⟨by omega, by omega, h5, rfl⟩]
  ·rw [qp h5, if_neg (by omega)]
theorem qfM (b h : List Int) {s : Int} (hs : s = 0 \/ s = 1) (f t d : Int) (p : Bool) (K : Int) (n : Nat) (by_ sides : List (List Int)) (m : Nat) (st : List (List Int)) :
  qD3 f t d p K n b h s by_ sides m st = some (qB1 b h s f t d p) := by
 unfold qD3 qB1
 rw [qi5, qA]
 by_cases hm : qCH f t d p = 0
 ·obtain ⟨ht, hd, hmv⟩ := qKQ hm
  have main : (br (d != 0)
    (ob (qCY s d b h s by_ sides) fun a14 =>
    br (decide (a14 > 0))
     (ob (qAb t b h s by_ sides) fun a15 =>
     some (a15 == 0))
     (some (false)))
    (ob (qAb f b h s by_ sides) fun a14 =>
    ob (qAb t b h s by_ sides) fun a15 =>
    ob (qAL a14) fun a16 =>
    br (a16 == s)
     (ob (qAL a15) fun a17 =>
     br (a17 != s)
      (ob (q8 a15) fun a18 =>
      br (a18 != 8)
       (br (!p)
        (some (true))
        (ob (q8 a14) fun a19 =>
        ob (qCj a19) fun a20 =>
        some (a20 != 0)))
       (some (false)))
      (some (false)))
     (some (false)))) = some (if d ≠ 0 then decide (0 < hd_ h s d) && decide (at_ b t = 0)
 else decide (sd (at_ b f) = s /\ sd (at_ b t) ≠ s /\ kd (at_ b t) ≠ 8) && (!p || decide (up_ (kd (at_ b f)) ≠ 0))) := by
   by_cases h0 : d = 0
   ·rw [qt h0, if_neg (by simpa using h0), qCq, qA, qCq, qA, qDA, qA]
    by_cases e1 : sd (at_ b f) = s
    ·rw [qj e1, qDA, qA]
     by_cases e2 : sd (at_ b t) = s
     ·rw [qt e2, decide_eq_false (p := sd (at_ b f) = s /\ sd (at_ b t) ≠ s /\ kd (at_ b t) ≠ 8) (fun h => h.2.1 e2)]; rfl
     ·rw [qp e2, qBO, qA]
      by_cases e3 : kd (at_ b t) = 8
      ·rw [qt e3, decide_eq_false (p := sd (at_ b f) = s /\ sd (at_ b t) ≠ s /\ kd (at_ b t) ≠ 8) (fun h => h.2.2 e3)]; rfl
      ·rw [qp e3, decide_eq_true (p := sd (at_ b f) = s /\ sd (at_ b t) ≠ s /\ kd (at_ b t) ≠ 8) ⟨e1, e2, e3⟩]
       cases p with
       | false => rfl
       | true =>
         rw [Bool.not_true, b_f, qBO, qA, qJx, qA]
         by_cases e4 : up_ (kd (at_ b f)) = 0 <;> simp [e4]
    ·rw [qi e1, decide_eq_false (p := sd (at_ b f) = s /\ sd (at_ b t) ≠ s /\ kd (at_ b t) ≠ 8) (fun h => e1 h.1)]; rfl
   ·have := hd h0
    rw [qp h0, if_pos h0, qKp hs (by omega) (by omega), qA]
    by_cases e1 : hd_ h s d > 0
    ·rw [qBK e1, qCq, qA, decide_eq_true (p := 0 < hd_ h s d) e1, Bool.true_and]
     by_cases e2 : at_ b t = 0 <;> simp [e2]
    ·rw [qBL e1, decide_eq_false (p := 0 < hd_ h s d) e1, Bool.false_and]
  rw [qt hm, decide_eq_true hm, decide_eq_true hs, Bool.true_and, Bool.true_and, <- main]
  rcases hs with rfl | rfl <;> rfl
 ·rw [qp hm, decide_eq_false hm, Bool.false_and]
theorem qWQ {b : List Int} (hc : Clean b) {h : List Int} {s : Int} (hs : s = 0 \/ s = 1) {k k' : Nat} (hno : inC b (1 - s) = false) (hk : KS b s k) (hk' : KS b (1 - s) k') {m : List Int} (hm : m ∈ lgL b h s) :
  Mv4 m /\ qAD b h s (m0 m) (m1 m) (m2 m) (m3 m) = true /\ qC1 b h s m = true /\ qBg b s m = true := by
 have h1 := qJA hc hs (qia hc hs hm)
 rw [qWY hc h hs hno hk hk'] at hm
 have h2 := (List.mem_filter.mp hm).2
 refine ⟨h1.1, h1.2, h2, ?_⟩
 unfold qC1 at h2
 rw [Bool.and_eq_true] at h2
 exact h2.1
theorem qi4 {b h : List Int} {s f t d : Int} {p : Bool} (hm : qAD b h s f t d p = true) : qB1 b h s f t d p = true := by
 unfold qAD at hm
 rw [Bool.and_eq_true] at hm
 exact hm.1
end Go.Kk.Pl
namespace Go.Kk.Pl
theorem qEo {p : Nat -> Bool} {a n : Nat} : (List.range' a n).any p = false ↔ ∀ i, a <= i -> i < a + n -> p i = false := by
 rw [List.any_eq_false]
 constructor
 ·intro h i h1 h2
  have := h i (List.mem_range'_1.mpr ⟨h1, h2⟩)
  simpa using this
 ·intro h i hi
  obtain ⟨h1, h2⟩ := List.mem_range'_1.mp hi
  rw [h i h1 h2]; simp
structure ChkP (b h : List Int) (s : Int) : Prop where
 side : s = 0 \/ s = 1
 good : ∀ i, i < 81 -> bsP b i = false
 hands : ∀ k, k < 8 -> ∀ j, j < 2 -> bsH h k j = false
 kings : nP b 8 = 1 /\ nP b 24 = 1
 over : ∀ k, 1 <= k -> k < 8 -> qBr b h k = false
 dead : ∀ i, i < 81 -> qAz (b.getD i 0) i = false
 nifu : ∀ f, f < 9 -> qBG b f = false
theorem qTm {b h : List Int} {s : Int} : qAy b h s = 0 ↔ ChkP b h s := by
 constructor
 ·intro hz
  unfold qAy at hz
  split at hz
  ·omega
  rename_i h1
  split at hz
  ·omega
  rename_i h2
  split at hz
  ·omega
  rename_i h3
  split at hz
  ·omega
  rename_i h4
  split at hz
  ·omega
  rename_i h5
  split at hz
  ·omega
  rename_i h6
  split at hz
  ·omega
  rename_i h7
  rw [Bool.not_eq_true, qEo] at h2 h3 h5 h6 h7
  refine ⟨by omega, fun i hi => h2 i (by omega) (by omega), fun k hk j hj => ?_, by simpa using h4, fun k k1 k2 => h5 k k1 (by omega), fun i hi => h6 i (by omega) (by omega), fun f hf => h7 f (by omega) (by omega)⟩
  have := h3 k (by omega) (by omega)
  rw [qEo] at this
  exact this j (by omega) (by omega)
 ·intro ⟨a1, a2, a3, a4, a5, a6, a7⟩
  unfold qAy
  rw [if_neg (by omega), if_neg (by rw [qEo.mpr fun i _ hi => a2 i (by omega)]; simp), if_neg (by rw [qEo.mpr fun k _ hk => qEo.mpr fun j _ hj => a3 k (by omega) j (by omega)]; simp), if_neg (by simpa using a4),
   if_neg (by rw [qEo.mpr fun k k1 hk => a5 k k1 (by omega)]; simp), if_neg (by rw [qEo.mpr fun i _ hi => a6 i (by omega)]; simp), if_neg (by rw [qEo.mpr fun i _ hi => a7 i (by omega)]; simp)]
theorem qqB {n : Nat} {p : Nat -> Bool} : (List.range n).countP p <= 1 ↔ ∀ i j, i < n -> j < n -> p i = true -> p j = true -> i = j := by
 rw [List.countP_eq_length_filter]
 have hn : ((List.range n).filter p).Nodup := List.Nodup.sublist List.filter_sublist List.nodup_range
 have hm : ∀ i, i ∈ (List.range n).filter p ↔ i < n /\ p i = true := by
  intro i; rw [List.mem_filter, List.mem_range]
 match he : (List.range n).filter p with
 | [] =>
   rw [he] at hm
   refine ⟨fun _ i j hi _ h1 _ => ?_, fun _ => by simp⟩
   have := (hm i).mpr ⟨hi, h1⟩
   cases this
 | [a] =>
   rw [he] at hm
   refine ⟨fun _ i j hi hj h1 h2 => ?_, fun _ => by simp⟩
   have e1 := (hm i).mpr ⟨hi, h1⟩
   have e2 := (hm j).mpr ⟨hj, h2⟩
   rw [List.mem_singleton] at e1 e2
   rw [e1, e2]
 | a :: c :: L =>
   rw [he] at hm hn
   refine ⟨fun h => ?_, fun h => ?_⟩
   ·simp at h
   ·exfalso
    have ea := (hm a).mp (by simp)
    have ec := (hm c).mp (by simp)
    have := h a c ea.1 ec.1 ea.2 ec.2
    subst this
    simp at hn
theorem qjW {b : List Int} {x : Int} {f : Nat} : nF b x f <= 1 ↔ ∀ r r', r < 9 -> r' < 9 -> b.getD (9 * f + r) 0 = x -> b.getD (9 * f + r') 0 = x -> r = r' := by
 unfold nF
 rw [qqB]
 constructor
 ·intro h r r' hr hr' e e'
  exact h r r' hr hr' (by simpa using e) (by simpa using e')
 ·intro h r r' hr hr' e e'
  exact h r r' hr hr' (by simpa using e) (by simpa using e')
theorem qjX {b : List Int} {x : Int} {f : Nat} : nF b x f = 0 ↔ ∀ r, r < 9 -> b.getD (9 * f + r) 0 ≠ x := by
 unfold nF
 rw [List.countP_eq_zero]
 constructor
 ·intro h r hr e
  exact h r (List.mem_range.mpr hr) (by simpa using e)
 ·intro h r hr e
  exact h r (List.mem_range.mp hr) (by simpa using e)
theorem qXK {b : List Int} {s : Int} {k : Nat} (h : KS b s k) : nP b (pc s 8) = 1 := by
 show qAq (fun i => b.getD i 0 == pc s 8) = 1
 rw [qG1]
 exact ⟨k, h.1, fun i hi => by rw [beq_iff_eq]; exact h.2 i hi⟩
theorem qby {b h : List Int} {s : Int} (hl : b.length = 81) (hf : qAU h) (hz : qAy b h s = 0) : Sound b h s := by
 obtain ⟨hc, _⟩ := qKR hl hz
 obtain ⟨v, hv, hS⟩ := qfS hc hf s
 rw [qnM hl hf] at hv
 exact hS (by rw [<- Option.some.inj hv]; exact hz)
theorem qfj {b h : List Int} {s f t d : Int} {p : Bool} (hl : b.length = 81) (hf : qAU h) (hh : h.length = 16) (hz : qAy b h s = 0) (hm : qAD b h s f t d p = true) : qAy (mb b s f t d p) (mh b h s t d) (1 - s) = 0 := by
 obtain ⟨hc, hs⟩ := qKR hl hz
 have hP := (qFK hm).2
 have hS := qby hl hf hz
 have hC := qTm.mp hz
 have hs' : 1 - s = 0 \/ 1 - s = 1 := by omega
 obtain ⟨k, hk⟩ := qKx hz hs
 obtain ⟨k', hk'⟩ := qKx hz hs'
 have ht := hP.to_
 have hla := qFH hs hP
 have hc2 : Clean (mb b s f t d p) := qO7 hc _ _ _ _ _
 have hmv : if d ≠ 0 then (!qDP (16 * s + d) t && (decide (d ≠ 1) || decide (nF b (16 * s + d) (t.toNat / 9) = 0))) = true
   else (rch (at_ b f) f.toNat t.toNat (tk b) && if p = true then qCg (at_ b f) f t else !qC2 (at_ b f) t) = true := by
  have := hm
  unfold qAD at this
  rw [Bool.and_eq_true] at this
  have := this.2
  by_cases hd : d = 0
  ·rw [if_neg (by simpa using hd)] at this ⊢
   exact this
  ·rw [if_pos hd] at this ⊢
   exact this
 have hhand : ∀ j : Int, (j = 0 \/ j = 1) -> ∀ i : Int, 0 <= i -> i < 8 -> (hd_ (mh b h s t d) j i = hd_ h j i \/ (1 <= i /\ 0 <= hd_ (mh b h s t d) j i)) := by
  intro j hj i i0 i8
  unfold mh
  by_cases hd : d = 0
  ·have hmm := hP.move hd
   rw [if_neg (by simpa using hd)]
   by_cases h0 : at_ b t = 0
   ·rw [if_pos h0]; exact .inl rfl
   ·rw [if_neg h0]
    have hr := qH9 ((hc.at_ t).resolve_left h0) hmm.2.2.2.2.2.1
    rw [qFB hh hs (by omega) (by omega) 1 hj i0 i8]
    split
    ·right
     rename_i he
     have h1 := hS.hands (rw_ (kd (at_ b t))) (by omega) (by omega)
     have h2 := hS.counts (rw_ (kd (at_ b t))) (by omega) (by omega)
     have h3 : 0 <= hd_ h s (rw_ (kd (at_ b t))) /\ hd_ h s (rw_ (kd (at_ b t))) <= 18 := by
      rcases hs with rfl | rfl <;> omega
     rw [w_8 (by omega) (by omega)]
     omega
    ·exact .inl rfl
  ·have hmm := hP.drop hd
   rw [if_pos hd, qFB hh hs (by omega) (by omega) (-1) hj i0 i8]
   split
   ·right
    have := qG5 hf s d
    rw [w_8 (by omega) (by omega)]
    omega
   ·exact .inl rfl
 rw [qTm]
 refine ⟨hs', fun i hi => ?_, fun i hi j hj => ?_, ?_, fun i i1 i2 => ?_, fun i hi => ?_, fun g hg => ?_⟩
 ·unfold bsP
  rw [decide_eq_false_iff_not]
  rintro ⟨h1, h2⟩
  have := hc2.at_ i
  rw [qAY (by omega), tn] at this
  exact this.elim h1 (fun h => h h2)
 ·have h1 := hC.hands i hi j hj
  unfold bsH at h1 ⊢
  rw [decide_eq_false_iff_not] at h1 ⊢
  have h2 := hhand j (by omega) i (by omega) (by omega)
  unfold hd_ at h2
  rw [show (j : Int).toNat * 8 + (i : Int).toNat = j * 8 + i from rfl] at h2
  omega
 ·have e1 := qXK (qOm hc hs hP hk)
  have e2 := qXK (qKw hc hs hP hk')
  rw [pc8 hs] at e1
  rw [pc8 hs'] at e2
  rcases hs with rfl | rfl
  ·exact ⟨e1, e2⟩
  ·exact ⟨e2, e1⟩
 ·have h1 := hC.over i i1 i2
  unfold qBr at h1 ⊢
  rw [decide_eq_false_iff_not] at h1 ⊢
  have := qk5 hS hf hh hP (k := (i : Int)) (by omega) (by omega)
  omega
 ·rw [qEB hc hs hP hi]
  by_cases h1 : i = t.toNat
  ·rw [if_pos h1, h1]
   unfold laid
   by_cases hd : d = 0
   ·rw [if_neg (by simpa using hd)]
    rw [if_neg (by simpa using hd)] at hmv
    have hmm := hP.move hd
    cases p with
    | true =>
      rw [if_pos rfl]
      obtain ⟨u1, u2, u3⟩ := qIW (hmm.2.2.2.2.2.2 rfl)
      have : 9 <= up_ (kd (at_ b f)) := by
       have hu := hmm.2.2.2.2.2.2 rfl
       unfold up_ at hu ⊢
       split
       ·omega
       ·rename_i h; rw [if_neg h] at hu; exact absurd rfl hu
      unfold qAz
      rw [qHK hs u1 u2 u3, decide_eq_false_iff_not]
      omega
    | false =>
      rw [if_neg (by simp)]
      rw [if_neg (by simp), Bool.and_eq_true] at hmv
      have h2 := hmv.2
      cases hdd : qAz (at_ b f) t.toNat with
      | false => rfl
      | true =>
        exfalso
        have hk : kd (at_ b f) = 1 \/ kd (at_ b f) = 2 \/ kd (at_ b f) = 3 := by
         have := of_decide_eq_true hdd
         omega
        unfold qC2 at h2
        rw [show t = ((t.toNat : Nat) : Int) by omega, qNt _ (by omega), hdd] at h2
        have : up_ (kd (at_ b f)) ≠ 0 := by unfold up_; rw [if_pos (by omega)]; omega
        rw [decide_eq_true this] at h2
        cases h2
   ·rw [if_pos hd]
    rw [if_pos hd, Bool.and_eq_true] at hmv
    have h2 := hmv.1
    rw [show t = ((t.toNat : Nat) : Int) by omega, qNt _ (by omega)] at h2
    simpa using h2
  ·rw [if_neg h1]
   by_cases h2 : d = 0 /\ i = f.toNat
   ·rw [if_pos h2]
    unfold qAz
    rw [qFE]
    simp
   ·rw [if_neg h2]; exact hC.dead i hi
 ·have key : ∀ x : Int, (x = 1 \/ x = 17) -> nF (mb b s f t d p) x g <= 1 := by
   intro x hx
   have hxk : kd x = 1 := by rcases hx with rfl | rfl <;> decide
   have hold : nF b x g <= 1 := by
    have := hC.nifu g hg
    unfold qBG at this
    simp only [Bool.or_eq_false_iff, decide_eq_false_iff_not] at this
    rcases hx with rfl | rfl <;> omega
   rw [qjW] at hold ⊢
   have from_ : ∀ r, r < 9 -> (mb b s f t d p).getD (9 * g + r) 0 = x -> (b.getD (9 * g + r) 0 = x /\ ¬ (d = 0 /\ 9 * g + r = f.toNat)) \/ 9 * g + r = t.toNat := by
    intro r hr e
    rw [qEB hc hs hP (by omega)] at e
    by_cases h1 : 9 * g + r = t.toNat
    ·exact .inr h1
    ·rw [if_neg h1] at e
     by_cases h2 : d = 0 /\ 9 * g + r = f.toNat
     ·rw [if_pos h2] at e
      rcases hx with rfl | rfl <;> omega
     ·rw [if_neg h2] at e
      exact .inl ⟨e, h2⟩
   have lay : ∀ r, r < 9 -> 9 * g + r = t.toNat -> (mb b s f t d p).getD (9 * g + r) 0 = x -> ∀ r', r' < 9 -> (b.getD (9 * g + r') 0 = x /\ ¬ (d = 0 /\ 9 * g + r' = f.toNat)) -> False := by
    intro r hr he e r' hr' e'
    rw [qEB hc hs hP (by omega), if_pos he] at e
    unfold laid at e
    by_cases hd : d = 0
    ·rw [if_neg (by simpa using hd)] at e hmv
     have hmm := hP.move hd
     cases p with
     | true =>
       rw [if_pos rfl] at e
       have hu := hmm.2.2.2.2.2.2 rfl
       obtain ⟨u1, u2, u3⟩ := qIW hu
       have : kd (16 * s + up_ (kd (at_ b f))) = 1 := by rw [e, hxk]
       rw [qHK hs u1 u2 u3] at this
       unfold up_ at this
       split at this <;> omega
     | false =>
       rw [if_neg (by simp)] at e
       rw [Bool.and_eq_true] at hmv
       have hr1 := hmv.1
       have hfl : df f.toNat t.toNat = 0 := by
        rcases qBu.mp hr1 with h1 | h1
        ·have h2 := of_decide_eq_true h1
         rw [e, hxk] at h2
         unfold qBy at h2
         omega
        ·have h2 := of_decide_eq_true h1.1
         rw [e, hxk] at h2
         unfold slK at h2
         omega
       unfold df fl at hfl
       have hfe : f.toNat = 9 * g + f.toNat % 9 := by omega
       have : b.getD (9 * g + f.toNat % 9) 0 = x := by
        rw [<- hfe, <- qAY ⟨hmm.1, hmm.2.1⟩]; exact e
       have := hold (f.toNat % 9) r' (by omega) hr' this e'.1
       exact e'.2 ⟨hd, by omega⟩
    ·rw [if_pos hd] at e hmv
     rw [Bool.and_eq_true] at hmv
     have hdd := hP.drop hd
     have hd1 : d = 1 := by rcases hs with rfl | rfl <;> rcases hx with rfl | rfl <;> omega
     have hz0 : nF b (16 * s + d) (t.toNat / 9) = 0 := by
      have := hmv.2
      rw [decide_eq_false (p := d ≠ 1) (by simpa using hd1), Bool.false_or, decide_eq_true_eq] at this
      exact this
     rw [e, show t.toNat / 9 = g by omega, qjX] at hz0
     exact hz0 r' hr' e'.1
   intro r r' hr hr' e e'
   rcases from_ r hr e with h1 | h1
   ·rcases from_ r' hr' e' with h2 | h2
    ·exact hold r r' hr hr' h1.1 h2.1
    ·exact (lay r' hr' h2 e' r hr h1).elim
   ·rcases from_ r' hr' e' with h2 | h2
    ·exact (lay r hr h1 e r' hr' h2).elim
    ·omega
  unfold qBG
  have k1 := key 1 (.inl rfl)
  have k2 := key 17 (.inr rfl)
  rw [decide_eq_false (by omega), decide_eq_false (by omega)]
  rfl
theorem qdY {b h : List Int} {s f t d : Int} {p : Bool} (hl : b.length = 81) (hf : qAU h) (hh : h.length = 16) (hz : qAy b h s = 0) (hm : qAD b h s f t d p = true) (hsafe : inC (mb b s f t d p) s = false) : qDI (mb b s f t d p) (mh b h s t d) (1 - s) = 0 := by
 have h1 := qfj hl hf hh hz hm
 unfold qDI
 rw [if_neg (by rw [h1]; simp), show 1 - (1 - s) = s by omega, hsafe]
 rfl
theorem qSA {b h : List Int} {s : Int} (hz : qDI b h s = 0) : qAy b h s = 0 := by
 unfold qDI at hz
 split at hz
 ·rename_i h; exact absurd hz h
 ·rename_i h; simpa using h
end Go.Kk.Pl
namespace Go.Kk.Pl
theorem qpk {b : List Int} (hc : Clean b) (h : List Int) {s : Int} (hs : s = 0 \/ s = 1) {k k' : Nat} (hk : KS b s k) (hk' : KS b (1 - s) k') :
  qHW b h s (qI b) (qO b) = some (decide ((lgL b h s).length = 0), b, h, s, qI b, qO b) := by
 unfold qHW
 rw [qV7 hc h hs hk hk', qA]
 simp only
 congr 2
 rw [Bool.eq_iff_iff, decide_eq_true_eq, beq_iff_eq]
 exact ⟨fun h => by simpa using h, fun h => by rw [h]; rfl⟩
end Go.Kk.Pl
namespace Go.Kk.Pl
theorem qhQ (h : List Int) (s k : Nat) (hk : k < 8) : (List.take 8 (List.drop (s * 7 + s) h)).getD k 0 = h.getD (s * 8 + k) 0 := by
 rw [List.getD_eq_getElem?_getD, List.getD_eq_getElem?_getD, List.getElem?_take, if_pos hk, List.getElem?_drop, show s * 7 + s + k = s * 8 + k by omega]
abbrev B64 := BitVec 64
def bv (n : Int) : B64 := BitVec.ofInt 64 n
def un (x : B64) : Int := (x.toNat : Int)
theorem qBM (x : B64) : bv (un x) = x := by
 unfold bv un
 rw [BitVec.ofInt_natCast, BitVec.ofNat_toNat]; simp
theorem qEk (a b : Int) : qD .xor .u64 a b = un (bv a ^^^ bv b) := by
 show IntKind.wrap .u64 _ = _
 have h : IntKind.wrap .u64 ((BitVec.ofInt 64 a ^^^ BitVec.ofInt 64 b).toNat : Int) = ((BitVec.ofInt 64 a ^^^ BitVec.ofInt 64 b).toNat : Int) :=
  qBJ (by show (0 : Int) <= _; omega) (by show _ <= (18446744073709551615 : Int); have := (BitVec.ofInt 64 a ^^^ BitVec.ofInt 64 b).isLt; omega)
 exact h
def pcB (q x : Int) : B64 := bv ((qB5 q x).getD 0)
def hnB (s k n : Int) : B64 := bv ((qCd s k n).getD 0)
def sdB : B64 := bv (qCf.getD 0)
theorem qOU (x : Int) : ∃ v : B64, qDY x = some (un v) := by
 unfold qDY
 rw [qEk]
 exact ⟨_, rfl⟩
theorem qRs {m : Option Int} (h : ∃ v : B64, m = some (un v)) : m = some (un (bv (m.getD 0))) := by
 obtain ⟨v, rfl⟩ := h
 simp [qBM]
theorem qKO {b : Bool} {x y : Option Int} (hx : ∃ v : B64, x = some (un v)) (hy : ∃ v : B64, y = some (un v)) : ∃ v : B64, br b x y = some (un v) := by cases b <;> assumption
theorem qXR {α : Type} {m : Option α} {k : α -> Option Int} (hm : ∃ v, m = some v) (hk : ∀ a, m = some a -> ∃ v : B64, k a = some (un v)) : ∃ v : B64, ob m k = some (un v) := by
 obtain ⟨a, rfl⟩ := hm
 exact hk a rfl
theorem qVY (q x : Int) : qB5 q x = some (un (pcB q x)) := qRs (by
 unfold qB5
 refine qXR (qV4 _) fun a _ => ?_
 refine qKO ⟨0, rfl⟩ (qKO ⟨0, rfl⟩ (qKO ⟨0, rfl⟩ (qXR (qLA _) fun a ha => ?_)))
 obtain ⟨v, hv⟩ := qOU _
 rw [hv] at ha
 cases ha
 exact ⟨v, rfl⟩)
theorem qVX (s k n : Int) : qCd s k n = some (un (hnB s k n)) := qRs (by
 have tail : ∀ x : Int, ∃ v : B64, (ob (qDY x) fun r => some r) = some (un v) := fun x => by
  obtain ⟨v, hv⟩ := qOU x
  exact ⟨v, by rw [hv]; rfl⟩
 unfold qCd
 repeat first | exact ⟨0, rfl⟩ | exact tail _ | apply qKO)
theorem qVZ : qCf = some (un sdB) := qRs (by
 unfold qCf
 obtain ⟨v, hv⟩ := qOU 1048576
 exact ⟨v, by rw [hv]; rfl⟩)
def qAV (b : List Int) : Nat -> B64
 | 0 => 0
 | n + 1 => qAV b n ^^^ pcB n (b.getD n 0)
def qBD (h : List Int) (s : Nat) : Nat -> B64
 | 0 => 0
 | n + 1 => qBD h s n ^^^ hnB s n (conv .i8 .i64 (h.getD (s * 8 + n) 0))
def qDU (h : List Int) : B64 := qBD h 0 8 ^^^ qBD h 1 8
theorem qc1 (a b : B64) : a ^^^ (b ^^^ a) = b := by rw [BitVec.xor_comm b a, <- BitVec.xor_assoc, BitVec.xor_self, BitVec.zero_xor]
theorem qe8 : ∀ (n : Nat) (q : Nat) (acc : B64) (b c d : List Int) (e : Int) (f : Nat), q + n = 81 ->
  qCK (f + n + 1) (un acc) b q c d e = some (un (acc ^^^ qAV b q ^^^ qAV b 81), c, d, e) := by
 intro n
 induction n with
 | zero =>
   intro q acc b c d e f hq
   have : q = 81 := by omega
   subst this
   show qDW (qCK (f + 0)) (un acc) b _ c d e = _
   unfold qDW
   rw [qJ (by decide), BitVec.xor_assoc, BitVec.xor_self, BitVec.xor_zero]
 | succ n ih =>
   intro q acc b c d e f hq
   show qDW (qCK (f + n + 1)) (un acc) b q c d e = _
   unfold qDW
   rw [qF (by simp; omega), qF (qAK (by omega) (by omega))]
   simp only [cond_true, Int.toNat_natCast]
   rw [qVY]
   show qCK (f + n + 1) (qD .xor .u64 (un acc) (un (pcB q (b.getD q 0)))) b (IntKind.wrap .i64 ((q : Int) + 1)) c d e = _
   rw [qAJ (by omega) (by omega), qEk, qBM, qBM]
   have := ih (q + 1) (acc ^^^ pcB q (b.getD q 0)) b c d e f (by omega)
   rw [Int.natCast_add] at this
   rw [show ((q : Int) + 1) = (q : Int) + (1 : Nat) from rfl, this]
   congr 3
   show acc ^^^ pcB q (b.getD q 0) ^^^ (qAV b q ^^^ pcB q (b.getD q 0)) ^^^ qAV b 81 = _
   rw [BitVec.xor_assoc acc, qc1]
theorem qhU (s : Nat) : ∀ (n : Nat) (k : Nat) (acc : B64) (h x2 : List Int) (x3 : Int) (x6 x7 : List Int) (x8 : Int) (f : Nat), k + n = 8 ->
  qCe (f + n + 1) (un acc) s x2 x3 (List.take 8 (List.drop (s * 7 + s) h)) k x6 x7 x8 = some (un (acc ^^^ qBD h s k ^^^ qBD h s 8), x2, x3, x6, x7, x8) := by
 intro n
 induction n with
 | zero =>
   intro k acc h x2 x3 x6 x7 x8 f hk
   have : k = 8 := by omega
   subst this
   show qDV (qCe (f + 0)) (un acc) s x2 x3 _ _ x6 x7 x8 = _
   unfold qDV
   rw [qJ (by decide), BitVec.xor_assoc, BitVec.xor_self, BitVec.xor_zero]
 | succ n ih =>
   intro k acc h x2 x3 x6 x7 x8 f hk
   show qDV (qCe (f + n + 1)) (un acc) s x2 x3 _ k x6 x7 x8 = _
   unfold qDV
   rw [qF (by simp; omega), qF (qAK (by omega) (by omega))]
   simp only [cond_true, Int.toNat_natCast]
   rw [qhQ h s k (by omega), qVX]
   show qCe (f + n + 1) (qD .xor .u64 (un acc) (un (hnB s k (conv .i8 .i64 (h.getD (s * 8 + k) 0))))) s x2 x3 _ (IntKind.wrap .i64 ((k : Int) + 1)) x6 x7 x8 = _
   rw [qAJ (by omega) (by omega), qEk, qBM, qBM]
   have := ih (k + 1) (acc ^^^ hnB s k (conv .i8 .i64 (h.getD (s * 8 + k) 0))) h x2 x3 x6 x7 x8 f (by omega)
   rw [Int.natCast_add] at this
   rw [show ((k : Int) + 1) = (k : Int) + (1 : Nat) from rfl, this]
   congr 3
   show acc ^^^ hnB s k (conv .i8 .i64 (h.getD (s * 8 + k) 0)) ^^^ (qBD h s k ^^^ hnB s k (conv .i8 .i64 (h.getD (s * 8 + k) 0))) ^^^ qBD h s 8 = _
   rw [BitVec.xor_assoc acc, qc1]
theorem qhW (acc : B64) (h c : List Int) (e : Int) : qBo qC (un acc) h 0 c h e = some (un (acc ^^^ qDU h), c, h, e) := by
 obtain ⟨f, hf⟩ := qd 2 (by omega)
 obtain ⟨g, hg⟩ := qd 8 (by omega)
 have step : ∀ (s : Nat) (hs : s < 2) (acc : B64) (f : Nat), qBo (f + 1) (un acc) h s c h e = qBo f (un (acc ^^^ qBD h s 8)) h (s + 1 : Nat) c h e := by
  intro s hs acc f
  show qDX (qBo f) (un acc) h s c h e = _
  unfold qDX
  rw [qF (by simp; omega), qF (qAK (by omega) (by omega)), hg]
  show ob (qCe (g + 8 + 1) (un acc) s h s (List.take 8 (List.drop (Int.toNat s * 7 + Int.toNat s) h)) (0 : Nat) c h e) _ = _
  rw [Int.toNat_natCast, qhU s 8 0 acc h h s c h e g (by omega)]
  show qBo f (un (acc ^^^ 0 ^^^ qBD h s 8)) h (IntKind.wrap .i64 ((s : Int) + 1)) c h e = _
  have z : acc ^^^ (0 : B64) = acc := by simp
  rw [qAJ (by omega) (by omega), z]
  rfl
 rw [hf]
 have e1 := step 0 (by omega) acc (f + 2)
 have e2 := step 1 (by omega) (acc ^^^ qBD h 0 8) (f + 1)
 rw [show f + 2 + 1 = f + 2 + 1 from rfl, show (0 : Int) = ((0 : Nat) : Int) from rfl, e1]
 rw [show f + 2 = f + 1 + 1 from rfl, e2]
 show qDX (qBo f) _ h 2 c h e = _
 unfold qDX
 rw [qJ (by decide), BitVec.xor_assoc]
 rfl
def qAR (b h : List Int) (s : Int) : B64 := bif s == 1 then qAV b 81 ^^^ qDU h ^^^ sdB else qAV b 81 ^^^ qDU h
theorem qhh (b h : List Int) (s : Int) : qCz b h s = some (un (qAR b h s)) := by
 obtain ⟨g, hg⟩ := qd 81 (by omega)
 have e2 : qCK qC 0 b 0 b h s = some (un (qAV b 81), b, h, s) := by
  rw [hg]
  have := qe8 81 0 0 b b h s g (by omega)
  rw [show (0 : B64) ^^^ qAV b 0 ^^^ qAV b 81 = qAV b 81 by show (0 : B64) ^^^ 0 ^^^ _ = _; simp] at this
  exact this
 unfold qCz
 rw [e2]
 show ob (qBo qC (un (qAV b 81)) h 0 b h s) _ = _
 rw [qhW]
 show br (s == 1) (ob qCf fun r10 => some (qD .xor .u64 (un (qAV b 81 ^^^ qDU h)) r10)) (some (un (qAV b 81 ^^^ qDU h))) = _
 unfold qAR
 cases hs : s == 1
 ·rfl
 ·rw [qVZ]
  show some (qD .xor .u64 _ _) = _
  rw [qEk, qBM, qBM]
  rfl
theorem qeH (b : List Int) (i : Nat) (x : Int) (hi : i < b.length) : ∀ n, qAV (b.set i x) n = if i < n then qAV b n ^^^ pcB i (b.getD i 0) ^^^ pcB i x else qAV b n := by
 intro n
 induction n with
 | zero => rfl
 | succ n ih =>
   show qAV (b.set i x) n ^^^ pcB n ((b.set i x).getD n 0) = _
   rw [ih]
   rcases Nat.lt_trichotomy i n with h | h | h
   ·rw [if_pos h, if_pos (by omega)]
    have : (b.set i x).getD n 0 = b.getD n 0 := by
     rw [List.getD_eq_getElem?_getD, List.getD_eq_getElem?_getD, List.getElem?_set_ne (by omega)]
    rw [this]
    show qAV b n ^^^ pcB i (b.getD i 0) ^^^ pcB i x ^^^ pcB n (b.getD n 0) = qAV b n ^^^ pcB n (b.getD n 0) ^^^ pcB i (b.getD i 0) ^^^ pcB i x
    ac_rfl
   ·subst h
    rw [if_neg (by omega), if_pos (by omega)]
    have : (b.set i x).getD i 0 = x := by
     rw [List.getD_eq_getElem?_getD, List.getElem?_set_self hi]; rfl
    rw [this]
    show qAV b i ^^^ pcB i x = qAV b i ^^^ pcB i (b.getD i 0) ^^^ pcB i (b.getD i 0) ^^^ pcB i x
    rw [BitVec.xor_assoc (qAV b i), BitVec.xor_self, BitVec.xor_zero]
   ·rw [if_neg (by omega), if_neg (by omega)]
    have : (b.set i x).getD n 0 = b.getD n 0 := by
     rw [List.getD_eq_getElem?_getD, List.getD_eq_getElem?_getD, List.getElem?_set_ne (by omega)]
    rw [this]
    rfl
theorem qVR (h : List Int) (s0 k0 : Nat) (x : Int) (hk : k0 < 8) (hi : s0 * 8 + k0 < h.length) (s : Nat) : ∀ n, n <= 8 -> qBD (h.set (s0 * 8 + k0) x) s n =
  if s = s0 /\ k0 < n then qBD h s n ^^^ hnB s0 k0 (conv .i8 .i64 (h.getD (s0 * 8 + k0) 0)) ^^^ hnB s0 k0 (conv .i8 .i64 x) else qBD h s n := by
 intro n
 induction n with
 | zero => intro _; rw [if_neg (by omega)]; rfl
 | succ n ih =>
   intro hn
   show qBD (h.set (s0 * 8 + k0) x) s n ^^^ hnB s n (conv .i8 .i64 ((h.set (s0 * 8 + k0) x).getD (s * 8 + n) 0)) = _
   rw [ih (by omega)]
   by_cases hq : s * 8 + n = s0 * 8 + k0
   ·have e1 : s = s0 := by omega
    have e2 : n = k0 := by omega
    subst e1
    subst e2
    rw [if_neg (by omega), if_pos (by omega)]
    have : (h.set (s * 8 + n) x).getD (s * 8 + n) 0 = x := by
     rw [List.getD_eq_getElem?_getD, List.getElem?_set_self hi]; rfl
    rw [this]
    show qBD h s n ^^^ hnB s n (conv .i8 .i64 x) = qBD h s n ^^^ hnB s n (conv .i8 .i64 (h.getD (s * 8 + n) 0)) ^^^ hnB s n (conv .i8 .i64 (h.getD (s * 8 + n) 0)) ^^^ hnB s n (conv .i8 .i64 x)
    rw [BitVec.xor_assoc (qBD h s n), BitVec.xor_self, BitVec.xor_zero]
   ·have : (h.set (s0 * 8 + k0) x).getD (s * 8 + n) 0 = h.getD (s * 8 + n) 0 := by
     rw [List.getD_eq_getElem?_getD, List.getD_eq_getElem?_getD, List.getElem?_set_ne (by omega)]
    rw [this]
    by_cases hc : s = s0 /\ k0 < n
    ·rw [if_pos hc, if_pos (by omega)]
     show _ = qBD h s n ^^^ hnB s n (conv .i8 .i64 (h.getD (s * 8 + n) 0)) ^^^ _ ^^^ _
     ac_rfl
    ·rw [if_neg hc, if_neg (by omega)]
     rfl
theorem qhV (h : List Int) (s0 k0 : Nat) (x : Int) (hs : s0 < 2) (hk : k0 < 8) (hh : h.length = 16) :
  qDU (h.set (s0 * 8 + k0) x) = qDU h ^^^ hnB s0 k0 (conv .i8 .i64 (h.getD (s0 * 8 + k0) 0)) ^^^ hnB s0 k0 (conv .i8 .i64 x) := by
 unfold qDU
 rw [qVR h s0 k0 x hk (by omega) 0 8 (Nat.le_refl _), qVR h s0 k0 x hk (by omega) 1 8 (Nat.le_refl _)]
 have : s0 = 0 \/ s0 = 1 := by omega
 rcases this with rfl | rfl
 ·rw [if_pos (by omega), if_neg (by omega)]; ac_rfl
 ·rw [if_neg (by omega), if_pos (by omega)]; ac_rfl
theorem qKv (b h : List Int) (s : Int) : kof b h s = un (qAR b h s) := by unfold kof; rw [qhh]; rfl
theorem qV6 (q x : Int) : kp q x = un (pcB q x) := by unfold kp; rw [qVY]; rfl
theorem qV3 (s k n : Int) : kh s k n = un (hnB s k n) := by unfold kh; rw [qVX]; rfl
theorem qiG : qI5 = un sdB := by unfold qI5; rw [qVZ]; rfl
theorem qkh {q x : Int} (h : kd x = 0) : pcB q x = pcB q 0 := by
 have e : ∀ y, kd y = 0 -> qB5 q y = some 0 := by
  intro y hy
  unfold qB5
  rw [qBO, qA, hy]
  rfl
 unfold pcB
 rw [e x h, e 0 qFE]
theorem qhl {b : List Int} (hl : b.length = 81) {q : Int} (hq : 0 <= q /\ q < 81) (x : Int) (h : List Int) (s : Int) : qAR (put b q x) h s = qAR b h s ^^^ pcB q (at_ b q) ^^^ pcB q x := by
 have e : pcB q (if kd x = 0 then 0 else x) = pcB q x := by
  split
  ·rename_i h; exact (qkh h).symm
  ·rfl
 unfold qAR put at_
 rw [if_pos hq, if_pos hq]
 revert e
 generalize (if kd x = 0 then 0 else x) = y
 intro e
 have qv := qeH b q.toNat y (by omega) 81
 rw [if_pos (show q.toNat < 81 by omega), show ((q.toNat : Nat) : Int) = q by omega, e] at qv
 rw [qv]
 cases s == 1 <;> simp only [cond_true, cond_false] <;> ac_rfl
theorem qhk {h : List Int} (hh : h.length = 16) {s k : Int} (hs : s = 0 \/ s = 1) (k0 : 0 <= k) (k1 : k < 8) (d : Int) (b : List Int) (S : Int) :
  qAR b (qv h s k d) S = qAR b h S ^^^ hnB s k (hd_ h s k) ^^^ hnB s k (IntKind.wrap .i8 (hd_ h s k + d)) := by
 have e2 : ∀ x, conv .i8 .i64 x = x := fun _ => rfl
 have hset' := qhV h s.toNat k.toNat (IntKind.wrap .i8 (hd_ h s k + d)) (by omega) (by omega) hh
 rw [e2, e2, show ((s.toNat : Nat) : Int) = s by omega, show ((k.toNat : Nat) : Int) = k by omega] at hset'
 unfold qAR qv
 rw [hset']
 unfold hd_
 cases S == 1 <;> simp only [cond_true, cond_false] <;> ac_rfl
theorem qhm {s : Int} (hs : s = 0 \/ s = 1) (b h : List Int) : qAR b h (1 - s) = qAR b h s ^^^ sdB := by
 rcases hs with rfl | rfl
 ·rfl
 ·show qAV b 81 ^^^ qDU h = qAV b 81 ^^^ qDU h ^^^ sdB ^^^ sdB
  rw [BitVec.xor_assoc _ sdB, BitVec.xor_self, BitVec.xor_zero]
theorem qHL {b : List Int} (hl : b.length = 81) {q : Int} (hq : 0 <= q /\ q < 81) (x : Int) (h : List Int) (s : Int) : qCL (un (qAR b h s)) b q x = un (qAR (put b q x) h s) := by
 unfold qCL
 rw [qV6, qV6, qEk, qEk, qBM, qBM, qBM, qBM, qhl hl hq, BitVec.xor_assoc]
theorem qOk {h : List Int} (hh : h.length = 16) {s k : Int} (hs : s = 0 \/ s = 1) (k0 : 0 <= k) (k1 : k < 8) {d : Int} (b : List Int) (S : Int) (r0 : -128 <= hd_ h s k + d) (r1 : hd_ h s k + d <= 127) :
  qFG (un (qAR b h S)) h s k d = un (qAR b (qv h s k d) S) := by
 unfold qFG
 rw [qV3, qV3, qEk, qEk, qBM, qBM, qBM, qBM, qhk hh hs k0 k1, BitVec.xor_assoc, qAJ (by omega) (by omega), qFs r0 r1]
theorem qKz {s : Int} (hs : s = 0 \/ s = 1) (b h : List Int) : qKy (un (qAR b h s)) = un (qAR b h (1 - s)) := by
 unfold qKy
 rw [qiG, qEk, qBM, qBM, qhm hs]
theorem qi2 {b h : List Int} {s : Int} (hS : Sound b h s) (hf : qAU h) (hh : h.length = 16) {f t d : Int} {p : Bool} (hP : CanP b h s f t d p) :
  qHX (kof b h s) b h s f t d p = kof (mb b s f t d p) (mh b h s t d) (1 - s) := by
 rw [qKv, qKv]
 unfold qHX mb mh
 by_cases hd : d = 0
 ·obtain ⟨f0, f1, f2, g1, g2, g3, g4⟩ := hP.move hd
  simp only [if_neg (show ¬ (d ≠ 0) from fun h => h hd)]
  rw [qHL hS.clean.len ⟨f0, f1⟩, qHL (hS.clean.put f 0).len hP.to_]
  by_cases ht : at_ b t = 0
  ·simp only [if_pos ht]
   rw [qKz hS.side]
  ·have hk := (hS.clean.at_ t).resolve_left ht
   obtain ⟨r1, r2⟩ := qH9 hk g3
   have hc := hS.counts _ r1 r2
   have h0 := hS.hands (rw_ (kd (at_ b t))) (by omega) r2
   have hsd := hS.side
   simp only [if_neg ht]
   rw [qOk hh hS.side (by omega) r2 _ _ (by rcases hsd with rfl | rfl <;> omega) (by rcases hsd with rfl | rfl <;> omega), qKz hS.side]
 ·obtain ⟨d0, d1, d2, d3, g1, g2⟩ := hP.drop hd
  have hb := qG5 hf s d
  simp only [if_pos (show d ≠ 0 from hd)]
  rw [qOk hh hS.side (by omega) d1 _ _ (by omega) (by omega), qHL hS.clean.len hP.to_, qKz hS.side]
end Go.Kk.Pl
namespace Go.Kk.Pl
structure Going (b h : List Int) (s : Int) : Prop where
 sound : Sound b h s
 fits : qAU h
 len : h.length = 16
end Go.Kk.Pl
namespace Go.Kk.Pl
theorem qTS {b c : List Int} (hb : b.length = 81) (hc : c.length = 81) (h : ∀ q, 0 <= q -> q < 81 -> at_ b q = at_ c q) : b = c := by
 refine List.ext_getElem (by rw [hb, hc]) fun j h1 h2 => ?_
 have := h j (by omega) (by omega)
 unfold at_ at this
 rw [if_pos (by omega), if_pos (by omega), Int.toNat_natCast, List.getD_eq_getElem?_getD, List.getD_eq_getElem?_getD, List.getElem?_eq_getElem h1, List.getElem?_eq_getElem h2] at this
 exact this
theorem qTs {b : List Int} (hc : Clean b) (q : Int) : (if kd (at_ b q) = 0 then 0 else at_ b q) = at_ b q := by
 rcases hc.at_ q with h | h
 ·rw [h]; rfl
 ·rw [if_neg h]
theorem qdz {b : List Int} (hc : Clean b) {t : Int} (ht : 0 <= t /\ t < 81) (h0 : at_ b t = 0) (x : Int) : put (put b t x) t 0 = b := by
 refine qTS ((hc.put _ _).put _ _).len hc.len fun q q0 q1 => ?_
 rw [qDH (hc.put _ _).len ht, qDH hc.len ht]
 split
 ·rename_i e; subst e; rw [h0]; rfl
 ·rfl
theorem qd1 {b : List Int} (hc : Clean b) {f t : Int} (hf : 0 <= f /\ f < 81) (ht : 0 <= t /\ t < 81) (x : Int) : put (put (put (put b f 0) t x) t (at_ b t)) f (at_ b f) = b := by
 have c1 := hc.put f 0
 have c2 := c1.put t x
 have c3 := c2.put t (at_ b t)
 refine qTS (c3.put _ _).len hc.len fun q q0 q1 => ?_
 rw [qDH c3.len hf, qDH c2.len ht, qDH c1.len ht, qDH hc.len hf, qTs hc, qTs hc]
 split
 ·rename_i e; subst e; rfl
 ·split
  ·rename_i e; subst e; rfl
  ·rfl
theorem qOR {h : List Int} (hl : h.length = 16) {s k : Int} (hs : s = 0 \/ s = 1) (k0 : 0 <= k) (k1 : k < 8) {d : Int} (r0 : -128 <= hd_ h s k /\ hd_ h s k <= 127) (r1 : -128 <= hd_ h s k + d /\ hd_ h s k + d <= 127) :
  qv (qv h s k d) s k (-d) = h := by
 have e := qFB hl hs k0 k1 d hs k0 k1
 rw [if_pos ⟨rfl, rfl⟩, qFs r1.1 r1.2] at e
 rw [show qv (qv h s k d) s k (-d) = (qv h s k d).set (s.toNat * 8 + k.toNat) (IntKind.wrap .i8 (hd_ (qv h s k d) s k + -d)) from rfl, e, show hd_ h s k + d + -d = hd_ h s k by omega, qFs r0.1 r0.2]
 have hi : s.toNat * 8 + k.toNat < h.length := by rcases hs with rfl | rfl <;> simp <;> omega
 have hg : hd_ h s k = h[s.toNat * 8 + k.toNat] := by
  unfold hd_
  rw [List.getD_eq_getElem?_getD, List.getElem?_eq_getElem hi]
  rfl
 unfold qv
 rw [List.set_set, hg, List.set_getElem_self]
end Go.Kk.Pl
namespace Go.Kk.Pl
theorem qHI {b : List Int} (hc : Clean b) (q x K : Int) (n : Nat) (h : List Int) (s : Int) (m : Nat) (st : List (List Int)) :
  qB3 q x K n b h s (qI b) (qO b) m st = some (qCL K b q x, n, put b q x, h, s, qI (put b q x), qO (put b q x), m, st) := by
 unfold qB3
 simp only [qCq, qA, qiF, qPe hc]
 rfl
theorem qhS {b : List Int} (hc : Clean b) (h : List Int) (s : Int) : qIu b h s = some (kof b h s, 0, b, h, s, qI b, qO b, 0, []) := by
 unfold qIu
 rw [qJC hc.len, qIq hc, qA]
 simp only
 rw [qV5, qA]
theorem qiq {b : List Int} (hc : Clean b) (h : List Int) {s : Int} (hs : s = 0 \/ s = 1) (f t d : Int) (p : Bool) : ∃ c, (∀ K n m st, qD3 f t d p K n b h s (qI b) (qO b) m st = some c) /\
  ((c = false /\ ∀ K n m st, qDQ f t d p K n b h s (qI b) (qO b) m st = some (.inl (false, K, n, b, h, s, qI b, qO b, m, st))) \/
   (c = true /\ CanP b h s f t d p /\ ∀ K n m st, (n + 1) * 40 <= 140737488355328 -> qDQ f t d p K n b h s (qI b) (qO b) m st =
    some (.inr (true, qHX K b h s f t d p, n + 1, mb b s f t d p, mh b h s t d, 1 - s, qI (mb b s f t d p), qO (mb b s f t d p), n + 1, List.append (List.take n st) [[f, t, d, bi p, at_ b t, was b s f d]])))) := by
 obtain ⟨c, hcan, hP⟩ := qfN b h hs f t d p
 refine ⟨c, fun K n m st => hcan K n _ _ m st, ?_⟩
 cases c with
 | false =>
   refine .inl ⟨rfl, fun K n m st => ?_⟩
   unfold qDQ
   rw [hcan, qA, qF (by rfl)]
 | true =>
   have hP := hP rfl
   refine .inr ⟨rfl, hP, fun K n m st hn => ?_⟩
   have hn' : decide ((n + 1) * 40 <= 140737488355328) = true := by simpa using hn
   unfold qDQ
   rw [hcan, qA, qJ (by rfl), qCq, qA]
   by_cases hd : d = 0
   ·obtain ⟨f0, f1, f2, g1, g2, g3, g4⟩ := hP.move hd
    rw [qJ (by simpa using hd), qCq, qA]
    have hx : ∀ {α : Type} (k : Int -> Option α), (br p (ob (q8 (at_ b f)) fun a16 => ob (qCj a16) fun a17 => ob (qAg s a17) k) (k (at_ b f))) = k (laid b s f d p) := by
     intro α k
     unfold laid
     rw [if_neg (by simpa using hd)]
     cases p with
     | false => rfl
     | true =>
       obtain ⟨u1, u2, u3⟩ := qIW (g4 rfl)
       rw [qF rfl, qBO, qA, qJx, qA, qLJ hs u1 u2 u3, qA, if_pos rfl]
    have p1 := qHI hc f 0 K n h s m st
    have p2 := qHI (hc.put f 0) t (laid b s f d p) (qCL K b f 0) n h s m st
    have tail : (br (at_ b t != 0)
      (ob (q8 (at_ b t)) fun a37 =>
      ob (qCi a37) fun a38 =>
      ob (qDR s a38 1 (qCL (qCL K b f 0) (put b f 0) t (laid b s f d p)) n (put (put b f 0) t (laid b s f d p)) h s (qI (put (put b f 0) t (laid b s f d p))) (qO (put (put b f 0) t (laid b s f d p))) m st) fun (a39_0, a39_1, a39_2, a39_3, a39_4, a39_5, a39_6, a39_7, a39_8) =>
      ob (qCZ a39_0 a39_1 a39_2 a39_3 a39_4 a39_5 a39_6 a39_7 a39_8) fun (a48_0, a48_1, a48_2, a48_3, a48_4, a48_5, a48_6, _, a48_8) =>
      br (decide ((a48_1 + 1) * 40 <= 140737488355328))
       (some (Sum.inr (true, a48_0, a48_1 + 1, a48_2, a48_3, a48_4, a48_5, a48_6, a48_1 + 1, List.append (List.take a48_1 a48_8) [[f, t, d, bi p, at_ b t, at_ b f]])))
       (none))
      (ob (qCZ (qCL (qCL K b f 0) (put b f 0) t (laid b s f d p)) n (put (put b f 0) t (laid b s f d p)) h s (qI (put (put b f 0) t (laid b s f d p))) (qO (put (put b f 0) t (laid b s f d p))) m st) fun (a37_0, a37_1, a37_2, a37_3, a37_4, a37_5, a37_6, _, a37_8) =>
      br (decide ((a37_1 + 1) * 40 <= 140737488355328))
       (some (Sum.inr (true, a37_0, a37_1 + 1, a37_2, a37_3, a37_4, a37_5, a37_6, a37_1 + 1, List.append (List.take a37_1 a37_8) [[f, t, d, bi p, at_ b t, at_ b f]])))
       (none)) : Option ((Bool × Int × Nat × List Int × List Int × Int × List (List Int) × List (List Int) × Nat × List (List Int)) ⊕ (Bool × Int × Nat × List Int × List Int × Int × List (List Int) × List (List Int) × Nat × List (List Int)))) =
      some (.inr (true, qHX K b h s f t d p, n + 1, mb b s f t d p, mh b h s t d, 1 - s, qI (mb b s f t d p), qO (mb b s f t d p), n + 1, List.append (List.take n st) [[f, t, d, bi p, at_ b t, was b s f d]])) := by
     unfold qHX mb mh was
     by_cases ht : at_ b t = 0
     ·rw [qJ (by simpa using ht), qKo hs, qA]
      simp only
      rw [qF hn']
      simp [hd, ht]
     ·have hk := (hc.at_ t).resolve_left ht
      obtain ⟨r1, r2⟩ := qH9 hk g3
      obtain ⟨k1, k2, k3⟩ := qBn (at_ b t)
      rw [qF (by simpa using ht), qBO, qA, qPf k1 k2, qA, qKn hs r1 r2 1 (.inl rfl), qA]
      simp only
      rw [qKo hs, qA]
      simp only
      rw [qF hn']
      simp [hd, ht]
    refine Eq.trans ?_ tail
    cases p with
    | true =>
      have hx := hx (fun a18 => ob (qB3 f 0 K n b h s (qI b) (qO b) m st) fun (a19_0, a19_1, a19_2, a19_3, a19_4, a19_5, a19_6, a19_7, a19_8) =>
       ob (qB3 t a18 a19_0 a19_1 a19_2 a19_3 a19_4 a19_5 a19_6 a19_7 a19_8) fun r => some r)
      rw [qF rfl] at hx ⊢
      obtain ⟨u1, u2, u3⟩ := qIW (g4 rfl)
      have hl : laid b s f d true = 16 * s + up_ (kd (at_ b f)) := by unfold laid; rw [if_neg (by simpa using hd), if_pos rfl]
      rw [qBO, qA, qJx, qA, qLJ hs u1 u2 u3, qA, p1, qA]
      simp only
      rw [<- hl, p2, qA]
    | false =>
      have hl : laid b s f d false = at_ b f := by unfold laid; rw [if_neg (by simpa using hd), if_neg (by simp)]
      rw [qJ rfl, p1, qA]
      simp only
      rw [hl] at p2 ⊢
      rw [p2, qA]
   ·obtain ⟨d0, d1, d2, d3, g1, g2⟩ := hP.drop hd
    have hl : laid b s f d p = 16 * s + d := by unfold laid; rw [if_pos hd]
    have e1 : qAg s d = some (laid b s f d p) := by rw [hl]; exact qLJ hs (by omega) (by omega) (by omega)
    have p1 := qHI hc t (laid b s f d p) (qFG K h s d (-1)) n (qv h s d (-1)) s m st
    rw [qF (by simpa using hd), e1, qA, qKn hs (by omega) d1 (-1) (.inr rfl), qA]
    simp only
    rw [p1, qA]
    simp only
    rw [qKo hs, qA]
    simp only
    rw [qF hn']
    unfold qHX mb mh was
    simp only [if_pos hd, hl]
theorem qVx {h : List Int} (hl : h.length = 16) {s k : Int} (hs : s = 0 \/ s = 1) (k0 : 0 <= k) (k1 : k < 8) {d : Int} (b : List Int) (S : Int) (r0 : -128 <= hd_ h s k /\ hd_ h s k <= 127) (r1 : -128 <= hd_ h s k + d /\ hd_ h s k + d <= 127) :
  qFG (un (qAR b (qv h s k d) S)) (qv h s k d) s k (-d) = un (qAR b h S) := by
 have e := qFB hl hs k0 k1 d hs k0 k1
 rw [if_pos ⟨rfl, rfl⟩, qFs r1.1 r1.2] at e
 rw [qOk (by rw [qOS, hl]) hs k0 k1 b S (by omega) (by omega), qOR hl hs k0 k1 r0 r1]
theorem qd0 {b h : List Int} {s : Int} (hg : Going b h s) {f t d : Int} {p : Bool} (hP : CanP b h s f t d p) (n : Nat) (hn : n <= 1000) (m : Nat) (st : List (List Int))
  (hst : st.getD n [] = [f, t, d, bi p, at_ b t, was b s f d]) :
  qE3 (un (qAR (mb b s f t d p) (mh b h s t d) (1 - s))) (n + 1) (mb b s f t d p) (mh b h s t d) (1 - s) (qI (mb b s f t d p)) (qO (mb b s f t d p)) m st = some (true, un (qAR b h s), n, b, h, s, qI b, qO b, m, st) := by
 have hS := hg.sound
 have hs' : 1 - s = 0 \/ 1 - s = 1 := by have := hS.side; omega
 unfold qE3
 have e1 : IntKind.wrap .i64 (Int.ofNat (n + 1) - 1) = (n : Int) := by
  have : Int.ofNat (n + 1) = (n : Int) + 1 := rfl
  rw [this, qAJ (by omega) (by omega)]
  omega
 rw [qJ (by simp; omega), e1, qF (qAK (by omega) (by omega)), qF (qha (by omega) (by omega)), qKo hs', qA, qKz hs', show (1 : Int) - (1 - s) = s by omega]
 simp only [Int.toNat_natCast, hst, Nat.sub_zero]
 simp only [List.take_succ_cons, List.take_zero, List.headD_cons, List.tail_cons]
 by_cases hd : d = 0
 ·obtain ⟨f0, f1, f2, g1, g2, g3, g4⟩ := hP.move hd
  have hw : was b s f d = at_ b f := by unfold was; rw [if_neg (by simpa using hd)]
  have hmb : mb b s f t d p = put (put b f 0) t (laid b s f d p) := by unfold mb; rw [if_neg (by simpa using hd)]
  rw [qJ (by simpa using hd), hw, hmb]
  have p1 := qHI ((hS.clean.put f 0).put t (laid b s f d p)) t (at_ b t) (un (qAR (put (put b f 0) t (laid b s f d p)) (mh b h s t d) s)) n (mh b h s t d) s m st
  rw [qHL ((hS.clean.put f 0).put t (laid b s f d p)).len hP.to_] at p1
  have p2 := qHI (((hS.clean.put f 0).put t (laid b s f d p)).put t (at_ b t)) f (at_ b f) (un (qAR (put (put (put b f 0) t (laid b s f d p)) t (at_ b t)) (mh b h s t d) s)) n (mh b h s t d) s m st
  rw [qHL (((hS.clean.put f 0).put t (laid b s f d p)).put t (at_ b t)).len ⟨f0, f1⟩] at p2
  rw [qd1 hS.clean ⟨f0, f1⟩ hP.to_] at p2
  rw [p1, qA]
  simp only
  rw [p2, qA]
  simp only
  by_cases ht : at_ b t = 0
  ·have hmh : mh b h s t d = h := by unfold mh; rw [if_neg (by simpa using hd), if_pos ht]
   rw [qJ (by simpa using ht), hmh]
  ·have hk := (hS.clean.at_ t).resolve_left ht
   obtain ⟨r1, r2⟩ := qH9 hk g3
   obtain ⟨k1, k2, k3⟩ := qBn (at_ b t)
   have hc := hS.counts _ r1 r2
   have h0 := hS.hands (rw_ (kd (at_ b t))) (by omega) r2
   have hsd := hS.side
   have hmh : mh b h s t d = qv h s (rw_ (kd (at_ b t))) 1 := by unfold mh; rw [if_neg (by simpa using hd), if_neg ht]
   rw [qF (by simpa using ht), qBO, qA, qPf k1 k2, qA, qKn hS.side r1 r2 (-1) (.inr rfl), qA, hmh,
    qOR hg.len hS.side (by omega) r2 (qG5 hg.fits _ _) (by rcases hsd with rfl | rfl <;> constructor <;> omega),
    qVx hg.len hS.side (by omega) r2 _ _ (qG5 hg.fits _ _) (by rcases hsd with rfl | rfl <;> constructor <;> omega)]
 ·obtain ⟨d0, d1, d2, d3, g1, g2⟩ := hP.drop hd
  have hmb : mb b s f t d p = put b t (laid b s f d p) := by unfold mb; rw [if_pos hd]
  have hmh : mh b h s t d = qv h s d (-1) := by unfold mh; rw [if_pos hd]
  have hb := qG5 hg.fits s d
  have p1 := qHI (hS.clean.put t (laid b s f d p)) t 0 (un (qAR (put b t (laid b s f d p)) (mh b h s t d) s)) n (mh b h s t d) s m st
  rw [qHL (hS.clean.put t (laid b s f d p)).len hP.to_] at p1
  rw [qdz hS.clean hP.to_ g2] at p1
  rw [qF (by simpa using hd), hmb, p1, qA]
  simp only
  have hbk : qv (qv h s d (-1)) s d 1 = h := qOR hg.len hS.side (by omega) d1 (d := -1) hb (by constructor <;> omega)
  rw [qKn hS.side (by omega) d1 1 (.inl rfl), qA, hmh]
  have hky : qFG (un (qAR b (qv h s d (-1)) s)) (qv h s d (-1)) s d 1 = un (qAR b h s) := qVx hg.len hS.side (by omega) d1 (d := -1) _ _ hb (by constructor <;> omega)
  rw [hbk, hky]
end Go.Kk.Pl
namespace Go.Kk.Pl
structure PosP (b h : List Int) (s : Int) : Prop where
 len : b.length = 81
 fits : qAU h
 hlen : h.length = 16
 zero : qDI b h s = 0
theorem PosP.clean {b h : List Int} {s : Int} (hp : PosP b h s) : Clean b := (qGL hp.len hp.zero).1
theorem PosP.side {b h : List Int} {s : Int} (hp : PosP b h s) : s = 0 \/ s = 1 := (qGL hp.len hp.zero).2.1
theorem PosP.going {b h : List Int} {s : Int} (hp : PosP b h s) : Going b h s := ⟨qby hp.len hp.fits (qSA hp.zero), hp.fits, hp.hlen⟩
theorem PosP.after {b h : List Int} {s : Int} (hp : PosP b h s) {m : List Int} (hm : m ∈ lgL b h s) : PosP (mbM b s m) (mhM b h s m) (1 - s) := by
 obtain ⟨hc, hs, hno, k, k', hk, hk'⟩ := qGL hp.len hp.zero
 obtain ⟨_, hm2, _, hm4⟩ := qWQ hc hs hno hk hk' hm
 have hsafe : inC (mb b s (m0 m) (m1 m) (m2 m) (m3 m)) s = false := by simpa [qBg, mbM] using hm4
 exact ⟨(qO7 hc _ _ _ _ _).1, qiz hp.fits _ _ _ _, qi0 hp.hlen _ _ _ _, qdY hp.len hp.fits hp.hlen (qSA hp.zero) hm2 hsafe⟩
theorem PosP.stuck {b h : List Int} {s : Int} (hp : PosP b h s) : qHW b h s (qI b) (qO b) = some (decide ((lgL b h s).length = 0), b, h, s, qI b, qO b) := by
 obtain ⟨hc, hs, hno, k, k', hk, hk'⟩ := qGL hp.len hp.zero
 exact qpk hc h hs hk hk'
theorem PosP.lists {b h : List Int} {s : Int} (hp : PosP b h s) : lgL b h s = rlL b h s := by
 obtain ⟨hc, hs, hno, k, k', hk, hk'⟩ := qGL hp.len hp.zero
 exact qWY hc h hs hno hk hk'
theorem PosP.all {b h : List Int} {s : Int} (hp : PosP b h s) : qD8 b h s (qI b) (qO b) = some ((lgL b h s).length, b, h, s, qI b, qO b, (lgL b h s).length, lgL b h s) := by
 obtain ⟨hc, hs, hno, k, k', hk, hk'⟩ := qGL hp.len hp.zero
 exact qV7 hc h hs hk hk'
theorem PosP.full {b h : List Int} {s : Int} (hp : PosP b h s) {m : List Int} (hm : m ∈ lgL b h s) : Mv4 m /\ qAD b h s (m0 m) (m1 m) (m2 m) (m3 m) = true := by
 obtain ⟨hc, hs, hno, k, k', hk, hk'⟩ := qGL hp.len hp.zero
 have := qWQ hc hs hno hk hk' hm
 exact ⟨this.1, this.2.1⟩
theorem qK1 (n : Nat) : (Int.ofNat n == 0) = decide (n = 0) := by
 rw [Bool.eq_iff_iff, decide_eq_true_eq, beq_iff_eq]
 exact ⟨fun h => by simpa using h, fun h => by rw [h]; rfl⟩
end Go.Kk.Pl
namespace Go.Kk.Pl
end Go.Kk.Pl
namespace Go.Kk.Pl
end Go.Kk.Pl
namespace Go.Kk.Pl
end Go.Kk.Pl
namespace Go.Kk.Pl
theorem qib {b h : List Int} {s : Int} (hp : PosP b h s) : (lgL b h s).Nodup := by
 rw [hp.lists]
 exact (qjT b h s).sublist List.filter_sublist
end Go.Kk.Pl
namespace Go.Kk.Pl
def sqL (q : Nat) : List UInt8 := [UInt8.ofNat (49 + q / 9), UInt8.ofNat (97 + q % 9)]
def ltr (d : Nat) : UInt8 := [0, 80, 76, 78, 83, 71, 66, 82].getD d 0
def txL (f t d : Nat) (p : Bool) : List UInt8 := if d ≠ 0 then [ltr d, 42] ++ sqL t else sqL f ++ sqL t ++ (if p then [43] else [])
def bts (l : List UInt8) : ByteArray := { data := { toList := l } }
def qBE (l : List UInt8) : List Int := l.map fun x => Int.ofNat x.toNat
theorem qRL : ∀ q, q < 81 -> qFM (Int.ofNat q) = some (bts (sqL q)) := by decide +kernel
theorem qb0 : ∀ q, q < 81 -> qEE (Int.ofNat (UInt8.ofNat (49 + q / 9)).toNat) (Int.ofNat (UInt8.ofNat (97 + q % 9)).toNat) = some (Int.ofNat q, true) := by decide +kernel
theorem qbz : ∀ q, q < 81 -> (UInt8.ofNat (49 + q / 9)).toNat < 128 /\ (UInt8.ofNat (97 + q % 9)).toNat < 128 /\ (UInt8.ofNat (97 + q % 9)).toNat ≠ 42 := by decide +kernel
theorem qWd : ∀ d, d < 8 -> d ≠ 0 -> qAg 0 (Int.ofNat d) = some (Int.ofNat d) /\ qLT (Int.ofNat d) = some (bts [ltr d]) /\ (ltr d).toNat < 128 /\ qJH (Int.ofNat (ltr d).toNat) false = some (Int.ofNat d) /\ qAL (Int.ofNat d) = some 0 /\ (Int.ofNat d == 8) = false := by decide +kernel
theorem qfy {s : ByteArray} {i : Nat} (h : (s.get! i).toNat < 128) : Utf8.decode s i = ((s.get! i).toNat, 1) := by
 unfold Utf8.decode
 simp only [Nat.add_zero]
 rw [if_pos h]
theorem qVO {l : List UInt8} {i : Nat} (hi : i < l.length) : (bts l).get! i = l[i] := by
 show (Array.mk l)[i]! = l[i]
 rw [getElem!_pos _ _ (by simpa using hi)]
 rfl
theorem qkd (l : List UInt8) (hl : l.length <= 5) (h : ∀ x ∈ l, x.toNat < 128) : ∀ (n i : Nat), i + n = l.length -> ∀ F,
  qED (F + n + 1) i 0 0 0 false i (qBE (l.take i)) (bts l) i = some (l.length, 0, 0, 0, false, l.length, qBE l) := by
 intro n
 induction n with
 | zero =>
   intro i hi F
   show qHY (qED (F + 0)) _ _ _ _ _ _ _ _ _ = _
   unfold qHY
   have e : (bts l).size = l.length := rfl
   rw [e, qJ (by rw [Bool.eq_false_iff, ne_eq, Nat.blt_eq]; omega), List.take_of_length_le (by omega), show i = l.length by omega]
 | succ n ih =>
   intro i hi F
   show qHY (qED (F + n + 1)) _ _ _ _ _ _ _ _ _ = _
   unfold qHY
   have e : (bts l).size = l.length := rfl
   have hil : i < l.length := by omega
   have hd : Utf8.decode (bts l) i = (l[i].toNat, 1) := by
    rw [qfy (by rw [qVO hil]; exact h _ (List.getElem_mem hil)), qVO hil]
   have h6 : (Int.ofNat i == 6) = false := by rw [beq_eq_false_iff_ne]; simp only [Int.ofNat_eq_natCast]; omega
   rw [e, qF (by rw [Nat.blt_eq]; omega), qJ h6, qCF (by omega)]
   unfold qD2 qCv
   rw [hd]
   have e2 : List.append (List.take i (qBE (List.take i l))) [Int.ofNat l[i].toNat] = qBE (l.take (i + 1)) := by
    unfold qBE
    rw [List.take_of_length_le (by simp; omega), List.append_eq]
    rw [List.take_succ_eq_append_getElem hil, List.map_append]
    rfl
   show qED (F + n + 1) (i + 1) 0 0 0 false (i + 1) (List.append (List.take i (qBE (List.take i l))) [Int.ofNat l[i].toNat]) (bts l) (i + 1) = _
   rw [e2]
   exact ih (i + 1) (by omega) F
theorem qPW (l : List UInt8) (hl : l.length <= 5) (h : ∀ x ∈ l, x.toNat < 128) : qED qC 0 0 0 0 false 0 [] (bts l) 0 = some (l.length, 0, 0, 0, false, l.length, qBE l) := by
 obtain ⟨g, hg⟩ := qd l.length (by omega)
 have := qkd l hl h l.length 0 (by omega) g
 rw [<- hg] at this
 exact this
theorem qRZ {l : List UInt8} (h : l.length <= 1000) : decide (Int.ofNat (bts l).size <= qEe) = true := by
 rw [decide_eq_true_eq]
 unfold qEe
 show ((l.length : Nat) : Int) <= _
 omega
structure Nmd (f t d : Nat) (p : Bool) : Prop where
 to_ : t < 81
 drop : d ≠ 0 -> d < 8 /\ f = 0 /\ p = false
 move : d = 0 -> f < 81 /\ f ≠ t
theorem qIx {n : Nat} (h : n <= 1000) : qEf n = true := by rw [qca]; unfold qEe; simp only [Int.ofNat_eq_natCast]; omega
theorem qfT {f t d : Nat} {p : Bool} (h : Nmd f t d p) : qDa (Int.ofNat f) (Int.ofNat t) (Int.ofNat d) p = some 0 := by
 have := h.to_
 unfold qDa
 simp only [Int.ofNat_eq_natCast]
 rw [qW (by omega), qJ (by simp; omega)]
 by_cases hd : d = 0
 ·obtain ⟨h1, h2⟩ := h.move hd
  have e : ((f : Int) == (t : Int)) = false := by rw [beq_eq_false_iff_ne]; omega
  rw [qJ (by simp [hd]), qW (by omega), qJ (by simp; omega), qJ e]
 ·obtain ⟨h1, h2, h3⟩ := h.drop hd
  subst h2 h3
  rw [qF (by simp; omega), qW (by omega), qJ (by simp; omega), qJ (by simp), qJ rfl]
theorem qpr {f t d : Nat} {p : Bool} (h : Nmd f t d p) : qHZ (Int.ofNat f) (Int.ofNat t) (Int.ofNat d) p = some (bts (txL f t d p)) := by
 unfold qHZ txL
 rw [qfT h, qA, qJ (by rfl)]
 by_cases hd : d = 0
 ·obtain ⟨h1, h2⟩ := h.move hd
  subst hd
  rw [qJ (by rfl), qRL f h1, qRL t h.to_, if_neg (by simp)]
  simp only [qA]
  cases p with
  | true =>
    rw [b_t, qF (qIx (by show 4 <= 1000; omega)), qF (qIx (by show 5 <= 1000; omega))]
    rfl
  | false =>
    rw [b_f, qF (qIx (by show 4 <= 1000; omega))]
    simp only [Bool.false_eq_true, if_false, List.append_nil]
    rfl
 ·obtain ⟨h1, h2, h3⟩ := h.drop hd
  obtain ⟨e1, e2, e3, e4, e5, e6⟩ := qWd d h1 hd
  rw [qF (by simp; omega), e1, qA, e2, qA, qF (qIx (by show 2 <= 1000; omega)), qRL t h.to_, qA, qF (qIx (by show 4 <= 1000; omega)), if_pos hd]
  rfl
theorem qke {f t d : Nat} {p : Bool} (h : Nmd f t d p) : qFL (bts (txL f t d p)) = some (Int.ofNat f, Int.ofNat t, Int.ofNat d, p, 0) := by
 have st := qb0 t h.to_
 have at_ := qbz t h.to_
 by_cases hd : d = 0
 ·obtain ⟨h1, h2⟩ := h.move hd
  have sf := qb0 f h1
  have af := qbz f h1
  have e42 : (Int.ofNat (UInt8.ofNat (97 + f % 9)).toNat == 42) = false := by rw [beq_eq_false_iff_ne]; intro e; exact af.2.2 (by injection e)
  have eft : (Int.ofNat f == Int.ofNat t) = false := by rw [beq_eq_false_iff_ne]; intro e; exact h2 (by injection e)
  subst hd
  unfold txL
  rw [if_neg (by simp)]
  cases p with
  | true =>
    have hl : ∀ x ∈ (sqL f ++ sqL t ++ (if true = true then [43] else []) : List UInt8), x.toNat < 128 := by
     intro x hx
     simp only [if_true, sqL, List.cons_append, List.nil_append, List.mem_cons, List.not_mem_nil, or_false] at hx
     rcases hx with rfl | rfl | rfl | rfl | rfl
     ·exact af.1
     ·exact af.2.1
     ·exact at_.1
     ·exact at_.2.1
     ·decide
    unfold qFL
    rw [qF (qRZ (by simp [sqL])), qPW _ (by simp [sqL]) hl, qA]
    simp only [if_true, sqL, List.cons_append, List.nil_append, qBE, List.map_cons, List.map_nil, List.length_cons, List.length_nil, List.getD_cons_zero, List.getD_cons_succ]
    rw [qF (by rfl), qJ (by rfl), qF (by rfl), qJ e42, qF (by rfl), qF (by rfl), sf, qA]
    simp only
    rw [qF (by rfl), qF (by rfl), st, qA]
    simp only
    rw [qJ (by rfl), qJ (by rfl), qJ eft, qF (by rfl), qF (by rfl), qJ (by rfl)]
    rfl
  | false =>
    have hl : ∀ x ∈ (sqL f ++ sqL t ++ (if false = true then [43] else []) : List UInt8), x.toNat < 128 := by
     intro x hx
     simp only [Bool.false_eq_true, if_false, sqL, List.cons_append, List.nil_append, List.mem_cons, List.not_mem_nil, or_false] at hx
     rcases hx with rfl | rfl | rfl | rfl
     ·exact af.1
     ·exact af.2.1
     ·exact at_.1
     ·exact at_.2.1
    unfold qFL
    rw [qF (qRZ (by simp [sqL])), qPW _ (by simp [sqL]) hl, qA]
    simp only [Bool.false_eq_true, if_false, sqL, List.cons_append, List.nil_append, qBE, List.map_cons, List.map_nil, List.length_cons, List.length_nil, List.getD_cons_zero, List.getD_cons_succ]
    rw [qJ (by rfl), qF (by rfl), qJ e42, qF (by rfl), qF (by rfl), sf, qA]
    simp only
    rw [qF (by rfl), qF (by rfl), st, qA]
    simp only
    rw [qJ (by rfl), qJ (by rfl), qJ eft, qJ (by rfl)]
    rfl
 ·obtain ⟨h1, h2, h3⟩ := h.drop hd
  obtain ⟨e1, e2, e3, e4, e5, e6⟩ := qWd d h1 hd
  subst h2 h3
  unfold txL
  rw [if_pos hd]
  have hl : ∀ x ∈ ([ltr d, 42] ++ sqL t : List UInt8), x.toNat < 128 := by
   intro x hx
   simp only [sqL, List.cons_append, List.nil_append, List.mem_cons, List.not_mem_nil, or_false] at hx
   rcases hx with rfl | rfl | rfl | rfl
   ·exact e3
   ·decide
   ·exact at_.1
   ·exact at_.2.1
  unfold qFL
  rw [qF (qRZ (by simp [sqL])), qPW _ (by simp [sqL]) hl, qA]
  simp only [sqL, List.cons_append, List.nil_append, qBE, List.map_cons, List.map_nil, List.length_cons, List.length_nil, List.getD_cons_zero, List.getD_cons_succ]
  rw [qJ (by rfl), qF (by rfl), qF (by rfl), qF (by rfl), e4, qA, qF (by rfl), qF (by rfl), st, qA]
  simp only
  rw [e5, qA, qJ (by rfl), qJ e6, qJ (by rfl), qJ (by rfl)]
  rfl
end Go.Kk.Pl
namespace Go.Kk.Pl
def qIO : List Int := [18, 0, 17, 0, 0, 0, 1, 0, 2, 19, 22, 17, 0, 0, 0, 1, 7, 3, 20, 0, 17, 0, 0, 0, 1, 0, 4, 21, 0, 17, 0, 0, 0, 1, 0, 5, 24, 0, 17, 0, 0, 0, 1, 0, 8, 21, 0, 17, 0, 0, 0, 1, 0, 5, 20, 0, 17, 0, 0, 0, 1, 0, 4, 19, 23, 17, 0, 0, 0, 1, 6, 3, 18, 0, 17, 0, 0, 0, 1, 0, 2]
def qDB : List Int := [0, 0, 0, 0, 0, 0, 0, 0, 0, 0, 0, 0, 0, 0, 0, 0]
theorem qpD : qIh = some (qIO, qDB, 0) := by kernel_rfl
end Go.Kk.Pl
namespace Go.Kk.Pl
def tx (m : List Int) : ByteArray := bts (txL (m0 m).toNat (m1 m).toNat (m2 m).toNat (m3 m))
theorem qXM {b h : List Int} {s f t d : Int} {p : Bool} (hP : CanP b h s f t d p) : f = Int.ofNat f.toNat /\ t = Int.ofNat t.toNat /\ d = Int.ofNat d.toNat /\ Nmd f.toNat t.toNat d.toNat p := by
 have ht := hP.to_
 simp only [Int.ofNat_eq_natCast]
 by_cases hd : d = 0
 ·obtain ⟨h1, h2, h3, _⟩ := hP.move hd
  exact ⟨by omega, by omega, by omega, by omega, fun h => by omega, fun _ => ⟨by omega, by omega⟩⟩
 ·obtain ⟨h1, h2, h3, h4, _⟩ := hP.drop hd
  exact ⟨by omega, by omega, by omega, by omega, fun _ => ⟨by omega, by omega, h4⟩, fun h => by omega⟩
theorem PosP.canP {b h : List Int} {s : Int} (hp : PosP b h s) {m : List Int} (hm : m ∈ lgL b h s) : CanP b h s (m0 m) (m1 m) (m2 m) (m3 m) := (qFK (hp.full hm).2).2
theorem PosP.text {b h : List Int} {s : Int} (hp : PosP b h s) {m : List Int} (hm : m ∈ lgL b h s) : qHZ (m0 m) (m1 m) (m2 m) (m3 m) = some (tx m) := by
 obtain ⟨e1, e2, e3, hn⟩ := qXM (hp.canP hm)
 have := qpr hn
 rw [<- e1, <- e2, <- e3] at this
 exact this
theorem PosP.parse {b h : List Int} {s : Int} (hp : PosP b h s) {m : List Int} (hm : m ∈ lgL b h s) : qFL (tx m) = some (m0 m, m1 m, m2 m, m3 m, 0) := by
 obtain ⟨e1, e2, e3, hn⟩ := qXM (hp.canP hm)
 have := qke hn
 rw [<- e1, <- e2, <- e3] at this
 exact this
theorem PosP.apart {b h : List Int} {s : Int} (hp : PosP b h s) {m m' : List Int} (hm : m ∈ lgL b h s) (hm' : m' ∈ lgL b h s) (e : qAQ (tx m) = qAQ (tx m')) : m = m' := by
 have e : tx m = tx m' := by rw [<- qE2 (tx m), e, qE2]
 have h1 := hp.parse hm
 rw [e, hp.parse hm'] at h1
 simp only [Option.some.injEq, Prod.mk.injEq, and_true] at h1
 obtain ⟨a, b, c, d⟩ := h1
 rw [(hp.full hm).1.1, (hp.full hm').1.1, a, b, c, d]
theorem qpo {A : List (List Int)} {B : List (List Int)} {n j : Nat} (e : B.take n = A.take n) (hj : j < n) : B.getD j [] = A.getD j [] := by
 have h1 : ∀ X : List (List Int), (X.take n).getD j [] = X.getD j [] := by
  intro X
  rw [List.getD_eq_getElem?_getD, List.getD_eq_getElem?_getD, List.getElem?_take_of_lt hj]
 rw [<- h1 B, <- h1 A, e]
theorem qXN {A : List (List Int)} {n : Nat} (hn : n <= A.length) (e : List Int) : (List.append (List.take n A) [e]).getD n [] = e := by
 rw [List.append_eq, List.getD_eq_getElem?_getD, List.getElem?_append_right (by simp; omega)]
 simp [Nat.min_eq_left hn]
theorem qXP {A : List (List Int)} {n : Nat} (hn : n <= A.length) (e : List Int) : (List.append (List.take n A) [e]).take n = A.take n := by
 rw [List.append_eq, List.take_append_of_le_length (by simp; omega), List.take_take, Nat.min_self]
theorem qXO {A : List (List Int)} {n : Nat} (hn : n <= A.length) (e : List Int) : (List.append (List.take n A) [e]).length = n + 1 := by
 rw [List.append_eq, List.length_append, List.length_take]
 simp; omega
def qLG (b : List Int) (s : Int) (m : List Int) : List Int := [m0 m, m1 m, m2 m, bi (m3 m), at_ b (m1 m), was b s (m0 m) (m2 m)]
theorem PosP.make {b h : List Int} {s : Int} (hp : PosP b h s) {m : List Int} (hm : m ∈ lgL b h s) (n : Nat) (hn : n <= 1000) (x : Nat) (st : List (List Int)) :
  qDQ (m0 m) (m1 m) (m2 m) (m3 m) (kof b h s) n b h s (qI b) (qO b) x st =
   some (.inr (true, kof (mbM b s m) (mhM b h s m) (1 - s), n + 1, mbM b s m, mhM b h s m, 1 - s, qI (mbM b s m), qO (mbM b s m), n + 1, List.append (List.take n st) [qLG b s m])) := by
 obtain ⟨c, hcan, hmk⟩ := qiq hp.clean h hp.side (m0 m) (m1 m) (m2 m) (m3 m)
 have e : qB1 b h s (m0 m) (m1 m) (m2 m) (m3 m) = c := Option.some.inj ((qfM b h hp.side (m0 m) (m1 m) (m2 m) (m3 m) 0 0 (qI b) (qO b) 0 []).symm.trans (hcan 0 0 0 []))
 rw [qi4 (hp.full hm).2] at e
 rcases hmk with ⟨h1, _⟩ | ⟨_, hP, hmk⟩
 ·rw [h1] at e; cases e
 ·rw [hmk _ _ _ _ (by omega), qi2 hp.going.sound hp.going.fits hp.going.len hP]
  rfl
theorem PosP.back {b h : List Int} {s : Int} (hp : PosP b h s) {m : List Int} (hm : m ∈ lgL b h s) (n : Nat) (hn : n <= 1000) (x : Nat) (st : List (List Int)) (hst : st.getD n [] = qLG b s m) :
  qE3 (kof (mbM b s m) (mhM b h s m) (1 - s)) (n + 1) (mbM b s m) (mhM b h s m) (1 - s) (qI (mbM b s m)) (qO (mbM b s m)) x st = some (true, kof b h s, n, b, h, s, qI b, qO b, x, st) := by
 rw [qKv, qKv]
 exact qd0 hp.going (hp.canP hm) n hn x st hst
theorem qjZ {b h : List Int} {s : Int} (hp : PosP b h s) (pk : Int) (x3 : Nat) (x4 x5 : Int) (x9 : Nat) (x10 x11 x12 : List Int) (x13 : Int) (n : Nat) (hn : n <= 1000) (x19 x21 x24 : Nat) (x25 : List Int) : ∀ (k i : Nat), i + k = (lgL b h s).length ->
  ∀ (es : List (List Int × List Int)), (∀ j, i <= j -> (hj : j < (lgL b h s).length) -> qAd es [qAQ (tx (lgL b h s)[j])] [0] = [0]) -> ∀ (x : Nat) (st : List (List Int)), n <= st.length -> ∀ F, ∃ x' st', st'.take n = st.take n /\ n <= st'.length /\
    qDp (F + k + 1) pk (lgL b h s).length (lgL b h s).length x3 x4 x5 (lgL b h s).length (lgL b h s).length i x9 x10 x11 x12 x13 (kof b h s) n b h s x19 (lgL b h s) x21 (lgL b h s) es x24 x25 b h s (qI b) (qO b) x st =
     some (.inr (pk, (lgL b h s).length, x3, x4, x5, x9, x10, x11, x12, x13, kof b h s, n, x19, lgL b h s, x24, x25, b, h, s, qI b, qO b, x', st')) := by
 have hlen := qWR b h s
 have hnd := qib hp
 intro k
 induction k with
 | zero =>
   intro i hi es _ x st hst F
   refine ⟨x, st, rfl, hst, ?_⟩
   rw [qDp.eq_2]
   unfold qMX
   rw [qW (by omega)]
 | succ k ih =>
   intro i hi es hes x st hst F
   have hil : i < (lgL b h s).length := by omega
   have hm : (lgL b h s)[i] ∈ lgL b h s := List.getElem_mem hil
   have hp2 := hp.after hm
   have hes2 : ∀ j, i + 1 <= j -> (hj : j < (lgL b h s).length) -> qAd (q7 es [qAQ (tx (lgL b h s)[i])] [1]) [qAQ (tx (lgL b h s)[j])] [0] = [0] := by
    intro j hj1 hj
    rw [qVN, if_neg, hes j (by omega) hj]
    intro e
    have e := hp.apart (List.getElem_mem hj) hm (by injection e)
    have := (List.getElem_inj hnd).mp e
    omega
   obtain ⟨x', st', e1, e2, e3⟩ := ih (i + 1) (by omega) _ hes2 (n + 1) (List.append (List.take n st) [qLG b s (lgL b h s)[i]]) (by rw [qXO hst]; omega) F
   refine ⟨x', st', by rw [e1, qXP hst], e2, ?_⟩
   refine Eq.trans ?_ e3
   rw [qDp.eq_2]
   unfold qMX
   rw [qc (by omega), qa (by omega) (by omega), tn, atL hil]
   simp only [hdM]
   rw [hp.text hm, qA, hp.parse hm, qA]
   simp only [beq_self_eq_true, Bool.and_self, Bool.not_true, b_f, bne_self_eq_false, hes i (by omega) hil, List.headD_cons]
   rw [qa (by omega) (by omega), hp.make hm n hn, qA, qAo]
   simp only [Bool.not_true, b_f]
   rw [qMl hp2.len hp2.fits, hp2.zero, qA]
   simp only [bne_self_eq_false, b_f]
   unfold qIt
   rw [qA, qV5, qA]
   simp only [bne_self_eq_false, b_f]
   rw [hp.back hm n hn _ _ (qXN hst _), qA]
   simp only [beq_self_eq_true, Bool.and_self, Bool.not_true, b_f]
   rw [w_s (n := (i : Int) + 1) (by omega) (by omega)]
   rfl
inductive Hist (b0 h0 : List Int) (s0 : Int) : Nat -> List (List Int) -> List Int -> List Int -> Int -> Prop
 | zero (st : List (List Int)) : Hist b0 h0 s0 0 st b0 h0 s0
 | succ {n : Nat} {st : List (List Int)} {b h : List Int} {s : Int} {m : List Int} (hh : Hist b0 h0 s0 n st b h s) (hp : PosP b h s) (hm : m ∈ lgL b h s) (hst : st.getD n [] = qLG b s m) :
   Hist b0 h0 s0 (n + 1) st (mbM b s m) (mhM b h s m) (1 - s)
theorem Hist.congr {b0 h0 : List Int} {s0 : Int} {n : Nat} {st : List (List Int)} {b h : List Int} {s : Int} (hh : Hist b0 h0 s0 n st b h s) : ∀ {st' : List (List Int)}, st'.take n = st.take n -> Hist b0 h0 s0 n st' b h s := by
 induction hh with
 | zero st => intro st' _; exact .zero st'
 | @succ n st b h s m hh hp hm hst ih =>
   intro st' e
   have e' : st'.take n = st.take n := by
    have := congrArg (List.take n) e
    rwa [List.take_take, List.take_take, Nat.min_eq_left (by omega)] at this
   exact .succ (ih e') hp hm (by rw [qpo e (by omega), hst])
theorem qqE {b0 h0 : List Int} {s0 : Int} {n : Nat} {st : List (List Int)} {b h : List Int} {s : Int} (hh : Hist b0 h0 s0 n st b h s) : n <= 1000 -> ∀ (x0 : Nat) (x1 x2 x3 : List Int) (x4 : Int) (x : Nat) F,
  qIU (F + n + 1) x0 x1 x2 x3 x4 (kof b h s) n b h s (qI b) (qO b) x st = some (x0, x1, x2, x3, x4, kof b0 h0 s0, 0, b0, h0, s0, qI b0, qO b0, x, st) := by
 induction hh with
 | zero st => intro _ x0 x1 x2 x3 x4 x F; rfl
 | @succ n st b h s m hh hp hm hst ih =>
   intro hn x0 x1 x2 x3 x4 x F
   rw [qIU.eq_2]
   unfold qRk
   rw [hp.back hm n (by omega) _ _ hst, qA]
   exact ih (by omega) x0 x1 x2 x3 x4 x F
theorem qp7 {b0 h0 : List Int} {s0 : Int} (N : Nat) (hN : N <= 100) (x3 : Nat) (x4 pks : List Int) : ∀ (k i : Nat), i + k = N -> ∀ (n : Nat) (b h : List Int) (s : Int) (x : Nat) (st : List (List Int)), PosP b h s -> n <= i -> Hist b0 h0 s0 n st b h s -> n <= st.length -> ∀ F,
  ∃ n' b' h' s' x' st', n' <= 1000 /\ Hist b0 h0 s0 n' st' b' h' s' /\
    qCU (F + k + 1) N N i x3 x4 b0 h0 s0 (kof b h s) n N pks b h s (qI b) (qO b) x st = some (.inr (x3, x4, b0, h0, s0, kof b' h' s', n', b', h', s', qI b', qO b', x', st')) := by
 intro k
 induction k with
 | zero =>
   intro i hi n b h s x st hp hni hh hst F
   refine ⟨n, b, h, s, x, st, by omega, hh, ?_⟩
   rw [qCU.eq_2]
   unfold qMY
   rw [qW (by omega)]
 | succ k ih =>
   intro i hi n b h s x st hp hni hh hst F
   have hlen := qWR b h s
   obtain ⟨pk, hpk⟩ : ∃ pk, pks.getD i 0 = pk := ⟨_, rfl⟩
   obtain ⟨g, hg⟩ := qd (lgL b h s).length (by omega)
   obtain ⟨x', st', e1, e2, e3⟩ := qjZ hp pk N N i x3 x4 b0 h0 s0 n (by omega) (lgL b h s).length (lgL b h s).length N pks (lgL b h s).length 0 (by omega) [] (fun j _ hj => rfl) x st hst g
   rw [<- hg] at e3
   have hh' := hh.congr e1
   have start : ∀ r, (∃ n' b' h' s' x' st', n' <= 1000 /\ Hist b0 h0 s0 n' st' b' h' s' /\ r = some (.inr (x3, x4, b0, h0, s0, kof b' h' s', n', b', h', s', qI b', qO b', x', st'))) ->
     qCU (F + (k + 1) + 1) N N i x3 x4 b0 h0 s0 (kof b h s) n N pks b h s (qI b) (qO b) x st = r -> ∃ n' b' h' s' x' st', n' <= 1000 /\ Hist b0 h0 s0 n' st' b' h' s' /\
      qCU (F + (k + 1) + 1) N N i x3 x4 b0 h0 s0 (kof b h s) n N pks b h s (qI b) (qO b) x st = some (.inr (x3, x4, b0, h0, s0, kof b' h' s', n', b', h', s', qI b', qO b', x', st')) := by
    intro r ⟨n', b', h', s', x', st', q1, q2, q3⟩ q4
    exact ⟨n', b', h', s', x', st', q1, q2, q4.trans q3⟩
   have body : qCU (F + (k + 1) + 1) N N i x3 x4 b0 h0 s0 (kof b h s) n N pks b h s (qI b) (qO b) x st =
     br (Int.ofNat (lgL b h s).length == 0) (some (.inr (x3, x4, b0, h0, s0, kof b h s, n, b, h, s, qI b, qO b, x', st')))
      (br (decide (pk < 0)) (some (.inr (x3, x4, b0, h0, s0, kof b h s, n, b, h, s, qI b, qO b, x', st')))
       (br (decide (Int.ofNat (lgL b h s).length = 0)) none
        (br (inB (Int.tmod pk (Int.ofNat (lgL b h s).length)) (lgL b h s).length)
         (ob (qDQ (m0 ((lgL b h s).getD (Int.toNat (Int.tmod pk (Int.ofNat (lgL b h s).length))) [])) (m1 ((lgL b h s).getD (Int.toNat (Int.tmod pk (Int.ofNat (lgL b h s).length))) [])) (m2 ((lgL b h s).getD (Int.toNat (Int.tmod pk (Int.ofNat (lgL b h s).length))) [])) (m3 ((lgL b h s).getD (Int.toNat (Int.tmod pk (Int.ofNat (lgL b h s).length))) [])) (kof b h s) n b h s (qI b) (qO b) x' st') fun t =>
          sw t (fun (_, a1, a2, a3, a4, a5, a6, a7, a8, a9) => qCU (F + k + 1) N N ((i : Int) + 1) x3 x4 b0 h0 s0 a1 a2 N pks a3 a4 a5 a6 a7 a8 a9)
           (fun (_, a1, a2, a3, a4, a5, a6, a7, a8, a9) => qCU (F + k + 1) N N ((i : Int) + 1) x3 x4 b0 h0 s0 a1 a2 N pks a3 a4 a5 a6 a7 a8 a9))
         none))) := by
    rw [qCU.eq_2]
    unfold qMY
    rw [qc (by omega), qa (by omega) (by omega), tn, hp.all, qA]
    simp only
    rw [qnd hp.clean h hp.side, qA, <- hp.lists]
    simp only [bne_self_eq_false, b_f, hpk]
    rw [show qDp qC pk (lgL b h s).length (lgL b h s).length N (N : Int) (i : Int) (lgL b h s).length (Int.ofNat (lgL b h s).length) 0 x3 x4 b0 h0 s0 (kof b h s) n b h s (lgL b h s).length (lgL b h s) (lgL b h s).length (lgL b h s) [] N pks b h s (qI b) (qO b) x st = _ from e3, qA, qAo]
    simp only
    rw [hp.stuck, qA]
    simp only
    rw [qK1, beq_self_eq_true, Bool.not_true, b_f]
    simp only [hdM]
    rw [w_s (n := (i : Int) + 1) (by omega) (by omega)]
    rfl
   by_cases h0 : (lgL b h s).length = 0
   ·refine start _ ⟨n, b, h, s, x', st', by omega, hh', ?_⟩ body
    rw [qF (by rw [qK1]; simpa using h0)]
   by_cases h1 : pk < 0
   ·refine start _ ⟨n, b, h, s, x', st', by omega, hh', ?_⟩ body
    rw [qJ (by rw [qK1]; simpa using h0), qF (by simpa using h1)]
   have hj0 : 0 <= Int.tmod pk (Int.ofNat (lgL b h s).length) := Int.tmod_nonneg _ (by omega)
   have hj1 : Int.tmod pk (Int.ofNat (lgL b h s).length) < Int.ofNat (lgL b h s).length := Int.tmod_lt_of_pos _ (by simp only [Int.ofNat_eq_natCast]; omega)
   obtain ⟨j, hj⟩ : ∃ j : Nat, Int.tmod pk (Int.ofNat (lgL b h s).length) = (j : Int) := ⟨_, (Int.toNat_of_nonneg hj0).symm⟩
   rw [hj] at hj1 body
   have hjl : j < (lgL b h s).length := by simp only [Int.ofNat_eq_natCast] at hj1; omega
   have hm : (lgL b h s)[j] ∈ lgL b h s := List.getElem_mem hjl
   rw [qJ (by rw [qK1]; simpa using h0), qJ (by simpa using h1), qJ (by simp only [Int.ofNat_eq_natCast, decide_eq_false_iff_not]; omega), qa (by omega) (by omega), tn, atL hjl, hp.make hm n (by omega), qA, qAo] at body
   refine start _ ?_ body
   exact ih (i + 1) (by omega) (n + 1) _ _ _ (n + 1) _ (hp.after hm) (by omega) (.succ (hh'.congr (qXP e2 _)) hp hm (qXN e2 _)) (by rw [qXO e2]; omega) F
theorem qb1 : qDv qIO qDB 0 = some 0 := by kernel_rfl
theorem qMO : PosP qIO qDB 0 := by
 have hf : qAU qDB := by
  intro i
  by_cases h : i < 16
  ·have h2 : ∀ j, j < 16 -> qDB.getD j 0 = 0 := by decide
   rw [h2 i h]; omega
  ·have h2 : qDB.getD i 0 = 0 := by rw [List.getD_eq_getElem?_getD, List.getElem?_eq_none (by show qDB.length <= i; have : qDB.length = 16 := rfl; omega)]; rfl
   rw [h2]; omega
 refine ⟨rfl, hf, rfl, ?_⟩
 have := qMl (b := qIO) (h := qDB) rfl hf 0
 rw [qb1] at this
 exact (Option.some.inj this).symm
theorem qpB : (ob (qDz qIO qDB 0) fun (a10_0, a10_1, a10_2, a10_3, a10_4) => ob (qD8 a10_0 a10_1 a10_2 a10_3 a10_4) fun (a15_0, _, _, _, _, _, _, _) => some a15_0) = some 30 := by kernel_rfl
theorem qpC : (lgL qIO qDB 0).length = 30 := by
 have := qpB
 rw [qJC rfl, qIq qMO.clean, qA] at this
 simp only at this
 rw [qMO.all, qA] at this
 exact Option.some.inj this
theorem qqK {b h : List Int} (s : Int) (hl : b.length = 81) (hf : qAU h) (hh : h.length = 16) (lo len cap : Nat) (l : List Int) : qJt b h s lo len cap l = some true := by
 unfold qJt
 rw [qpD, qA]
 simp only
 rw [qJC rfl, qIq qMO.clean, qA]
 simp only
 rw [qMO.all, qA]
 simp only
 rw [qpC, qJ (by rfl), qA]
 simp only
 rw [qb1, qA]
 simp only [bne_self_eq_false, b_f]
 rw [qMl hl hf, qA]
 by_cases hz : qDI b h s = 0
 ·have hp : PosP b h s := ⟨hl, hf, hh, hz⟩
  rw [qt hz]
  by_cases hn : Int.ofNat len > 12
  ·rw [qF (by simpa using hn)]
  ·have hn' : len <= 12 := by simp only [Int.ofNat_eq_natCast] at hn; omega
   rw [qJ (by simpa using hn), qhS hp.clean, qA]
   simp only
   rw [qCF (by omega)]
   obtain ⟨g, hg⟩ := qd (1 + len) (by omega)
   obtain ⟨n', b', h', s', x', st', q1, q2, q3⟩ := qp7 (1 + len) (by omega) cap l (0 :: List.take len (List.drop lo l)) (1 + len) 0 (by omega) 0 b h s 0 [] hp (by omega) (.zero []) (by simp) g
   rw [<- hg] at q3
   rw [show qCU qC (1 + len) (Int.ofNat (1 + len)) 0 cap l b h s (kof b h s) 0 (1 + len) (0 :: List.take len (List.drop lo l)) b h s (qI b) (qO b) 0 [] = _ from q3, qA, qAo]
   simp only
   obtain ⟨g2, hg2⟩ := qd n' (by omega)
   have := qqE q2 q1 cap l b h s x' g2
   rw [<- hg2] at this
   rw [this, qA]
   simp only [beq_self_eq_true, Bool.and_self, b_t]
   unfold qKV
   rfl
 ·rw [qp hz]
end Go.Kk.Pl
