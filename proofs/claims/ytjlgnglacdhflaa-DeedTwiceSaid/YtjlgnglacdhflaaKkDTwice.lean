/-
  The law DeedTwice, told plainly: what is done can be taken back.
-/
import Derived.Test.YtjlgnglacdhflaaKkDKeys
namespace Go.Kk.Pl

theorem board_ext {b c : List Int} (hb : b.length = 81) (hc : c.length = 81) (h : ∀ q, 0 ≤ q → q < 81 → at_ b q = at_ c q) : b = c := by
  refine List.ext_getElem (by rw [hb, hc]) fun j h1 h2 => ?_
  have := h j (by omega) (by omega)
  unfold at_ at this
  rw [if_pos (by omega), if_pos (by omega), Int.toNat_natCast, List.getD_eq_getElem?_getD, List.getD_eq_getElem?_getD, List.getElem?_eq_getElem h1, List.getElem?_eq_getElem h2] at this
  exact this
theorem clean_or {b : List Int} (hc : Clean b) (q : Int) : (if kd (at_ b q) = 0 then 0 else at_ b q) = at_ b q := by
  rcases hc.at_ q with h | h
  · rw [h]; rfl
  · rw [if_neg h]

theorem back_drop {b : List Int} (hc : Clean b) {t : Int} (ht : 0 ≤ t ∧ t < 81) (h0 : at_ b t = 0) (x : Int) : put (put b t x) t 0 = b := by
  refine board_ext ((hc.put _ _).put _ _).len hc.len fun q q0 q1 => ?_
  rw [at_put (hc.put _ _).len ht, at_put hc.len ht]
  split
  · rename_i e; subst e; rw [h0]; rfl
  · rfl
theorem back_move {b : List Int} (hc : Clean b) {f t : Int} (hf : 0 ≤ f ∧ f < 81) (ht : 0 ≤ t ∧ t < 81) (x : Int) : put (put (put (put b f 0) t x) t (at_ b t)) f (at_ b f) = b := by
  have c1 := hc.put f 0
  have c2 := c1.put t x
  have c3 := c2.put t (at_ b t)
  refine board_ext (c3.put _ _).len hc.len fun q q0 q1 => ?_
  rw [at_put c3.len hf, at_put c2.len ht, at_put c1.len ht, at_put hc.len hf, clean_or hc, clean_or hc]
  split
  · rename_i e; subst e; rfl
  · split
    · rename_i e; subst e; rfl
    · rfl

theorem hset_back {h : List Int} (hl : h.length = 16) {s k : Int} (hs : s = 0 ∨ s = 1) (k0 : 0 ≤ k) (k1 : k < 8) {d : Int} (r0 : -128 ≤ hd_ h s k ∧ hd_ h s k ≤ 127) (r1 : -128 ≤ hd_ h s k + d ∧ hd_ h s k + d ≤ 127) :
    hset (hset h s k d) s k (-d) = h := by
  have e := hd_hset hl hs k0 k1 d hs k0 k1
  rw [if_pos ⟨rfl, rfl⟩, wrap8 r1.1 r1.2] at e
  rw [show hset (hset h s k d) s k (-d) = (hset h s k d).set (s.toNat * 8 + k.toNat) (IntKind.wrap .i8 (hd_ (hset h s k d) s k + -d)) from rfl, e, show hd_ h s k + d + -d = hd_ h s k by omega, wrap8 r0.1 r0.2]
  have hi : s.toNat * 8 + k.toNat < h.length := by rcases hs with rfl | rfl <;> simp <;> omega
  have hg : hd_ h s k = h[s.toNat * 8 + k.toNat] := by
    unfold hd_
    rw [List.getD_eq_getElem?_getD, List.getElem?_eq_getElem hi]
    rfl
  unfold hset
  rw [List.set_set, hg, List.set_getElem_self]

/-- Taking back what was done. -/
theorem back_val {b h : List Int} {s : Int} (hg : Going b h s) {f t d : Int} {p : Bool} (hP : CanP b h s f t d p) (K : Int) (n : Nat) (hn : n ≤ 1000) (by_ sides : List (List Int)) (m : Nat) (st : List (List Int))
    (hst : st.getD n [] = [f, t, d, bi p, at_ b t, was b s f d]) :
    ∃ K' by' sides', deed_Game_Back K (n + 1) (mb b s f t d p) (mh b h s t d) (1 - s) by_ sides m st = some (true, K', n, b, h, s, by', sides', m, st) := by
  have hS := hg.sound
  have hs' : 1 - s = 0 ∨ 1 - s = 1 := by have := hS.side; omega
  unfold deed_Game_Back
  have e1 : IntKind.wrap .i64 (Int.ofNat (n + 1) - 1) = (n : Int) := by
    have : Int.ofNat (n + 1) = (n : Int) + 1 := rfl
    rw [this, wrap_small (by omega) (by omega)]
    omega
  rw [br_false (by simp; omega), e1, br_true (inB_true (by omega) (by omega)), br_true (inLe_true (by omega) (by omega)), gturn_val hs', ob_some]
  simp only [Int.toNat_natCast, hst, Nat.sub_zero, show (1 : Int) - (1 - s) = s by omega]
  simp only [List.take_succ_cons, List.take_zero, List.headD_cons, List.tail_cons]
  by_cases hd : d = 0
  · obtain ⟨f0, f1, f2, g1, g2, g3, g4⟩ := hP.move hd
    have hw : was b s f d = at_ b f := by unfold was; rw [if_neg (by simpa using hd)]
    have hmb : mb b s f t d p = put (put b f 0) t (laid b s f d p) := by unfold mb; rw [if_neg (by simpa using hd)]
    rw [br_false (by simpa using hd), hw, hmb]
    obtain ⟨by1, sides1, p1⟩ := gput_val ((hS.clean.put f 0).put t (laid b s f d p)) t (at_ b t) (kturn K) n (mh b h s t d) s by_ sides m st
    obtain ⟨by2, sides2, p2⟩ := gput_val (((hS.clean.put f 0).put t (laid b s f d p)).put t (at_ b t)) f (at_ b f) (kput (kturn K) (put (put b f 0) t (laid b s f d p)) t (at_ b t)) n (mh b h s t d) s by1 sides1 m st
    rw [back_move hS.clean ⟨f0, f1⟩ hP.to_] at p2
    rw [p1, ob_some]
    simp only
    rw [p2, ob_some]
    simp only
    by_cases ht : at_ b t = 0
    · have hmh : mh b h s t d = h := by unfold mh; rw [if_neg (by simpa using hd), if_pos ht]
      rw [br_false (by simpa using ht), hmh]
      exact ⟨_, _, _, rfl⟩
    · have hk := (hS.clean.at_ t).resolve_left ht
      obtain ⟨r1, r2⟩ := rw_range hk g3
      obtain ⟨k1, k2, k3⟩ := kd_bounds (at_ b t)
      have hc := hS.counts _ r1 r2
      have h0 := hS.hands (rw_ (kd (at_ b t))) (by omega) r2
      have hsd := hS.side
      have hmh : mh b h s t d = hset h s (rw_ (kd (at_ b t))) 1 := by unfold mh; rw [if_neg (by simpa using hd), if_neg ht]
      rw [br_true (by simpa using ht), kind_val, ob_some, raw_val k1 k2, ob_some, ghand_val hS.side r1 r2 (-1) (.inr rfl), ob_some, hmh,
        hset_back hg.len hS.side (by omega) r2 (fits_hd hg.fits _ _) (by rcases hsd with rfl | rfl <;> constructor <;> omega)]
      exact ⟨_, _, _, rfl⟩
  · obtain ⟨d0, d1, d2, d3, g1, g2⟩ := hP.drop hd
    have hmb : mb b s f t d p = put b t (laid b s f d p) := by unfold mb; rw [if_pos hd]
    have hmh : mh b h s t d = hset h s d (-1) := by unfold mh; rw [if_pos hd]
    have hb := fits_hd hg.fits s d
    obtain ⟨by1, sides1, p1⟩ := gput_val (hS.clean.put t (laid b s f d p)) t 0 (kturn K) n (mh b h s t d) s by_ sides m st
    rw [back_drop hS.clean hP.to_ g2] at p1
    rw [br_true (by simpa using hd), hmb, p1, ob_some]
    simp only
    have hbk : hset (hset h s d (-1)) s d 1 = h := hset_back hg.len hS.side (by omega) d1 (d := -1) hb (by constructor <;> omega)
    rw [ghand_val hS.side (by omega) d1 1 (.inl rfl), ob_some, hmh]
    rw [hbk]
    exact ⟨_, _, _, rfl⟩

theorem back_none (K : Int) (b h : List Int) (s : Int) (by_ sides : List (List Int)) (m : Nat) (st : List (List Int)) : deed_Game_Back K 0 b h s by_ sides m st = some (false, K, 0, b, h, s, by_, sides, m, st) := by
  unfold deed_Game_Back
  rw [br_true (by rfl)]

/-- So many deeds can be taken back, down to a position. -/
def Undo (b0 h0 : List Int) (s0 : Int) (st : List (List Int)) : Nat → List Int → List Int → Int → Prop
  | 0, b, h, s => b = b0 ∧ h = h0 ∧ s = s0
  | n + 1, b, h, s => ∃ b1 h1 s1 f t d p, Going b1 h1 s1 ∧ CanP b1 h1 s1 f t d p ∧ b = mb b1 s1 f t d p ∧ h = mh b1 h1 s1 t d ∧ s = 1 - s1 ∧ st.getD n [] = [f, t, d, bi p, at_ b1 t, was b1 s1 f d] ∧ Undo b0 h0 s0 st n b1 h1 s1

theorem undo_congr {b0 h0 : List Int} {s0 : Int} {st st' : List (List Int)} : ∀ (n : Nat), (∀ i, i < n → st'.getD i [] = st.getD i []) → ∀ b h s, Undo b0 h0 s0 st n b h s → Undo b0 h0 s0 st' n b h s := by
  intro n
  induction n with
  | zero => intro _ b h s hu; exact hu
  | succ n ih =>
    intro he b h s hu
    obtain ⟨b1, h1, s1, f, t, d, p, u1, u2, u3, u4, u5, u6, u7⟩ := hu
    exact ⟨b1, h1, s1, f, t, d, p, u1, u2, u3, u4, u5, (he n (by omega)).trans u6, ih (fun i hi => he i (by omega)) b1 h1 s1 u7⟩

theorem undo_push {b0 h0 : List Int} {s0 : Int} {st : List (List Int)} {n : Nat} (hl : n ≤ st.length) {b h : List Int} {s : Int} (hg : Going b h s) {f t d : Int} {p : Bool} (hP : CanP b h s f t d p) (hu : Undo b0 h0 s0 st n b h s) :
    Undo b0 h0 s0 (List.append (List.take n st) [[f, t, d, bi p, at_ b t, was b s f d]]) (n + 1) (mb b s f t d p) (mh b h s t d) (1 - s) := by
  have ht : (List.take n st).length = n := by rw [List.length_take]; omega
  refine ⟨b, h, s, f, t, d, p, hg, hP, rfl, rfl, rfl, ?_, undo_congr n (fun i hi => ?_) b h s hu⟩
  · show (List.take n st ++ [[f, t, d, bi p, at_ b t, was b s f d]]).getD n [] = _
    rw [List.getD_eq_getElem?_getD, List.getElem?_append_right (by omega), ht, Nat.sub_self]
    rfl
  · show (List.take n st ++ [[f, t, d, bi p, at_ b t, was b s f d]]).getD i [] = _
    rw [List.getD_eq_getElem?_getD, List.getElem?_append_left (by omega), List.getElem?_take, if_pos hi, ← List.getD_eq_getElem?_getD]

theorem undo_goes {b0 h0 : List Int} {s0 : Int} (x0 x1 x2 : Nat) (x3 : List (List Int)) (x4 x5 : List Int) (x6 x9 : Int) (x10 : Nat) (x18 x19 : List Int) (x20 : Int) (x21 x22 : List (List Int)) (x23 : Nat) (x24 : List (List Int)) :
    ∀ (n : Nat), n ≤ 1000 → ∀ (K : Int) (b h : List Int) (s : Int) (by_ sides : List (List Int)) (m : Nat) (st : List (List Int)), Undo b0 h0 s0 st n b h s →
    ∃ K' by' sides', ∀ f, law09_DeedTwicel16 (f + n + 1) x0 x1 x2 x3 x4 x5 x6 K n x9 x10 b h s by_ sides m st x18 x19 x20 x21 x22 x23 x24 =
      some (x0, x1, x2, x3, x4, x5, x6, K', 0, x9, x10, b0, h0, s0, by', sides', m, st, x18, x19, x20, x21, x22, x23, x24) := by
  intro n
  induction n with
  | zero =>
    intro _ K b h s by_ sides m st hu
    obtain ⟨rfl, rfl, rfl⟩ := hu
    refine ⟨K, by_, sides, fun f => ?_⟩
    show law09_DeedTwicel16s (law09_DeedTwicel16 (f + 0)) _ _ _ _ _ _ _ _ _ _ _ _ _ _ _ _ _ _ _ _ _ _ _ _ _ = _
    unfold law09_DeedTwicel16s
    rw [back_none, ob_some]
    simp only
    rw [br_false rfl]
  | succ n ih =>
    intro hn K b h s by_ sides m st hu
    obtain ⟨b1, h1, s1, f, t, d, p, u1, u2, u3, u4, u5, u6, u7⟩ := hu
    subst u3 u4 u5
    obtain ⟨K1, by1, sides1, hb⟩ := back_val u1 u2 K n (by omega) by_ sides m st u6
    obtain ⟨K', by', sides', hi⟩ := ih (by omega) K1 b1 h1 s1 by1 sides1 m st u7
    refine ⟨K', by', sides', fun f => ?_⟩
    show law09_DeedTwicel16s (law09_DeedTwicel16 (f + n + 1)) _ _ _ _ _ _ _ _ _ _ _ _ _ _ _ _ _ _ _ _ _ _ _ _ _ = _
    unfold law09_DeedTwicel16s
    rw [hb, ob_some]
    simp only
    rw [br_true rfl]
    exact hi f

theorem twice_goes {b0 h0 : List Int} {s0 : Int} (xs : List (List Int)) (N : Nat) (hN : N ≤ 40) (x6 : Nat) (x8 x9 : List Int) (x10 : Int) : ∀ (n i : Nat), i + n = N → ∀ (b h : List Int) (s : Int), Going b h s → ∀ (k : Nat), k ≤ i →
    ∀ by1 sides1 m1 st1 by2 sides2 m2 st2, k ≤ st1.length → Undo b0 h0 s0 st1 k b h s →
    ∃ b' h' s' K' k' by1' sides1' m1' st1' by2' sides2' m2' st2', k' ≤ N ∧ Undo b0 h0 s0 st1' k' b' h' s' ∧
    ∀ f, law09_DeedTwicel8 (f + n + 1) 0 N 0 N N i x6 xs x8 x9 x10 (kof b h s) k (kof b h s) k b h s by1 sides1 m1 st1 b h s by2 sides2 m2 st2 =
      some (.inr (0, N, x6, xs, x8, x9, x10, K', k', K', k', b', h', s', by1', sides1', m1', st1', b', h', s', by2', sides2', m2', st2')) := by
  intro n
  induction n with
  | zero =>
    intro i hi b h s hg k hk by1 sides1 m1 st1 by2 sides2 m2 st2 hl hu
    refine ⟨b, h, s, kof b h s, k, by1, sides1, m1, st1, by2, sides2, m2, st2, by omega, hu, fun f => ?_⟩
    show law09_DeedTwicel8s (law09_DeedTwicel8 (f + 0)) _ _ _ _ _ _ _ _ _ _ _ _ _ _ _ _ _ _ _ _ _ _ _ _ _ _ _ _ _ = _
    unfold law09_DeedTwicel8s
    rw [br_false (by simp; omega)]
  | succ n ih =>
    intro i hi b h s hg k hk by1 sides1 m1 st1 by2 sides2 m2 st2 hl hu
    obtain ⟨c, hcan, hm⟩ := make_val hg.sound.clean h hg.sound.side
      (List.headD (List.take 4 (List.getD xs (0 + Int.toNat (i : Int)) [])) 0) (List.headD (List.tail (List.take 4 (List.getD xs (0 + Int.toNat (i : Int)) []))) 0)
      (List.headD (List.tail (List.tail (List.take 4 (List.getD xs (0 + Int.toNat (i : Int)) [])))) 0) (List.headD (List.tail (List.tail (List.tail (List.take 4 (List.getD xs (0 + Int.toNat (i : Int)) []))))) 0 != 0)
    have e : ∀ f, law09_DeedTwicel8 (f + (n + 1) + 1) 0 N 0 N N i x6 xs x8 x9 x10 (kof b h s) k (kof b h s) k b h s by1 sides1 m1 st1 b h s by2 sides2 m2 st2 =
      law09_DeedTwicel8s (law09_DeedTwicel8 (f + n + 1)) 0 N 0 N N i x6 xs x8 x9 x10 (kof b h s) k (kof b h s) k b h s by1 sides1 m1 st1 b h s by2 sides2 m2 st2 := fun f => rfl
    have hw : IntKind.wrap .i64 ((i : Int) + 1) = ((i + 1 : Nat) : Int) := by rw [wrap_small (by omega) (by omega)]; rfl
    have hlt : decide ((i : Int) < (N : Int)) = true := by simp; omega
    have hin : inB (i : Int) N = true := inB_true (by omega) (by omega)
    rcases hm with ⟨rfl, hm⟩ | ⟨rfl, hP, hm⟩
    · obtain ⟨b', h', s', K', k', y1, y2, y3, y4, y5, y6, y7, y8, y9, y10, hi'⟩ := ih (i + 1) (by omega) b h s hg k (by omega) by1 sides1 m1 st1 by2 sides2 m2 st2 hl hu
      refine ⟨b', h', s', K', k', y1, y2, y3, y4, y5, y6, y7, y8, y9, y10, fun f => ?_⟩
      rw [e]
      unfold law09_DeedTwicel8s
      rw [br_true hlt, br_true hin, hcan, ob_some, hm, ob_some, sw_inl]
      simp only
      rw [br_false (by rfl), br_false rfl, hm, ob_some, sw_inl]
      simp only
      rw [br_false (by rfl), br_false (by simp)]
      have eK : ∀ (K : Int) n0 b h s by_ sides m st, deed_Game_Key K n0 b h s by_ sides m st = some K := fun _ _ _ _ _ _ _ _ _ => rfl
      have eL : ∀ (K : Int) n0 b h s by_ sides m st, deed_Game_Len K n0 b h s by_ sides m st = some (Int.ofNat n0) := fun _ _ _ _ _ _ _ _ _ => rfl
      rw [eK, ob_some, eK, ob_some, br_false (by simp), eL, ob_some, eL, ob_some, br_false (by simp), hw]
      exact hi' f
    · obtain ⟨by1', sides1', hm1⟩ := hm (kof b h s) k by1 sides1 m1 st1 (by omega)
      obtain ⟨by2', sides2', hm2⟩ := hm (kof b h s) k by2 sides2 m2 st2 (by omega)
      have hu' := undo_push hl hg hP hu
      obtain ⟨b', h', s', K', k', y1, y2, y3, y4, y5, y6, y7, y8, y9, y10, hi'⟩ := ih (i + 1) (by omega) _ _ _ (going_make hg hP) (k + 1) (by omega) by1' sides1' (k + 1) _ by2' sides2' (k + 1)
        (List.append (List.take k st2) [[List.headD (List.take 4 (List.getD xs (0 + Int.toNat (i : Int)) [])) 0, List.headD (List.tail (List.take 4 (List.getD xs (0 + Int.toNat (i : Int)) []))) 0,
          List.headD (List.tail (List.tail (List.take 4 (List.getD xs (0 + Int.toNat (i : Int)) [])))) 0, bi (List.headD (List.tail (List.tail (List.tail (List.take 4 (List.getD xs (0 + Int.toNat (i : Int)) []))))) 0 != 0),
          at_ b (List.headD (List.tail (List.take 4 (List.getD xs (0 + Int.toNat (i : Int)) []))) 0), was b s (List.headD (List.take 4 (List.getD xs (0 + Int.toNat (i : Int)) [])) 0) (List.headD (List.tail (List.tail (List.take 4 (List.getD xs (0 + Int.toNat (i : Int)) [])))) 0)]])
        (by show k + 1 ≤ (List.take k st1 ++ [_]).length; rw [List.length_append, List.length_take]; simp; omega) hu'
      refine ⟨b', h', s', K', k', y1, y2, y3, y4, y5, y6, y7, y8, y9, y10, fun f => ?_⟩
      rw [e]
      unfold law09_DeedTwicel8s
      rw [br_true hlt, br_true hin, hcan, ob_some, hm1, ob_some, sw_inr]
      simp only
      have hne : (s == 1 - s) = false := by have := hg.sound.side; simp; omega
      rw [br_false (by rfl), br_true rfl, br_false (by rw [hne]; simp), hm2, ob_some, sw_inr]
      simp only
      rw [br_false (by rfl), br_false (by simp)]
      have eK : ∀ (K : Int) n0 b h s by_ sides m st, deed_Game_Key K n0 b h s by_ sides m st = some K := fun _ _ _ _ _ _ _ _ _ => rfl
      have eL : ∀ (K : Int) n0 b h s by_ sides m st, deed_Game_Len K n0 b h s by_ sides m st = some (Int.ofNat n0) := fun _ _ _ _ _ _ _ _ _ => rfl
      rw [eK, ob_some, eK, ob_some, br_false (by simp), eL, ob_some, eL, ob_some, br_false (by simp), hw, mkey_val hg.sound hg.fits hg.len hP]
      exact hi' f

theorem deedTwice_true {b h : List Int} (hl : b.length = 81) (hf : Fits8 h) (hh : h.length = 16) (s : Int) (xs : List (List Int)) (x5 : Nat) : law09_DeedTwice b h s 0 xs.length x5 xs = some true := by
  unfold law09_DeedTwice
  rw [makes_true, ob_some, br_false (by rfl)]
  obtain ⟨b1, hc, h1⟩ := clean_val b h s hl
  rw [h1, ob_some]
  simp only
  obtain ⟨v, hv, hv0⟩ := check_val hc hf s
  rw [hv, ob_some]
  by_cases hz : v = 0
  · have hS := hv0 hz
    rw [br_false (by simpa using hz)]
    by_cases hn : xs.length ≤ 40
    · rw [br_false (by simp; omega)]
      obtain ⟨by_, sides, hnew⟩ := gnew_val hc h s
      rw [hnew, ob_some]
      simp only
      rw [ob_some]
      simp only
      obtain ⟨g, hg⟩ := many_eq xs.length (by omega)
      obtain ⟨b', h', s', K', k', y1, y2, y3, y4, y5, y6, y7, y8, hk, hu, h3⟩ := twice_goes (b0 := b1) (h0 := h) (s0 := s) xs xs.length hn x5 b1 h s xs.length 0 (by omega) b1 h s ⟨hS, hf, hh⟩ 0 (by omega) by_ sides 0 [] by_ sides 0 [] (Nat.zero_le _) ⟨rfl, rfl, rfl⟩
      have h3 := h3 g
      rw [← hg] at h3
      have h3 : law09_DeedTwicel8 many 0 xs.length 0 xs.length (Int.ofNat xs.length) 0 x5 xs b1 h s (kof b1 h s) 0 (kof b1 h s) 0 b1 h s by_ sides 0 [] b1 h s by_ sides 0 [] = _ := h3
      rw [h3, ob_some, sw_inr]
      simp only
      obtain ⟨g2, hg2⟩ := many_eq k' (by omega)
      obtain ⟨K2, z1, z2, h4⟩ := undo_goes 0 xs.length x5 xs b1 h s K' k' b' h' s' y5 y6 y7 y8 k' (by omega) K' b' h' s' y1 y2 y3 y4 hu
      have h4 := h4 g2
      rw [← hg2] at h4
      rw [h4, ob_some]
      simp only
      rw [br_true (by simp)]
      have eL : ∀ (K : Int) n0 b h s by_ sides m st, deed_Game_Len K n0 b h s by_ sides m st = some (Int.ofNat n0) := fun _ _ _ _ _ _ _ _ _ => rfl
      rw [eL, ob_some, br_true (by rfl), eL, ob_some]
      simp
      omega
    · rw [br_true (by simp; omega)]
  · rw [br_true (by simpa using hz)]

end Go.Kk.Pl
