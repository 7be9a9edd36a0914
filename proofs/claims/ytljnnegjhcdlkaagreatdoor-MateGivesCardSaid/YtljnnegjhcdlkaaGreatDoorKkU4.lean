/- What the program's functions come to, told plainly: the texts of this project that this claim leans on, cut down to what is used. -/
import Derived.Test.YtljnnegjhcdlkaaGreatDoorKkU3
namespace Go.Kk.Pl
theorem gput_full {b : List Int} (hc : Clean b) (q x K : Int) (n : Nat) (h : List Int) (s : Int) (m : Nat) (st : List (List Int)) :
  deed_Game_put q x K n b h s (byOf b) (sidesOf b) m st = some (kput K b q x, n, put b q x, h, s, byOf (put b q x), sidesOf (put b q x), m, st) := by
 unfold deed_Game_put
 simp only [at_val, ob_some, kp_val, put_full hc]
 rfl
theorem gnew_full {b : List Int} (hc : Clean b) (h : List Int) (s : Int) : deed_New b h s = some (kof b h s, 0, b, h, s, byOf b, sidesOf b, 0, []) := by
 unfold deed_New
 rw [new_full hc.len, cl_id hc, ob_some]
 simp only
 rw [kof_val, ob_some]
theorem make_full {b : List Int} (hc : Clean b) (h : List Int) {s : Int} (hs : s = 0 ∨ s = 1) (f t d : Int) (p : Bool) : ∃ c, (∀ K n m st, deed_Game_Can f t d p K n b h s (byOf b) (sidesOf b) m st = some c) ∧
  ((c = false ∧ ∀ K n m st, deed_Game_Make f t d p K n b h s (byOf b) (sidesOf b) m st = some (.inl (false, K, n, b, h, s, byOf b, sidesOf b, m, st))) ∨
   (c = true ∧ CanP b h s f t d p ∧ ∀ K n m st, (n + 1) * 40 ≤ 140737488355328 → deed_Game_Make f t d p K n b h s (byOf b) (sidesOf b) m st =
    some (.inr (true, mkey K b h s f t d p, n + 1, mb b s f t d p, mh b h s t d, 1 - s, byOf (mb b s f t d p), sidesOf (mb b s f t d p), n + 1, List.append (List.take n st) [[f, t, d, bi p, at_ b t, was b s f d]])))) := by
 obtain ⟨c, hcan, hP⟩ := can_val b h hs f t d p
 refine ⟨c, fun K n m st => hcan K n _ _ m st, ?_⟩
 cases c with
 | false =>
   refine .inl ⟨rfl, fun K n m st => ?_⟩
   unfold deed_Game_Make
   rw [hcan, ob_some, br_true (by rfl)]
 | true =>
   have hP := hP rfl
   refine .inr ⟨rfl, hP, fun K n m st hn => ?_⟩
   have hn' : decide ((n + 1) * 40 ≤ 140737488355328) = true := by simpa using hn
   unfold deed_Game_Make
   rw [hcan, ob_some, br_false (by rfl), at_val, ob_some]
   by_cases hd : d = 0
   ·obtain ⟨f0, f1, f2, g1, g2, g3, g4⟩ := hP.move hd
    rw [br_false (by simpa using hd), at_val, ob_some]
    have hx : ∀ {α : Type} (k : Int → Option α), (br p (ob (piece_Kind (at_ b f)) fun a16 => ob (piece_Up a16) fun a17 => ob (piece_Of s a17) k) (k (at_ b f))) = k (laid b s f d p) := by
     intro α k
     unfold laid
     rw [if_neg (by simpa using hd)]
     cases p with
     | false => rfl
     | true =>
       obtain ⟨u1, u2, u3⟩ := up_range (g4 rfl)
       rw [br_true rfl, kind_val, ob_some, up_val, ob_some, of_val hs u1 u2 u3, ob_some, if_pos rfl]
    have p1 := gput_full hc f 0 K n h s m st
    have p2 := gput_full (hc.put f 0) t (laid b s f d p) (kput K b f 0) n h s m st
    have tail : (br (at_ b t != 0)
      (ob (piece_Kind (at_ b t)) fun a37 =>
      ob (piece_Raw a37) fun a38 =>
      ob (deed_Game_hand s a38 1 (kput (kput K b f 0) (put b f 0) t (laid b s f d p)) n (put (put b f 0) t (laid b s f d p)) h s (byOf (put (put b f 0) t (laid b s f d p))) (sidesOf (put (put b f 0) t (laid b s f d p))) m st) fun (a39_0, a39_1, a39_2, a39_3, a39_4, a39_5, a39_6, a39_7, a39_8) =>
      ob (deed_Game_turn a39_0 a39_1 a39_2 a39_3 a39_4 a39_5 a39_6 a39_7 a39_8) fun (a48_0, a48_1, a48_2, a48_3, a48_4, a48_5, a48_6, _, a48_8) =>
      br (decide ((a48_1 + 1) * 40 ≤ 140737488355328))
       (some (Sum.inr (true, a48_0, a48_1 + 1, a48_2, a48_3, a48_4, a48_5, a48_6, a48_1 + 1, List.append (List.take a48_1 a48_8) [[f, t, d, bi p, at_ b t, at_ b f]])))
       (none))
      (ob (deed_Game_turn (kput (kput K b f 0) (put b f 0) t (laid b s f d p)) n (put (put b f 0) t (laid b s f d p)) h s (byOf (put (put b f 0) t (laid b s f d p))) (sidesOf (put (put b f 0) t (laid b s f d p))) m st) fun (a37_0, a37_1, a37_2, a37_3, a37_4, a37_5, a37_6, _, a37_8) =>
      br (decide ((a37_1 + 1) * 40 ≤ 140737488355328))
       (some (Sum.inr (true, a37_0, a37_1 + 1, a37_2, a37_3, a37_4, a37_5, a37_6, a37_1 + 1, List.append (List.take a37_1 a37_8) [[f, t, d, bi p, at_ b t, at_ b f]])))
       (none)) : Option ((Bool × Int × Nat × List Int × List Int × Int × List (List Int) × List (List Int) × Nat × List (List Int)) ⊕ (Bool × Int × Nat × List Int × List Int × Int × List (List Int) × List (List Int) × Nat × List (List Int)))) =
      some (.inr (true, mkey K b h s f t d p, n + 1, mb b s f t d p, mh b h s t d, 1 - s, byOf (mb b s f t d p), sidesOf (mb b s f t d p), n + 1, List.append (List.take n st) [[f, t, d, bi p, at_ b t, was b s f d]])) := by
     unfold mkey mb mh was
     by_cases ht : at_ b t = 0
     ·rw [br_false (by simpa using ht), gturn_val hs, ob_some]
      simp only
      rw [br_true hn']
      simp [hd, ht]
     ·have hk := (hc.at_ t).resolve_left ht
      obtain ⟨r1, r2⟩ := rw_range hk g3
      obtain ⟨k1, k2, k3⟩ := kd_bounds (at_ b t)
      rw [br_true (by simpa using ht), kind_val, ob_some, raw_val k1 k2, ob_some, ghand_val hs r1 r2 1 (.inl rfl), ob_some]
      simp only
      rw [gturn_val hs, ob_some]
      simp only
      rw [br_true hn']
      simp [hd, ht]
    refine Eq.trans ?_ tail
    cases p with
    | true =>
      have hx := hx (fun a18 => ob (deed_Game_put f 0 K n b h s (byOf b) (sidesOf b) m st) fun (a19_0, a19_1, a19_2, a19_3, a19_4, a19_5, a19_6, a19_7, a19_8) =>
       ob (deed_Game_put t a18 a19_0 a19_1 a19_2 a19_3 a19_4 a19_5 a19_6 a19_7 a19_8) fun r => some r)
      rw [br_true rfl] at hx ⊢
      obtain ⟨u1, u2, u3⟩ := up_range (g4 rfl)
      have hl : laid b s f d true = 16 * s + up_ (kd (at_ b f)) := by unfold laid; rw [if_neg (by simpa using hd), if_pos rfl]
      rw [kind_val, ob_some, up_val, ob_some, of_val hs u1 u2 u3, ob_some, p1, ob_some]
      simp only
      rw [← hl, p2, ob_some]
    | false =>
      have hl : laid b s f d false = at_ b f := by unfold laid; rw [if_neg (by simpa using hd), if_neg (by simp)]
      rw [br_false rfl, p1, ob_some]
      simp only
      rw [hl] at p2 ⊢
      rw [p2, ob_some]
   ·obtain ⟨d0, d1, d2, d3, g1, g2⟩ := hP.drop hd
    have hl : laid b s f d p = 16 * s + d := by unfold laid; rw [if_pos hd]
    have e1 : piece_Of s d = some (laid b s f d p) := by rw [hl]; exact of_val hs (by omega) (by omega) (by omega)
    have p1 := gput_full hc t (laid b s f d p) (khand K h s d (-1)) n (hset h s d (-1)) s m st
    rw [br_true (by simpa using hd), e1, ob_some, ghand_val hs (by omega) d1 (-1) (.inr rfl), ob_some]
    simp only
    rw [p1, ob_some]
    simp only
    rw [gturn_val hs, ob_some]
    simp only
    rw [br_true hn']
    unfold mkey mb mh was
    simp only [if_pos hd, hl]
theorem key_back {h : List Int} (hl : h.length = 16) {s k : Int} (hs : s = 0 ∨ s = 1) (k0 : 0 ≤ k) (k1 : k < 8) {d : Int} (b : List Int) (S : Int) (r0 : -128 ≤ hd_ h s k ∧ hd_ h s k ≤ 127) (r1 : -128 ≤ hd_ h s k + d ∧ hd_ h s k + d ≤ 127) :
  khand (un (keyB b (hset h s k d) S)) (hset h s k d) s k (-d) = un (keyB b h S) := by
 have e := hd_hset hl hs k0 k1 d hs k0 k1
 rw [if_pos ⟨rfl, rfl⟩, wrap8 r1.1 r1.2] at e
 rw [khand_un (by rw [hset_len, hl]) hs k0 k1 b S (by omega) (by omega), hset_back hl hs k0 k1 r0 r1]
theorem back_full {b h : List Int} {s : Int} (hg : Going b h s) {f t d : Int} {p : Bool} (hP : CanP b h s f t d p) (n : Nat) (hn : n ≤ 1000) (m : Nat) (st : List (List Int))
  (hst : st.getD n [] = [f, t, d, bi p, at_ b t, was b s f d]) :
  deed_Game_Back (un (keyB (mb b s f t d p) (mh b h s t d) (1 - s))) (n + 1) (mb b s f t d p) (mh b h s t d) (1 - s) (byOf (mb b s f t d p)) (sidesOf (mb b s f t d p)) m st = some (true, un (keyB b h s), n, b, h, s, byOf b, sidesOf b, m, st) := by
 have hS := hg.sound
 have hs' : 1 - s = 0 ∨ 1 - s = 1 := by have := hS.side; omega
 unfold deed_Game_Back
 have e1 : IntKind.wrap .i64 (Int.ofNat (n + 1) - 1) = (n : Int) := by
  have : Int.ofNat (n + 1) = (n : Int) + 1 := rfl
  rw [this, wrap_small (by omega) (by omega)]
  omega
 rw [br_false (by simp; omega), e1, br_true (inB_true (by omega) (by omega)), br_true (inLe_true (by omega) (by omega)), gturn_val hs', ob_some, kturn_un hs', show (1 : Int) - (1 - s) = s by omega]
 simp only [Int.toNat_natCast, hst, Nat.sub_zero]
 simp only [List.take_succ_cons, List.take_zero, List.headD_cons, List.tail_cons]
 by_cases hd : d = 0
 ·obtain ⟨f0, f1, f2, g1, g2, g3, g4⟩ := hP.move hd
  have hw : was b s f d = at_ b f := by unfold was; rw [if_neg (by simpa using hd)]
  have hmb : mb b s f t d p = put (put b f 0) t (laid b s f d p) := by unfold mb; rw [if_neg (by simpa using hd)]
  rw [br_false (by simpa using hd), hw, hmb]
  have p1 := gput_full ((hS.clean.put f 0).put t (laid b s f d p)) t (at_ b t) (un (keyB (put (put b f 0) t (laid b s f d p)) (mh b h s t d) s)) n (mh b h s t d) s m st
  rw [kput_un ((hS.clean.put f 0).put t (laid b s f d p)).len hP.to_] at p1
  have p2 := gput_full (((hS.clean.put f 0).put t (laid b s f d p)).put t (at_ b t)) f (at_ b f) (un (keyB (put (put (put b f 0) t (laid b s f d p)) t (at_ b t)) (mh b h s t d) s)) n (mh b h s t d) s m st
  rw [kput_un (((hS.clean.put f 0).put t (laid b s f d p)).put t (at_ b t)).len ⟨f0, f1⟩] at p2
  rw [back_move hS.clean ⟨f0, f1⟩ hP.to_] at p2
  rw [p1, ob_some]
  simp only
  rw [p2, ob_some]
  simp only
  by_cases ht : at_ b t = 0
  ·have hmh : mh b h s t d = h := by unfold mh; rw [if_neg (by simpa using hd), if_pos ht]
   rw [br_false (by simpa using ht), hmh]
  ·have hk := (hS.clean.at_ t).resolve_left ht
   obtain ⟨r1, r2⟩ := rw_range hk g3
   obtain ⟨k1, k2, k3⟩ := kd_bounds (at_ b t)
   have hc := hS.counts _ r1 r2
   have h0 := hS.hands (rw_ (kd (at_ b t))) (by omega) r2
   have hsd := hS.side
   have hmh : mh b h s t d = hset h s (rw_ (kd (at_ b t))) 1 := by unfold mh; rw [if_neg (by simpa using hd), if_neg ht]
   rw [br_true (by simpa using ht), kind_val, ob_some, raw_val k1 k2, ob_some, ghand_val hS.side r1 r2 (-1) (.inr rfl), ob_some, hmh,
    hset_back hg.len hS.side (by omega) r2 (fits_hd hg.fits _ _) (by rcases hsd with rfl | rfl <;> constructor <;> omega),
    key_back hg.len hS.side (by omega) r2 _ _ (fits_hd hg.fits _ _) (by rcases hsd with rfl | rfl <;> constructor <;> omega)]
 ·obtain ⟨d0, d1, d2, d3, g1, g2⟩ := hP.drop hd
  have hmb : mb b s f t d p = put b t (laid b s f d p) := by unfold mb; rw [if_pos hd]
  have hmh : mh b h s t d = hset h s d (-1) := by unfold mh; rw [if_pos hd]
  have hb := fits_hd hg.fits s d
  have p1 := gput_full (hS.clean.put t (laid b s f d p)) t 0 (un (keyB (put b t (laid b s f d p)) (mh b h s t d) s)) n (mh b h s t d) s m st
  rw [kput_un (hS.clean.put t (laid b s f d p)).len hP.to_] at p1
  rw [back_drop hS.clean hP.to_ g2] at p1
  rw [br_true (by simpa using hd), hmb, p1, ob_some]
  simp only
  have hbk : hset (hset h s d (-1)) s d 1 = h := hset_back hg.len hS.side (by omega) d1 (d := -1) hb (by constructor <;> omega)
  rw [ghand_val hS.side (by omega) d1 1 (.inl rfl), ob_some, hmh]
  have hky : khand (un (keyB b (hset h s d (-1)) s)) (hset h s d (-1)) s d 1 = un (keyB b h s) := key_back hg.len hS.side (by omega) d1 (d := -1) _ _ hb (by constructor <;> omega)
  rw [hbk, hky]
end Go.Kk.Pl
namespace Go.Kk.Pl
theorem mates_true : law12_mates_v1 = some true := by kernel_rfl
structure PosP (b h : List Int) (s : Int) : Prop where
 len : b.length = 81
 fits : Fits8 h
 hlen : h.length = 16
 zero : atkS b h s = 0
theorem PosP.clean {b h : List Int} {s : Int} (hp : PosP b h s) : Clean b := (pos_ok hp.len hp.zero).1
theorem PosP.side {b h : List Int} {s : Int} (hp : PosP b h s) : s = 0 ∨ s = 1 := (pos_ok hp.len hp.zero).2.1
theorem PosP.going {b h : List Int} {s : Int} (hp : PosP b h s) : Going b h s := ⟨sound_of hp.len hp.fits (atk_chk hp.zero), hp.fits, hp.hlen⟩
theorem PosP.after {b h : List Int} {s : Int} (hp : PosP b h s) {m : List Int} (hm : m ∈ lgL b h s) : PosP (mbM b s m) (mhM b h s m) (1 - s) := by
 obtain ⟨hc, hs, hno, k, k', hk, hk'⟩ := pos_ok hp.len hp.zero
 obtain ⟨_, hm2, _, hm4⟩ := lgL_full hc hs hno hk hk' hm
 have hsafe : inC (mb b s (m0 m) (m1 m) (m2 m) (m3 m)) s = false := by simpa [safeM, mbM] using hm4
 exact ⟨(mb_clean hc _ _ _ _ _).1, mh_fits hp.fits _ _ _ _, mh_len hp.hlen _ _ _ _, atk_after hp.len hp.fits hp.hlen (atk_chk hp.zero) hm2 hsafe⟩
theorem PosP.lists {b h : List Int} {s : Int} (hp : PosP b h s) : lgL b h s = rlL b h s := by
 obtain ⟨hc, hs, hno, k, k', hk, hk'⟩ := pos_ok hp.len hp.zero
 exact lists_eq hc h hs hno hk hk'
theorem PosP.all {b h : List Int} {s : Int} (hp : PosP b h s) : legal_All b h s (byOf b) (sidesOf b) = some ((lgL b h s).length, b, h, s, byOf b, sidesOf b, (lgL b h s).length, lgL b h s) := by
 obtain ⟨hc, hs, hno, k, k', hk, hk'⟩ := pos_ok hp.len hp.zero
 exact legalAll_val hc h hs hk hk'
theorem PosP.full {b h : List Int} {s : Int} (hp : PosP b h s) {m : List Int} (hm : m ∈ lgL b h s) : Mv4 m ∧ movS b h s (m0 m) (m1 m) (m2 m) (m3 m) = true := by
 obtain ⟨hc, hs, hno, k, k', hk, hk'⟩ := pos_ok hp.len hp.zero
 have := lgL_full hc hs hno hk hk' hm
 exact ⟨this.1, this.2.1⟩
def giv (b h : List Int) (s : Int) (f t d : Int) (p : Bool) : Bool := canS b h s f t d p && inC (mb b s f t d p) (1 - s)
theorem gives_val {b h : List Int} {s : Int} (hg : Going b h s) (f t d : Int) (p : Bool) (m : Nat) (st : List (List Int)) : ∃ m' st', 
  mate_Gives_v1 f t d p (kof b h s) 0 b h s (byOf b) (sidesOf b) m st = some (.inl (giv b h s f t d p, kof b h s, 0, b, h, s, byOf b, sidesOf b, m', st')) ∨
  mate_Gives_v1 f t d p (kof b h s) 0 b h s (byOf b) (sidesOf b) m st = some (.inr (giv b h s f t d p, kof b h s, 0, b, h, s, byOf b, sidesOf b, m', st')) := by
 have hc := hg.sound.clean
 have hs := hg.sound.side
 obtain ⟨c, hcan, hm⟩ := make_full hc h hs f t d p
 have e : canS b h s f t d p = c := Option.some.inj ((can_full b h hs f t d p 0 0 (byOf b) (sidesOf b) 0 []).symm.trans (hcan 0 0 0 []))
 unfold mate_Gives_v1 giv
 rw [e]
 rcases hm with ⟨rfl, hm⟩ | ⟨rfl, hP, hm⟩
 ·rw [hm, ob_some]
  exact ⟨m, st, .inl rfl⟩
 ·have hc2 := mb_clean hc s f t d p
  rw [hm _ _ _ _ (by omega), ob_some, sw_inr]
  simp only
  rw [Bool.not_true, b_f, inCheck_val hc2 _ _ (by omega), ob_some, mkey_val hg.sound hg.fits hg.len hP, kof_un]
  have hst : (List.append (List.take 0 st) [[f, t, d, bi p, at_ b t, was b s f d]]).getD 0 [] = [f, t, d, bi p, at_ b t, was b s f d] := rfl
  rw [back_full hg hP 0 (by omega) _ _ hst, ob_some, kof_un]
  exact ⟨_, _, .inr rfl⟩
theorem mateGives_true {b h : List Int} (s f t d : Int) (p : Bool) (hl : b.length = 81) (hf : Fits8 h) (hh : h.length = 16) : law12_MateGives b h s f t d p = some true := by
 unfold law12_MateGives
 rw [mates_true, ob_some]
 simp only [Bool.not_true, b_f]
 rw [rattackCheck_val hl hf, ob_some]
 by_cases hz : atkS b h s = 0
 ·have hp : PosP b h s := ⟨hl, hf, hh, hz⟩
  have hs := hp.side
  rw [b_nne hz, gnew_full hp.clean, ob_some]
  simp only
  have fin : (ob (deed_After b h s f t d p) fun (a31_0, a31_1, a31_2, a31_3) =>
    br (a31_3)
     (ob (ref08_InCheck a31_0 a31_1 a31_2 a31_2) fun a35 =>
     some (giv b h s f t d p == a35))
     (some (giv b h s f t d p == false))) = some true := by
   rw [after_full hp.clean h hs, ob_some]
   unfold giv
   cases canS b h s f t d p with
   | false => rfl
   | true =>
     simp only [if_pos]
     rw [b_t, rinCheck_val _ _ _ (by omega), ob_some, Bool.true_and, beq_self_eq_true]
  unfold deed_Game_Key deed_Game_Len
  obtain ⟨m', st', hg⟩ := gives_val hp.going f t d p 0 []
  simp only [ob_some]
  rcases hg with hg | hg
  ·rw [hg, ob_some, sw_inl]
   simp only [beq_self_eq_true, Bool.and_self, Bool.not_true, b_f, bne_self_eq_false]
   exact fin
  ·rw [hg, ob_some, sw_inr]
   simp only [beq_self_eq_true, Bool.and_self, Bool.not_true, b_f, bne_self_eq_false]
   exact fin
 ·rw [b_ne hz]
end Go.Kk.Pl
