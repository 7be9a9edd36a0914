/-
  Games, plainly: doing.
-/
import Derived.Test.YtjlgnglacdhflaaKkDeed
namespace Go.Kk.Pl

/-- What is laid on the square that is gone to. -/
def laid (b : List Int) (s f d : Int) (p : Bool) : Int := if d ≠ 0 then 16 * s + d else if p = true then 16 * s + up_ (kd (at_ b f)) else at_ b f
/-- What stood there that moved. -/
def was (b : List Int) (s f d : Int) : Int := if d ≠ 0 then 16 * s + d else at_ b f
/-- The board behind what was done. -/
def mb (b : List Int) (s f t d : Int) (p : Bool) : List Int := if d ≠ 0 then put b t (laid b s f d p) else put (put b f 0) t (laid b s f d p)
/-- The hands behind it. -/
def mh (b h : List Int) (s t d : Int) : List Int := if d ≠ 0 then hset h s d (-1) else if at_ b t = 0 then h else hset h s (rw_ (kd (at_ b t))) 1
/-- The key behind it. -/
def mkey (K : Int) (b h : List Int) (s f t d : Int) (p : Bool) : Int := kturn (if d ≠ 0 then kput (khand K h s d (-1)) b t (laid b s f d p) else
  if at_ b t = 0 then kput (kput K b f 0) (put b f 0) t (laid b s f d p) else khand (kput (kput K b f 0) (put b f 0) t (laid b s f d p)) h s (rw_ (kd (at_ b t))) 1)

theorem up_range {k : Int} (h : up_ k ≠ 0) : 1 ≤ up_ k ∧ up_ k ≤ 15 ∧ up_ k ≠ 13 := by
  unfold up_ at h ⊢
  split
  · omega
  · rename_i h2; rw [if_neg h2] at h; exact absurd rfl h

theorem make_val {b : List Int} (hc : Clean b) (h : List Int) {s : Int} (hs : s = 0 ∨ s = 1) (f t d : Int) (p : Bool) : ∃ c, (∀ K n by_ sides m st, deed_Game_Can f t d p K n b h s by_ sides m st = some c) ∧
    ((c = false ∧ ∀ K n by_ sides m st, deed_Game_Make f t d p K n b h s by_ sides m st = some (.inl (false, K, n, b, h, s, by_, sides, m, st))) ∨
     (c = true ∧ CanP b h s f t d p ∧ ∀ K n by_ sides m st, (n + 1) * 40 ≤ 140737488355328 → ∃ by' sides', deed_Game_Make f t d p K n b h s by_ sides m st =
       some (.inr (true, mkey K b h s f t d p, n + 1, mb b s f t d p, mh b h s t d, 1 - s, by', sides', n + 1, List.append (List.take n st) [[f, t, d, bi p, at_ b t, was b s f d]])))) := by
  obtain ⟨c, hcan, hP⟩ := can_val b h hs f t d p
  refine ⟨c, hcan, ?_⟩
  cases c with
  | false =>
    refine .inl ⟨rfl, fun K n by_ sides m st => ?_⟩
    unfold deed_Game_Make
    rw [hcan, ob_some, br_true (by rfl)]
  | true =>
    have hP := hP rfl
    refine .inr ⟨rfl, hP, fun K n by_ sides m st hn => ?_⟩
    have hn' : decide ((n + 1) * 40 ≤ 140737488355328) = true := by simpa using hn
    unfold deed_Game_Make
    rw [hcan, ob_some, br_false (by rfl), at_val, ob_some]
    by_cases hd : d = 0
    · obtain ⟨f0, f1, f2, g1, g2, g3, g4⟩ := hP.move hd
      rw [br_false (by simpa using hd), at_val, ob_some]
      have hx : ∀ {α : Type} (k : Int → Option α), (br p (ob (piece_Kind (at_ b f)) fun a16 => ob (piece_Up a16) fun a17 => ob (piece_Of s a17) k) (k (at_ b f))) = k (laid b s f d p) := by
        intro α k
        unfold laid
        rw [if_neg (by simpa using hd)]
        cases p with
        | false => rfl
        | true =>
          obtain ⟨u1, u2, u3⟩ := up_range (g4 rfl)
          rw [br_true rfl, kind_val, ob_some, up_val, ob_some, of_val hs u1 u2 u3, ob_some, if_pos rfl]
      obtain ⟨by1, sides1, p1⟩ := gput_val hc f 0 K n h s by_ sides m st
      obtain ⟨by2, sides2, p2⟩ := gput_val (hc.put f 0) t (laid b s f d p) (kput K b f 0) n h s by1 sides1 m st
      have tail : ∃ by' sides', (br (at_ b t != 0)
          (ob (piece_Kind (at_ b t)) fun a37 =>
          ob (piece_Raw a37) fun a38 =>
          ob (deed_Game_hand s a38 1 (kput (kput K b f 0) (put b f 0) t (laid b s f d p)) n (put (put b f 0) t (laid b s f d p)) h s by2 sides2 m st) fun (a39_0, a39_1, a39_2, a39_3, a39_4, a39_5, a39_6, a39_7, a39_8) =>
          ob (deed_Game_turn a39_0 a39_1 a39_2 a39_3 a39_4 a39_5 a39_6 a39_7 a39_8) fun (a48_0, a48_1, a48_2, a48_3, a48_4, a48_5, a48_6, _, a48_8) =>
          br (decide ((a48_1 + 1) * 40 ≤ 140737488355328))
           (some (Sum.inr (true, a48_0, a48_1 + 1, a48_2, a48_3, a48_4, a48_5, a48_6, a48_1 + 1, List.append (List.take a48_1 a48_8) [[f, t, d, bi p, at_ b t, at_ b f]])))
           (none))
          (ob (deed_Game_turn (kput (kput K b f 0) (put b f 0) t (laid b s f d p)) n (put (put b f 0) t (laid b s f d p)) h s by2 sides2 m st) fun (a37_0, a37_1, a37_2, a37_3, a37_4, a37_5, a37_6, _, a37_8) =>
          br (decide ((a37_1 + 1) * 40 ≤ 140737488355328))
           (some (Sum.inr (true, a37_0, a37_1 + 1, a37_2, a37_3, a37_4, a37_5, a37_6, a37_1 + 1, List.append (List.take a37_1 a37_8) [[f, t, d, bi p, at_ b t, at_ b f]])))
           (none)) : Option ((Bool × Int × Nat × List Int × List Int × Int × List (List Int) × List (List Int) × Nat × List (List Int)) ⊕ (Bool × Int × Nat × List Int × List Int × Int × List (List Int) × List (List Int) × Nat × List (List Int)))) =
          some (.inr (true, mkey K b h s f t d p, n + 1, mb b s f t d p, mh b h s t d, 1 - s, by', sides', n + 1, List.append (List.take n st) [[f, t, d, bi p, at_ b t, was b s f d]])) := by
        refine ⟨by2, sides2, ?_⟩
        unfold mkey mb mh was
        by_cases ht : at_ b t = 0
        · rw [br_false (by simpa using ht), gturn_val hs, ob_some]
          simp only
          rw [br_true hn']
          simp [hd, ht]
        · have hk := (hc.at_ t).resolve_left ht
          obtain ⟨r1, r2⟩ := rw_range hk g3
          obtain ⟨k1, k2, k3⟩ := kd_bounds (at_ b t)
          rw [br_true (by simpa using ht), kind_val, ob_some, raw_val k1 k2, ob_some, ghand_val hs r1 r2 1 (.inl rfl), ob_some]
          simp only
          rw [gturn_val hs, ob_some]
          simp only
          rw [br_true hn']
          simp [hd, ht]
      obtain ⟨by', sides', ht⟩ := tail
      refine ⟨by', sides', Eq.trans ?_ ht⟩
      cases p with
      | true =>
        have hx := hx (fun a18 => ob (deed_Game_put f 0 K n b h s by_ sides m st) fun (a19_0, a19_1, a19_2, a19_3, a19_4, a19_5, a19_6, a19_7, a19_8) =>
          ob (deed_Game_put t a18 a19_0 a19_1 a19_2 a19_3 a19_4 a19_5 a19_6 a19_7 a19_8) fun r => some r)
        rw [br_true rfl] at hx ⊢
        obtain ⟨u1, u2, u3⟩ := up_range (g4 rfl)
        have hl : laid b s f d true = 16 * s + up_ (kd (at_ b f)) := by unfold laid; rw [if_neg (by simpa using hd), if_pos rfl]
        rw [kind_val, ob_some, up_val, ob_some, of_val hs u1 u2 u3, ob_some, p1, ob_some]
        simp only
        rw [← hl, p2, ob_some]
      | false =>
        have hl : laid b s f d false = at_ b f := by unfold laid; rw [if_neg (by simpa using hd), if_neg (by simp)]
        rw [br_false rfl, p1, ob_some]
        simp only
        rw [hl] at p2 ⊢
        rw [p2, ob_some]
    · obtain ⟨d0, d1, d2, d3, g1, g2⟩ := hP.drop hd
      have hl : laid b s f d p = 16 * s + d := by unfold laid; rw [if_pos hd]
      have e1 : piece_Of s d = some (laid b s f d p) := by rw [hl]; exact of_val hs (by omega) (by omega) (by omega)
      obtain ⟨by1, sides1, p1⟩ := gput_val hc t (laid b s f d p) (khand K h s d (-1)) n (hset h s d (-1)) s by_ sides m st
      refine ⟨by1, sides1, ?_⟩
      rw [br_true (by simpa using hd), e1, ob_some, ghand_val hs (by omega) d1 (-1) (.inr rfl), ob_some]
      simp only
      rw [p1, ob_some]
      simp only
      rw [gturn_val hs, ob_some]
      simp only
      rw [br_true hn']
      unfold mkey mb mh was
      simp only [if_pos hd, hl]

end Go.Kk.Pl
