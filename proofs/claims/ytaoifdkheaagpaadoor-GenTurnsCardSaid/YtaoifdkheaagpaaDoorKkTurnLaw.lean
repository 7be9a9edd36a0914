/-
  The plain law of GenTurns.
-/
import Derived.Test.YtaoifdkheaagpaaDoorKkTurn
namespace Go.Kk.Pl

theorem trn_step {b : List Int} (hc : Clean b) {i : Nat} (hi : i < 81) (hne : b.getD i 0 ≠ 0) :
    (sd (b.getD i 0) = 1 → IntKind.wrap IntKind.i8 (b.getD i 0 - 16) = trnP (b.getD i 0)) ∧
    (sd (b.getD i 0) ≠ 1 → conv IntKind.i64 IntKind.i8 (Int.tmod (IntKind.wrap IntKind.i64 (b.getD i 0 + 16)) 32) = trnP (b.getD i 0)) := by
  rcases hc.ok i hi with h | h
  · exact absurd h hne
  · have e : ∀ n : Fin 32, kd ((n.val : Nat) : Int) ≠ 0 → (sd ((n.val : Nat) : Int) = 1 → IntKind.wrap IntKind.i8 ((n.val : Nat) - 16 : Int) = trnP ((n.val : Nat) : Int)) ∧
        (sd ((n.val : Nat) : Int) ≠ 1 → conv IntKind.i64 IntKind.i8 (Int.tmod (IntKind.wrap IntKind.i64 ((n.val : Nat) + 16 : Int)) 32) = trnP ((n.val : Nat) : Int)) := by decide +kernel
    obtain ⟨q1, q2, _⟩ := kd_rng h
    obtain ⟨n, hn⟩ := fin32 (x := b.getD i 0) (by omega) q2
    rw [hn] at h ⊢
    exact e n h

theorem turn_goes {b : List Int} (hc : Clean b) (h u : List Int) (S v : Int) : ∀ (n i : Nat), i + n = 81 → ∀ B, B.length = 81 → (∀ j, j < 81 → B.getD j 0 = if 80 - j < i then trnP (b.getD (80 - j) 0) else 0) → ∀ F,
    law10_GenTurnsl7 (F + n + 1) i b h S B u v = some (b, h, S, trnB b, u, v) := by
  intro n
  induction n with
  | zero =>
    intro i hi B hB hj F
    show law10_GenTurnsl7s (law10_GenTurnsl7 (F + 0)) _ _ _ _ _ _ _ = _
    unfold law10_GenTurnsl7s
    have : B = trnB b := by
      apply List.ext_getElem (by rw [hB, trn_len])
      intro j h1 h2
      rw [← at_i h1, ← at_i h2, hj j (by omega), trn_get b (by omega), if_pos (by omega)]
    rw [b_nlt (by omega), this]
  | succ n ih =>
    intro i hi B hB hj F
    show law10_GenTurnsl7s (law10_GenTurnsl7 (F + n + 1)) _ _ _ _ _ _ _ = _
    unfold law10_GenTurnsl7s
    rw [b_lt (by omega), b_in (by omega) (by omega), tn, w_s (n := (i : Int) + 1) (by omega) (by omega), w_s (n := 80 - (i : Int)) (by omega) (by omega)]
    by_cases h0 : b.getD i 0 = 0
    · rw [b_nne h0]
      refine ih (i + 1) (by omega) B hB (fun j hjl => ?_) F
      rw [hj j hjl]
      by_cases h1 : 80 - j < i
      · rw [if_pos h1, if_pos (by omega)]
      · rw [if_neg h1]
        by_cases h2 : 80 - j = i
        · rw [if_pos (by omega), h2, h0]; rfl
        · rw [if_neg (by omega)]
    · obtain ⟨s1, s2⟩ := trn_step hc (by omega) h0
      have put : ∀ B' : List Int, B'.length = 81 → (∀ j, j ≠ 80 - i → B'.getD j 0 = B.getD j 0) → B'.getD (80 - i) 0 = trnP (b.getD i 0) → law10_GenTurnsl7 (F + n + 1) ((i + 1 : Nat) : Int) b h S B' u v = some (b, h, S, trnB b, u, v) := by
        intro B' hl h3 h4
        refine ih (i + 1) (by omega) B' hl (fun j hjl => ?_) F
        by_cases h2 : j = 80 - i
        · subst h2
          rw [h4, if_pos (by omega), show 80 - (80 - i) = i by omega]
        · rw [h3 j h2, hj j hjl]
          by_cases h1 : 80 - j < i
          · rw [if_pos h1, if_pos (by omega)]
          · rw [if_neg h1, if_neg (by omega)]
      rw [b_ne h0, b_in (by omega) (by omega), c_8, refSide_val, ob_some, show (80 - (i : Int)).toNat = 80 - i by omega]
      by_cases hs : sd (b.getD i 0) = 1
      · rw [b_eq hs, b_in (by omega) (by omega), s1 hs]
        refine put _ (by simp [hB]) (fun j hjn => ?_) ?_
        · rw [getD_set (by simp; omega), if_neg hjn, getD_set (by omega), if_neg hjn]
        · rw [getD_set (by simp; omega), if_pos rfl]
      · rw [b_neq hs, s2 hs]
        refine put _ (by simp [hB]) (fun j hjn => ?_) ?_
        · rw [getD_set (by omega), if_neg hjn]
        · rw [getD_set (by omega), if_pos rfl]

/-- Moves put into a map. -/
def putAll (es : List (List Int × List Int)) (L : List (List Int)) : List (List Int × List Int) := L.foldl (fun e m => putM e m [1]) es
theorem putAll_len : ∀ {L : List (List Int)} {es : List (List Int × List Int)}, L.Nodup → (∀ m ∈ L, hasM es m = false) → (putAll es L).length = es.length + L.length
  | [], es, _, _ => rfl
  | m :: L, es, hn, hs => by
    have h1 := List.nodup_cons.1 hn
    have := putAll_len (L := L) (es := putM es m [1]) h1.2 fun x hx => by
      rw [hasM_put, hs x (by simp [hx]), Bool.or_false]
      exact decide_eq_false fun hh => h1.1 (hh ▸ hx)
    unfold putAll at this ⊢
    rw [List.foldl_cons, this, putM_len, hs m (by simp)]
    simp only [List.length_cons]
    rw [if_neg (by simp)]
    omega
theorem putAll_get : ∀ {L : List (List Int)} {es : List (List Int × List Int)} {m : List Int}, (m ∈ L ∨ getM es m [0] = [1]) → getM (putAll es L) m [0] = [1]
  | [], es, m, h => by
    rcases h with h | h
    · cases h
    · exact h
  | x :: L, es, m, h => by
    have := putAll_get (L := L) (es := putM es x [1]) (m := m) (by
      rw [getM_put]
      by_cases hx : m = x
      · right; rw [if_pos hx]
      · rw [if_neg hx]
        rcases h with h | h
        · rcases List.mem_cons.1 h with h | h
          · exact absurd h hx
          · exact .inl h
        · exact .inr h)
    exact this

theorem putAll_goes {b h : List Int} (hc : Clean b) {S : Int} (hS : S = 0 ∨ S = 1) (b' h' : List Int) (S' : Int) (N : Nat) : ∀ (n i : Nat), i + n = (mvs b h S).length → ∀ es F,
    law10_GenTurnsl16 (F + n + 1) (mvs b h S).length (mvs b h S).length i b' h' S' es N (mvs b h S) = some (b', h', S', putAll es ((mvs b h S).drop i)) := by
  have hlen := mvs_len b h S
  intro n
  induction n with
  | zero =>
    intro i hi es F
    show law10_GenTurnsl16s (law10_GenTurnsl16 (F + 0)) _ _ _ _ _ _ _ _ _ = _
    unfold law10_GenTurnsl16s
    rw [b_nlt (by omega), List.drop_eq_nil_of_le (by omega)]
    rfl
  | succ n ih =>
    intro i hi es F
    show law10_GenTurnsl16s (law10_GenTurnsl16 (F + n + 1)) _ _ _ _ _ _ _ _ _ = _
    unfold law10_GenTurnsl16s
    have hil : i < (mvs b h S).length := by omega
    have hget : (mvs b h S).getD i [] = (mvs b h S)[i] := by rw [List.getD_eq_getElem?_getD, List.getElem?_eq_getElem hil]; rfl
    have hd : (mvs b h S).drop i = (mvs b h S)[i] :: (mvs b h S).drop (i + 1) := List.drop_eq_getElem_cons hil
    obtain ⟨f, t, d, p, hm, hok⟩ := mvs_mem hc hS (List.getElem_mem hil)
    have hbi : bi (p != 0) = p := by rcases hok.pp with h0 | h0 <;> rw [h0] <;> rfl
    rw [b_lt (by omega), b_in (by omega) (by omega), tn, hget]
    simp only [hd0, hd1, hd2, hd3]
    rw [hd, hm]
    simp only [List.getD_cons_zero, List.getD_cons_succ, hbi]
    rw [w_s (by omega) (by omega)]
    exact ih (i + 1) (by omega) _ F

theorem turns_goes {b h : List Int} (hc : Clean b) {S : Int} (hS : S = 0 ∨ S = 1) {es : List (List Int × List Int)} (hes : ∀ m ∈ mvs b h S, getM es (trnM m) [0] = [1]) (X N : Nat) : ∀ (n i : Nat), i + n = (mvs b h S).length → ∀ F,
    law10_GenTurnsl22 (F + n + 1) X (mvs b h S).length (mvs b h S).length i es N (mvs b h S) = some (.inr (X, es, N, mvs b h S)) := by
  have hlen := mvs_len b h S
  intro n
  induction n with
  | zero =>
    intro i hi F
    show law10_GenTurnsl22s (law10_GenTurnsl22 (F + 0)) _ _ _ _ _ _ _ = _
    unfold law10_GenTurnsl22s
    rw [b_nlt (by omega)]
  | succ n ih =>
    intro i hi F
    show law10_GenTurnsl22s (law10_GenTurnsl22 (F + n + 1)) _ _ _ _ _ _ _ = _
    unfold law10_GenTurnsl22s
    have hil : i < (mvs b h S).length := by omega
    have hget : (mvs b h S).getD i [] = (mvs b h S)[i] := by rw [List.getD_eq_getElem?_getD, List.getElem?_eq_getElem hil]; rfl
    obtain ⟨f, t, d, p, hm, hok⟩ := mvs_mem hc hS (List.getElem_mem hil)
    have hbi : bi (p != 0) = p := by rcases hok.pp with h0 | h0 <;> rw [h0] <;> rfl
    have he := hes _ (List.getElem_mem hil)
    rw [hm] at he
    unfold trnM at he
    simp only [List.getD_cons_zero, List.getD_cons_succ] at he
    have ht := hok.tr
    have hf := hok.fr
    have next := ih (i + 1) (by omega) F
    rw [b_lt (by omega), b_in (by omega) (by omega), tn, hget]
    simp only [hd0, hd1, hd2, hd3]
    rw [hm]
    simp only [List.getD_cons_zero, List.getD_cons_succ, hbi]
    rw [w_s (n := 80 - f) (by omega) (by omega), w_s (n := 80 - t) (by omega) (by omega), w_s (n := (i : Int) + 1) (by omega) (by omega)]
    by_cases h0 : d = 0
    · rw [if_pos h0] at he
      rw [b_eq h0, he]
      exact next
    · rw [if_neg h0] at he
      rw [b_neq h0, he]
      exact next

theorem genTurns_true {b h : List Int} (S : Int) (hl : b.length = 81) (hh : h.length = 16) (hf : Fits8 h) : law10_GenTurns b h S = some true := by
  unfold law10_GenTurns
  rw [lists_true, ob_some]
  simp only [Bool.not_true, b_f]
  rw [refCheck_val hl hf, ob_some]
  by_cases hz : chkS b h S = 0
  · obtain ⟨hc, hS⟩ := chk_zero_clean hl hz
    have hc' := trn_clean hc
    have hS' : (1 : Int) - S = 0 ∨ (1 : Int) - S = 1 := by omega
    have eh : List.append (List.append (List.take 8 (List.append (List.take 8 (List.drop 8 h)) [0, 0, 0, 0, 0, 0, 0, 0])) (List.take 8 h)) (List.drop 16 (List.append (List.take 8 (List.drop 8 h)) [0, 0, 0, 0, 0, 0, 0, 0])) = trnH h := by
      have a1 : List.take 8 (List.drop 8 h) = List.drop 8 h := List.take_of_length_le (by simp; omega)
      have a2 : (List.drop 8 h).length = 8 := by simp; omega
      show (List.take 8 (List.take 8 (List.drop 8 h) ++ [0, 0, 0, 0, 0, 0, 0, 0]) ++ List.take 8 h) ++ List.drop 16 (List.take 8 (List.drop 8 h) ++ [0, 0, 0, 0, 0, 0, 0, 0]) = _
      have a3 : List.drop 16 (List.drop 8 h ++ [(0 : Int), 0, 0, 0, 0, 0, 0, 0]) = [] := List.drop_eq_nil_of_le (by simp; omega)
      rw [a1, List.take_left' a2, a3, List.append_nil]
      rfl
    have es : IntKind.wrap IntKind.i8 (1 - S) = 1 - S := by rcases hS with rfl | rfl <;> rfl
    obtain ⟨g, hg⟩ := many_eq 81 (by omega)
    have t7 := turn_goes hc h (trnH h) S (1 - S) 81 0 (by omega) (List.replicate 81 0) rfl (fun j hj => by
      rw [if_neg (by omega), at_i (by simpa using hj), List.getElem_replicate]) g
    rw [← hg] at t7
    rw [b_nne hz, eh, es]
    show ob (law10_GenTurnsl7 many ((0 : Nat) : Int) b h S (List.replicate 81 0) (trnH h) (1 - S)) _ = _
    rw [t7, ob_some]
    simp only
    rw [new_full hc'.len, cl_id hc', ob_some]
    simp only
    rw [genAll_val hc', ob_some]
    simp only
    have hlen' := mvs_len (trnB b) (trnH h) (1 - S)
    have hlen := mvs_len b h S
    obtain ⟨g, hg⟩ := many_eq (mvs (trnB b) (trnH h) (1 - S)).length (by omega)
    have t16 := putAll_goes (h := trnH h) hc' hS' b h S (mvs (trnB b) (trnH h) (1 - S)).length (mvs (trnB b) (trnH h) (1 - S)).length 0 (by omega) [] g
    rw [← hg, List.drop_zero] at t16
    rw [show law10_GenTurnsl16 many (mvs (trnB b) (trnH h) (1 - S)).length (Int.ofNat (mvs (trnB b) (trnH h) (1 - S)).length) 0 b h S [] (mvs (trnB b) (trnH h) (1 - S)).length (mvs (trnB b) (trnH h) (1 - S)) = _ from t16, ob_some]
    simp only
    rw [new_full hc.len, cl_id hc, ob_some]
    simp only
    rw [genAll_val hc, ob_some]
    simp only
    obtain ⟨g, hg⟩ := many_eq (mvs b h S).length (by omega)
    have t22 := turns_goes (h := h) hc hS (es := putAll [] (mvs (trnB b) (trnH h) (1 - S))) (fun m hm => putAll_get (.inl (trnM_mem hc hh hS hm))) (mvs b h S).length (mvs b h S).length (mvs b h S).length 0 (by omega) g
    rw [← hg] at t22
    rw [show law10_GenTurnsl22 many (mvs b h S).length (mvs b h S).length (Int.ofNat (mvs b h S).length) 0 (putAll [] (mvs (trnB b) (trnH h) (1 - S))) (mvs b h S).length (mvs b h S) = _ from t22, ob_some]
    have e : (putAll [] (mvs (trnB b) (trnH h) (1 - S))).length = (mvs b h S).length := by
      rw [putAll_len (mvs_nodup _ _ _) (fun m _ => rfl), turn_len hc hh hS]; simp
    show br (decide ((putAll [] (mvs (trnB b) (trnH h) (1 - S))).length ≤ 140737488355328)) (some (Int.ofNat (mvs b h S).length == Int.ofNat (putAll [] (mvs (trnB b) (trnH h) (1 - S))).length)) none = some true
    rw [e, b_leN (by omega)]
    simp
  · rw [b_ne hz]

end Go.Kk.Pl
