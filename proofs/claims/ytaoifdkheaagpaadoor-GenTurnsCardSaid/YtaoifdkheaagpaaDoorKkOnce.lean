/-
  No move is listed twice: the plain law of GenOnce; which moves there are.
-/
import Derived.Test.YtaoifdkheaagpaaDoorKkGenLaw
namespace Go.Kk.Pl

theorem getM_put (es : List (List Int × List Int)) (r v r' d : List Int) : getM (putM es r v) r' d = if r' = r then v else getM es r' d := by
  induction es with
  | nil =>
    by_cases h : r' = r
    · subst h; simp [putM, getM]
    · have : (r == r') = false := by simpa using fun hh => h hh.symm
      simp [putM, getM, this, h]
  | cons x es ih =>
    obtain ⟨k, u⟩ := x
    by_cases hk : k = r
    · subst hk
      by_cases h : r' = k
      · subst h; simp [putM, getM]
      · have : (k == r') = false := by simpa using fun hh => h hh.symm
        simp [putM, getM, this, h]
    · have e1 : (k == r) = false := by simpa using hk
      by_cases hk' : k = r'
      · subst hk'
        simp [putM, getM, e1, hk]
      · have e2 : (k == r') = false := by simpa using hk'
        simp only [putM, e1, cond_false, getM, e2, ih]
theorem hasM_put (es : List (List Int × List Int)) (r v r' : List Int) : hasM (putM es r v) r' = (decide (r' = r) || hasM es r') := by
  induction es with
  | nil =>
    by_cases h : r' = r
    · subst h; simp [putM, hasM]
    · have : (r == r') = false := by simpa using fun hh => h hh.symm
      simp [putM, hasM, this, h]
  | cons x es ih =>
    obtain ⟨k, u⟩ := x
    by_cases hk : k = r
    · subst hk
      by_cases h : r' = k
      · subst h; simp [putM, hasM]
      · have : (k == r') = false := by simpa using fun hh => h hh.symm
        simp [putM, hasM, this, h]
    · have e1 : (k == r) = false := by simpa using hk
      by_cases hk' : k = r'
      · subst hk'
        simp [putM, hasM, e1]
      · have e2 : (k == r') = false := by simpa using hk'
        simp only [putM, e1, cond_false, hasM, e2, ih, Bool.false_or]
theorem putM_len (es : List (List Int × List Int)) (r v : List Int) : (putM es r v).length = if hasM es r then es.length else es.length + 1 := by
  induction es with
  | nil => rfl
  | cons x es ih =>
    obtain ⟨k, u⟩ := x
    by_cases hk : k = r
    · subst hk; simp [putM, hasM]
    · have e1 : (k == r) = false := by simpa using hk
      simp only [putM, e1, cond_false, hasM, Bool.false_or, List.length_cons, ih]
      split <;> rfl

/-- What a move of the list is. -/
structure MvOK (b h : List Int) (S f t d p : Int) : Prop where
  pp : p = 0 ∨ p = 1
  mov : movS b h S f t d (p != 0) = true
  tr : 0 ≤ t ∧ t < 81
  fr : 0 ≤ f ∧ f < 81
  dr : 0 ≤ d ∧ d ≤ 7
  drop : d ≠ 0 → f = 0 ∧ p = 0 ∧ 0 < hd_ h S d ∧ at_ b t = 0

theorem mvs_mem {b h : List Int} (hc : Clean b) {S : Int} (hS : S = 0 ∨ S = 1) {m : List Int} (hm : m ∈ mvs b h S) : ∃ f t d p : Int, m = [f, t, d, p] ∧ MvOK b h S f t d p := by
  rw [mvs_eq hc h hS] at hm
  unfold rAll at hm
  rw [List.mem_append] at hm
  rcases hm with hm | hm
  · obtain ⟨f, hf, hm⟩ := List.mem_flatMap.1 hm
    rw [List.mem_range'_1] at hf
    unfold rFrom at hm
    split at hm <;> try cases hm
    obtain ⟨t, ht, hm⟩ := List.mem_flatMap.1 hm
    rw [List.mem_range'_1] at ht
    unfold rTo at hm
    split at hm <;> try cases hm
    unfold rOne at hm
    rw [List.mem_append] at hm
    rcases hm with hm | hm
    · split at hm
      · rename_i hmv
        rw [List.mem_singleton] at hm
        exact ⟨f, t, 0, 0, hm, .inl rfl, hmv, by omega, by omega, by omega, fun h => absurd rfl h⟩
      · cases hm
    · split at hm
      · rename_i hmv
        rw [List.mem_singleton] at hm
        exact ⟨f, t, 0, 1, hm, .inr rfl, hmv, by omega, by omega, by omega, fun h => absurd rfl h⟩
      · cases hm
  · obtain ⟨k, hk, hm⟩ := List.mem_flatMap.1 hm
    rw [List.mem_range'_1] at hk
    unfold rKind at hm
    split at hm <;> try cases hm
    rename_i hh
    obtain ⟨t, ht, hm⟩ := List.mem_flatMap.1 hm
    rw [List.mem_range'_1] at ht
    unfold rDrop at hm
    split at hm
    case isFalse => cases hm
    rename_i hmv
    rw [List.mem_singleton] at hm
    refine ⟨0, t, k, 0, hm, .inl rfl, hmv, by omega, by omega, by omega, fun h => ⟨rfl, rfl, hh, ?_⟩⟩
    have := hmv
    unfold movS canS at this
    rw [if_pos h] at this
    simp only [Bool.and_eq_true, decide_eq_true_eq] at this
    exact this.1.2.2.2
theorem mem_mvs {b h : List Int} (hc : Clean b) {S : Int} (hS : S = 0 ∨ S = 1) {f t d : Int} {p : Bool} (hm : movS b h S f t d p = true) : [f, t, d, bi p] ∈ mvs b h S := by
  rw [mvs_eq hc h hS]
  unfold rAll
  rw [List.mem_append]
  have hm' := hm
  unfold movS canS at hm'
  simp only [Bool.and_eq_true, decide_eq_true_eq] at hm'
  obtain ⟨⟨hchk, _, hcan⟩, hw⟩ := hm'
  obtain ⟨ht, hdr, hmv⟩ := chkM_zero hchk
  by_cases hd : d = 0
  · left
    subst hd
    obtain ⟨hf, _⟩ := hmv rfl
    rw [if_neg (by simp)] at hcan hw
    simp only [Bool.and_eq_true, decide_eq_true_eq] at hcan hw
    refine List.mem_flatMap.2 ⟨f.toNat, by rw [List.mem_range'_1]; omega, ?_⟩
    unfold rFrom
    rw [at_in hf] at hcan hw
    rw [if_pos hcan.1.1]
    refine List.mem_flatMap.2 ⟨t.toNat, by rw [List.mem_range'_1]; omega, ?_⟩
    unfold rTo
    rw [if_pos hw.1]
    unfold rOne
    rw [show ((f.toNat : Nat) : Int) = f by omega, show ((t.toNat : Nat) : Int) = t by omega, List.mem_append]
    cases p with
    | false => left; rw [if_pos hm]; simp [bi, br]
    | true => right; rw [if_pos hm]; simp [bi, br]
  · right
    obtain ⟨d1, d7, rfl, rfl⟩ := hdr hd
    rw [if_pos hd] at hcan
    simp only [Bool.and_eq_true, decide_eq_true_eq] at hcan
    refine List.mem_flatMap.2 ⟨d.toNat, by rw [List.mem_range'_1]; omega, ?_⟩
    unfold rKind
    rw [show ((d.toNat : Nat) : Int) = d by omega, if_pos hcan.1]
    refine List.mem_flatMap.2 ⟨t.toNat, by rw [List.mem_range'_1]; omega, ?_⟩
    unfold rDrop
    rw [show ((d.toNat : Nat) : Int) = d by omega, show ((t.toNat : Nat) : Int) = t by omega, if_pos hm]
    simp [bi, br]

theorem lessM_irrefl {m : List Int} : ¬ lessM m m := by unfold lessM; omega
theorem mvs_nodup (b h : List Int) (S : Int) : (mvs b h S).Nodup := by
  refine (mvs_sorted b h S).imp fun hl he => ?_
  subst he
  exact lessM_irrefl hl

theorem once_goes {b h : List Int} (hc : Clean b) {S : Int} (hS : S = 0 ∨ S = 1) (N : Nat) : ∀ (n i : Nat), i + n = (mvs b h S).length → ∀ es : List (List Int × List Int), (∀ m ∈ (mvs b h S).drop i, (getM es m [0]) = [0]) → ∀ F,
    law10_GenOncel8 (F + n + 1) (mvs b h S).length (mvs b h S).length i b h S b h S (byOf b) (sidesOf b) es N (mvs b h S) = some (.inr ()) := by
  have hlen := mvs_len b h S
  intro n
  induction n with
  | zero =>
    intro i hi es he F
    show law10_GenOncel8s (law10_GenOncel8 (F + 0)) _ _ _ _ _ _ _ _ _ _ _ _ _ _ = _
    unfold law10_GenOncel8s
    rw [b_nlt (by omega)]
  | succ n ih =>
    intro i hi es he F
    show law10_GenOncel8s (law10_GenOncel8 (F + n + 1)) _ _ _ _ _ _ _ _ _ _ _ _ _ _ = _
    unfold law10_GenOncel8s
    have hil : i < (mvs b h S).length := by omega
    have hget : (mvs b h S).getD i [] = (mvs b h S)[i] := by rw [List.getD_eq_getElem?_getD, List.getElem?_eq_getElem hil]; rfl
    have hd : (mvs b h S).drop i = (mvs b h S)[i] :: (mvs b h S).drop (i + 1) := List.drop_eq_getElem_cons hil
    have hmem : (mvs b h S)[i] ∈ mvs b h S := List.getElem_mem hil
    obtain ⟨f, t, d, p, hm, hok⟩ := mvs_mem hc hS hmem
    have hbi : bi (p != 0) = p := by rcases hok.pp with h0 | h0 <;> rw [h0] <;> rfl
    have hg0 : getM es [f, t, d, p] [0] = [0] := by rw [← hm]; exact he _ (by rw [hd]; exact List.mem_cons_self)
    have hnot : (mvs b h S)[i] ∉ (mvs b h S).drop (i + 1) := by
      have := mvs_nodup b h S
      have h2 : ((mvs b h S).drop i).Nodup := this.sublist (List.drop_sublist _ _)
      rw [hd] at h2
      exact (List.nodup_cons.1 h2).1
    have hcan : canS b h S f t d (p != 0) = true := by
      have := hok.mov
      unfold movS at this
      rw [Bool.and_eq_true] at this
      exact this.1
    have rest : law10_GenOncel8 (F + n + 1) (mvs b h S).length (mvs b h S).length ((i + 1 : Nat) : Int) b h S b h S (byOf b) (sidesOf b) (putM es [f, t, d, p] [1]) N (mvs b h S) = some (.inr ()) := by
      refine ih (i + 1) (by omega) _ (fun m hmm => ?_) F
      rw [getM_put, if_neg (fun hh => hnot (by rw [hm, ← hh]; exact hmm))]
      exact he m (by rw [hd]; exact List.mem_cons_of_mem _ hmm)
    rw [b_lt (by omega), b_in (by omega) (by omega), tn, hget]
    simp only [hd0, hd1, hd2, hd3]
    rw [hm]
    simp only [List.getD_cons_zero, List.getD_cons_succ, hbi, hg0]
    rw [show (List.headD [(0 : Int)] 0 != 0) = false from rfl, b_f, refCan_val, ob_some, hcan, Bool.not_true, b_f, w_s (by omega) (by omega)]
    by_cases h0 : d = 0
    · rw [b_nne h0]; exact rest
    · obtain ⟨_, _, e3, e4⟩ := hok.drop h0
      have hr := hok.dr
      have e5 : hdP h S d = hd_ h S d := by unfold hdP; rw [if_pos ⟨hS, by omega, by omega⟩]
      have e6 : has (tk b) t = false := by
        unfold has tk
        rw [at_in hok.tr] at e4
        rw [e4]; simp
      rw [b_ne h0, handB_val, ob_some, e5, b_nlt (by omega), takenB_val hc, ob_some]
      simp only
      rw [has_val, ob_some, e6, b_f]
      exact rest

theorem genOnce_true {b h : List Int} (S : Int) (hl : b.length = 81) (hf : Fits8 h) : law10_GenOnce b h S = some true := by
  unfold law10_GenOnce
  rw [lists_true, ob_some]
  simp only [Bool.not_true, b_f]
  rw [refCheck_val hl hf, ob_some]
  by_cases hz : chkS b h S = 0
  · obtain ⟨hc, hS⟩ := chk_zero_clean hl hz
    have hlen := mvs_len b h S
    rw [b_nne hz, new_full hc.len, cl_id hc, ob_some]
    simp only
    rw [genAll_val hc, ob_some]
    simp only
    obtain ⟨g, hg⟩ := many_eq (mvs b h S).length (by omega)
    have := once_goes (h := h) hc hS (mvs b h S).length (mvs b h S).length 0 (by omega) [] (fun m _ => rfl) g
    rw [← hg] at this
    rw [show law10_GenOncel8 many (mvs b h S).length (Int.ofNat (mvs b h S).length) 0 b h S b h S (byOf b) (sidesOf b) [] (mvs b h S).length (mvs b h S) = _ from this, ob_some]
    rfl
  · rw [b_ne hz]

end Go.Kk.Pl
