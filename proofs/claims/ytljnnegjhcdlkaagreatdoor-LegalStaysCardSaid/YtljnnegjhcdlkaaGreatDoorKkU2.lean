/- What the program's functions come to, told plainly: the texts of this project that this claim leans on, cut down to what is used. -/
import Derived.Test.YtljnnegjhcdlkaaGreatDoorKkU1
namespace Go.Kk.Pl
theorem stepFar_val {s : Int} (hs : s = -1 ∨ s = 0 ∨ s = 1) {q : Nat} (hq : q < 81) : step_Far s q = some (farS s q) := by
  unfold step_Far set_Rank farS
  rcases hs with rfl | rfl | rfl
  · simp (disch := omega) only [b_nlt, b_nge, b_neq]
    simp
  · simp (disch := omega) only [b_nlt, b_nge, b_eq, tmod9, ob_some]
    simp
  · simp (disch := omega) only [b_nlt, b_nge, b_neq, b_eq, tmod9, ob_some, w_s]
    simp
theorem stepDead_val (x : Int) {q : Nat} (hq : q < 81) : step_Dead x q = some (deadS x q) := by
  unfold step_Dead
  rw [side_val, ob_some, stepFar_val (sd_cases x) hq, ob_some, kind_val, ob_some]
  unfold deadS
  generalize kd x = k
  generalize farS (sd x) q = n
  simp only [br_if, beq_iff_eq]
  repeat' split
  all_goals first
    | (rw [Option.some.injEq, Bool.eq_iff_iff]; simp; omega)
    | (simp; omega)
def pc (s k : Int) : Int := if (s = 0 ∨ s = 1) ∧ 1 ≤ k ∧ k ≤ 15 ∧ k ≠ 13 then 16 * s + k else 0
theorem pc_ok {s k : Int} (hs : s = 0 ∨ s = 1) (h1 : 1 ≤ k) (h2 : k ≤ 15) (h3 : k ≠ 13) : pc s k = 16 * s + k := by unfold pc; rw [if_pos ⟨hs, h1, h2, h3⟩]
theorem pc_none {s k : Int} (h : ¬ ((s = 0 ∨ s = 1) ∧ 1 ≤ k ∧ k ≤ 15 ∧ k ≠ 13)) : pc s k = 0 := by unfold pc; rw [if_neg h]
theorem pc_range (s k : Int) : 0 ≤ pc s k ∧ pc s k < 32 := by unfold pc; split <;> omega
theorem of_gen (s k : Int) : piece_Of s k = some (pc s k) := by
  by_cases hs : s = 0 ∨ s = 1
  · by_cases h : 1 ≤ k ∧ k ≤ 15 ∧ k ≠ 13
    · rw [of_val hs h.1 h.2.1 h.2.2, pc_ok hs h.1 h.2.1 h.2.2]
    · rw [pc_none (by omega)]
      unfold piece_Of
      simp only [br_if, bne_iff_ne, ne_eq, beq_iff_eq, decide_eq_true_eq]
      repeat' split
      all_goals first | rfl | omega
  · rw [pc_none (by omega)]
    unfold piece_Of
    simp (disch := omega) only [b_ne]
theorem pcs_zero (b : List Int) : pcs b 0 = fun _ => false := by funext i; unfold pcs; simp
theorem ofB_val (b h : List Int) (S s k : Int) (sd' : List (List Int)) : board_Of s k b h S (byOf b) sd' = some (sLo (pcs b (pc s k)), sHi (pcs b (pc s k))) := by
  unfold board_Of
  obtain ⟨h0, h1⟩ := pc_range s k
  rw [of_gen, ob_some]
  by_cases hz : pc s k = 0
  · rw [b_eq hz, hz, pcs_zero, sLo_false, sHi_false]
  · rw [b_neq hz, b_in h0 (by omega), by_get b h0 h1]
    rfl
def inF (f : Nat) (i : Nat) : Bool := decide (i / 9 = f)
theorem inFile_all : ∀ f : Fin 9, set_InFile ((f.val : Nat) : Int) = some (sLo (inF f.val), sHi (inF f.val)) := by decide +kernel
theorem inFile_val {f : Nat} (h : f < 9) : set_InFile f = some (sLo (inF f), sHi (inF f)) := inFile_all ⟨f, h⟩
theorem file_filter : ∀ f : Fin 9, (List.range 81).filter (fun i => decide (i / 9 = f.val)) = (List.range 9).map (9 * f.val + ·) := by decide +kernel
theorem cnt_file (b : List Int) {x : Int} (hx : x ≠ 0) {f : Nat} (hf : f < 9) : cntS (fun i => pcs b x i && inF f i) = nF b x f := by
  unfold cntS nF inF
  have : (List.range 81).countP (fun i => pcs b x i && decide (i / 9 = f)) = ((List.range 81).filter (fun i => decide (i / 9 = f))).countP (pcs b x) := by
    rw [List.countP_filter]
  rw [this, file_filter ⟨f, hf⟩, List.countP_map]
  apply List.countP_congr
  intro r _
  show pcs b x (9 * f + r) = true ↔ _
  unfold pcs
  simp [hx]
theorem files12_val (b h : List Int) (S : Int) (sd' : List (List Int)) (q : Nat) (hq : q < 9) (X : Int) : ∀ f, board_filesl12 (f + 2 + 1) q X 0 b h S (byOf b) sd' = some (if nifuS b q then .inl (53, X, b, h, S, byOf b, sd') else .inr (X, b, h, S, byOf b, sd')) := by
  intro f
  have step : ∀ (s : Int) (hs : s = 0 ∨ s = 1) rec, board_filesl12s rec q X s b h S (byOf b) sd' = if 1 < nF b (16 * s + 1) q then some (.inl (53, X, b, h, S, byOf b, sd')) else rec q X (s + 1) b h S (byOf b) sd' := by
    intro s hs rec
    unfold board_filesl12s
    rw [b_lt (by omega), ofB_val, ob_some]
    simp only
    rw [inFile_val hq, ob_some]
    simp only
    rw [and_val, ob_some]
    simp only
    rw [count_set, ob_some, pc_ok hs (by omega) (by omega) (by omega), cnt_file b (by omega) hq, w_s (by omega) (by omega)]
    split
    · rw [b_gt (by omega)]
    · rw [b_ngt (by omega)]
  show board_filesl12s (board_filesl12 (f + 2)) _ _ _ _ _ _ _ _ = _
  rw [step 0 (.inl rfl)]
  unfold nifuS
  split
  · rename_i h1
    rw [show (decide (1 < nF b 1 q) || decide (1 < nF b 17 q)) = true by simp at h1; simp [h1]]
    rfl
  · rename_i h1
    show board_filesl12s (board_filesl12 (f + 1)) _ _ _ _ _ _ _ _ = _
    rw [show (0 : Int) + 1 = 1 from rfl, step 1 (.inr rfl)]
    split
    · rename_i h2
      rw [show (decide (1 < nF b 1 q) || decide (1 < nF b 17 q)) = true by simp at h2; simp [h2]]
      rfl
    · rename_i h2
      rw [show (decide (1 < nF b 1 q) || decide (1 < nF b 17 q)) = false by simp at h1 h2; simp; omega]
      show board_filesl12s (board_filesl12 f) _ _ _ _ _ _ _ _ = _
      unfold board_filesl12s
      rw [b_nlt (by omega)]
      rfl
theorem files9_val (b h : List Int) (S : Int) (sd' : List (List Int)) : ∀ (n i : Nat), i + n = 9 → ∀ f, board_filesl9 (f + n + 1) i b h S (byOf b) sd' = some (if (List.range' i n).any (nifuS b) then .inl 53 else .inr ()) := by
  intro n
  induction n with
  | zero =>
    intro i hi f
    show board_filesl9s (board_filesl9 (f + 0)) _ _ _ _ _ _ = _
    unfold board_filesl9s
    rw [b_nlt (by omega)]
    rfl
  | succ n ih =>
    intro i hi f
    show board_filesl9s (board_filesl9 (f + n + 1)) _ _ _ _ _ _ = _
    unfold board_filesl9s
    obtain ⟨g, hg⟩ := many_eq 2 (by omega)
    have h12 := files12_val b h S sd' i (by omega) i g
    rw [← hg] at h12
    rw [b_lt (by omega), h12, ob_some, any_cons]
    have := ih (i + 1) (by omega) f
    cases hb : nifuS b i with
    | true => rfl
    | false =>
      rw [Bool.false_or, if_neg (by decide), sw_inr]
      simp only
      rw [w_s (by omega) (by omega)]
      exact this
theorem files2_val (b h : List Int) (s : Int) (b' : List Int) : ∀ (n i : Nat), i + n = 81 → ∀ f, board_filesl2 (f + n + 1) b i b' h s = some (if (List.range' i n).any (fun i => deadS (b.getD i 0) i) then .inl (52, b', h, s) else .inr (b', h, s)) := by
  intro n
  induction n with
  | zero =>
    intro i hi f
    show board_filesl2s (board_filesl2 (f + 0)) _ _ _ _ _ = _
    unfold board_filesl2s
    rw [b_nlt (by omega)]
    rfl
  | succ n ih =>
    intro i hi f
    show board_filesl2s (board_filesl2 (f + n + 1)) _ _ _ _ _ = _
    unfold board_filesl2s
    have := ih (i + 1) (by omega) f
    rw [b_lt (by omega), b_in (by omega) (by omega), cond_true, tn, stepDead_val _ (by omega), ob_some, any_cons, w_s (by omega) (by omega)]
    cases hb : deadS (b.getD i 0) i with
    | true => rfl
    | false =>
      rw [b_f, Bool.false_or]
      exact this
theorem files_val {b : List Int} (hc : Clean b) (h : List Int) (s : Int) : board_files b h s = some (if (List.range' 0 81).any (fun i => deadS (b.getD i 0) i) then 52 else if (List.range' 0 9).any (nifuS b) then 53 else 0) := by
  obtain ⟨g81, hg81⟩ := many_eq 81 (by omega)
  obtain ⟨g9, hg9⟩ := many_eq 9 (by omega)
  have c2 := files2_val b h s b 81 0 (by omega) g81
  rw [← hg81] at c2
  have c9 := files9_val b h s (sidesOf b) 9 0 (by omega) g9
  rw [← hg9] at c9
  unfold board_files
  rw [show board_filesl2 many b 0 b h s = _ from c2, ob_some]
  split
  · rfl
  rw [sw_inr]
  simp only
  rw [new_full hc.len, cl_id hc, ob_some]
  simp only
  rw [show board_filesl9 many 0 b h s (byOf b) (sidesOf b) = _ from c9, ob_some]
  split
  · rfl
  · rfl
def rk (x : Int) : Int := rw_ (kd x)
theorem rk_zero {x : Int} (h : kd x = 0) : rk x = 0 := by unfold rk; rw [h]; decide
theorem rk_range {x : Int} (h : kd x ≠ 0) : 1 ≤ rk x ∧ rk x ≤ 8 := by
  obtain ⟨k1, k2, k3⟩ := kd_bounds x
  unfold rk rw_
  rw [if_neg (by omega)]
  split <;> omega
def cT (b : List Int) (i : Nat) (k : Nat) : Nat := (List.range i).countP fun j => decide (1 ≤ k) && rk (b.getD j 0) == k
def kT (b : List Int) (i : Nat) (x : Int) : Nat := (List.range i).countP fun j => b.getD j 0 == x
theorem cT_le (b : List Int) (i k : Nat) : cT b i k ≤ i := Nat.le_trans List.countP_le_length (by simp)
theorem kT_le (b : List Int) (i : Nat) (x : Int) : kT b i x ≤ i := Nat.le_trans List.countP_le_length (by simp)
theorem cT_succ (b : List Int) (i k : Nat) : cT b (i + 1) k = cT b i k + if 1 ≤ k ∧ rk (b.getD i 0) = k then 1 else 0 := by
  unfold cT
  rw [List.range_succ, List.countP_append]
  by_cases h : 1 ≤ k ∧ rk (b.getD i 0) = k
  · simp [h]
  · rw [if_neg h]
    have : (decide (1 ≤ k) && rk (b.getD i 0) == (k : Int)) = false := by
      rw [Bool.and_eq_false_iff]
      by_cases h1 : 1 ≤ k
      · right; simpa using fun h2 => h ⟨h1, h2⟩
      · left; simpa using h1
    simp only [List.countP_cons, List.countP_nil, this]
    rfl
theorem kT_succ (b : List Int) (i : Nat) (x : Int) : kT b (i + 1) x = kT b i x + if b.getD i 0 = x then 1 else 0 := by
  unfold kT
  rw [List.range_succ, List.countP_append]
  by_cases h : b.getD i 0 = x
  · simp
  · rw [if_neg h]
    have : (b.getD i 0 == x) = false := by simpa using h
    simp only [List.countP_cons, List.countP_nil, this]
    rfl
def cL (b : List Int) (i : Nat) : List Int := (List.range 9).map fun k => ((cT b i k : Nat) : Int)
def kL (b : List Int) (i : Nat) : List Int := [((kT b i 8 : Nat) : Int), ((kT b i 24 : Nat) : Int)]
theorem king_piece {x : Int} (h : kd x = 8) : x = 8 ∨ x = 24 := by
  unfold kd at h
  split at h
  · cases h
  · omega
theorem chk6_val (b h : List Int) (s : Int) (b' : List Int) : ∀ (n i : Nat), i + n = 81 → ∃ c k, ∀ f, board_Checkl6 (f + n + 1) b i b' h s (cL b i) (kL b i) =
    some (if (List.range' i n).any (bsP b) then .inl (55, b', h, s, c, k) else .inr (b', h, s, cL b 81, kL b 81)) := by
  intro n
  induction n with
  | zero =>
    intro i hi
    refine ⟨[], [], fun f => ?_⟩
    show board_Checkl6s (board_Checkl6 (f + 0)) _ _ _ _ _ _ _ = _
    unfold board_Checkl6s
    rw [b_nlt (by omega), show i = 81 by omega]
    rfl
  | succ n ih =>
    intro i hi
    obtain ⟨c, k, hr⟩ := ih (i + 1) (by omega)
    by_cases hbad : bsP b i = true
    · refine ⟨cL b i, kL b i, fun f => ?_⟩
      show board_Checkl6s (board_Checkl6 (f + n + 1)) _ _ _ _ _ _ _ = _
      unfold board_Checkl6s
      have hb := hbad
      unfold bsP at hb
      rw [decide_eq_true_eq] at hb
      rw [b_lt (by omega), b_in (by omega) (by omega), cond_true, tn, kind_val, ob_some, b_neq hb.1, b_eq hb.2, any_cons, hbad]
      rfl
    · refine ⟨c, k, fun f => ?_⟩
      show board_Checkl6s (board_Checkl6 (f + n + 1)) _ _ _ _ _ _ _ = _
      unfold board_Checkl6s
      have hb : bsP b i = false := by simpa using hbad
      rw [any_cons, hb, Bool.false_or, ← hr f]
      unfold bsP at hb
      rw [decide_eq_false_iff_not] at hb
      rw [b_lt (by omega), b_in (by omega) (by omega), cond_true, tn, kind_val, ob_some, w_s (by omega) (by omega)]
      by_cases hz : b.getD i 0 = 0
      · have e1 : cL b (i + 1) = cL b i := by
          unfold cL
          apply List.map_congr_left
          intro k _
          rw [cT_succ, hz, rk_zero (by decide), if_neg (by omega)]
          rfl
        have e2 : kL b (i + 1) = kL b i := by
          unfold kL
          rw [kT_succ, kT_succ, hz, if_neg (by omega), if_neg (by omega)]
          rfl
        rw [b_eq hz, e1, e2]
        rfl
      · have hk : kd (b.getD i 0) ≠ 0 := by omega
        obtain ⟨r1, r2⟩ := rk_range hk
        obtain ⟨k1, k2, k3⟩ := kd_bounds (b.getD i 0)
        have hraw : piece_Raw (kd (b.getD i 0)) = some (rk (b.getD i 0)) := raw_val k1 k2
        have e1 : List.set (cL b i) (rk (b.getD i 0)).toNat (IntKind.wrap .i64 (List.getD (cL b i) (rk (b.getD i 0)).toNat 0 + 1)) = cL b (i + 1) := by
          unfold cL
          have hle := cT_le b i (rk (b.getD i 0)).toNat
          rw [map_getD _ (by omega), map_set, w_s (by omega) (by omega)]
          apply List.map_congr_left
          intro k hk
          simp only [List.mem_range] at hk
          rw [cT_succ]
          by_cases hkr : k = (rk (b.getD i 0)).toNat
          · rw [if_pos hkr, if_pos (by omega), hkr]; rfl
          · rw [if_neg hkr, if_neg (by omega)]; rfl
        rw [b_neq hz, b_neq hk]
        by_cases h8 : kd (b.getD i 0) = 8
        · have hle1 := kT_le b i 8
          have hle2 := kT_le b i 24
          rcases king_piece h8 with hx | hx
          · have hs : sd (b.getD i 0) = 0 := by rw [hx]; decide
            have e2 : List.set (kL b i) 0 (IntKind.wrap .i64 (List.getD (kL b i) 0 0 + 1)) = kL b (i + 1) := by
              unfold kL
              rw [kT_succ, kT_succ, hx, if_pos rfl, if_neg (by omega)]
              show [IntKind.wrap .i64 (((kT b i 8 : Nat) : Int) + 1), _] = _
              rw [w_s (by omega) (by omega)]
              rfl
            rw [b_eq h8, side_val, ob_some, hs, b_in (by omega) (by omega), b_in (by omega) (by omega), hraw, ob_some, b_in (by omega) (by omega), b_in (by omega) (by omega), e1]
            show board_Checkl6 (f + n + 1) b _ b' h s _ (List.set (kL b i) 0 (IntKind.wrap .i64 (List.getD (kL b i) 0 0 + 1))) = _
            rw [e2]
            rfl
          · have hs : sd (b.getD i 0) = 1 := by rw [hx]; decide
            have e2 : List.set (kL b i) 1 (IntKind.wrap .i64 (List.getD (kL b i) 1 0 + 1)) = kL b (i + 1) := by
              unfold kL
              rw [kT_succ, kT_succ, hx, if_neg (by omega), if_pos rfl]
              show [_, IntKind.wrap .i64 (((kT b i 24 : Nat) : Int) + 1)] = _
              rw [w_s (by omega) (by omega)]
              rfl
            rw [b_eq h8, side_val, ob_some, hs, b_in (by omega) (by omega), b_in (by omega) (by omega), hraw, ob_some, b_in (by omega) (by omega), b_in (by omega) (by omega), e1]
            show board_Checkl6 (f + n + 1) b _ b' h s _ (List.set (kL b i) 1 (IntKind.wrap .i64 (List.getD (kL b i) 1 0 + 1))) = _
            rw [e2]
            rfl
        · have e2 : kL b (i + 1) = kL b i := by
            have n8 : b.getD i 0 ≠ 8 := fun h => h8 (by rw [h]; decide)
            have n24 : b.getD i 0 ≠ 24 := fun h => h8 (by rw [h]; decide)
            unfold kL
            rw [kT_succ, kT_succ, if_neg n8, if_neg n24]
            rfl
          rw [b_neq h8, hraw, ob_some, b_in (by omega) (by omega), b_in (by omega) (by omega), e1, e2]
          rfl
theorem row_get {h : List Int} {s k : Nat} (_hs : s < 2) (hk : k < 8) : (List.take 8 (List.drop (Nat.add (Nat.mul s 7) s) h)).getD k 0 = h.getD (s * 8 + k) 0 := by
  rw [List.getD_eq_getElem?_getD, List.getElem?_take, if_pos hk, List.getElem?_drop, List.getD_eq_getElem?_getD]
  rw [show (Nat.add (Nat.mul s 7) s) + k = s * 8 + k from (by show s * 7 + s + k = s * 8 + k; omega)]
def addH (h : List Int) (s i : Nat) (g : Nat → Int) (j : Nat) : Int := if i ≤ j ∧ j < 8 then g j + h.getD (s * 8 + j) 0 else g j
theorem chk20p_val {h : List Int} (hf : Fits8 h) (b : List Int) (S : Int) (kk h' : List Int) (s : Nat) (hs : s < 2) : ∀ (n i : Nat), i + n = 8 → ∀ (g : Nat → Int), (∀ j, -200000 + 200 * n ≤ g j ∧ g j ≤ 200000 - 200 * n) →
    ∃ c, ∀ f, board_Checkl20 (f + n + 1) h s (List.take 8 (List.drop (Nat.add (Nat.mul s 7) s) h)) i b h' S ((List.range 9).map g) kk =
      some (if (List.range' i n).any (fun k => bsH h k s) then .inl (55, h, s, b, h', S, c, kk) else .inr (h, s, b, h', S, (List.range 9).map (addH h s i g), kk)) := by
  intro n
  induction n with
  | zero =>
    intro i hi g hg
    refine ⟨[], fun f => ?_⟩
    show board_Checkl20s (board_Checkl20 (f + 0)) _ _ _ _ _ _ _ _ _ = _
    unfold board_Checkl20s
    rw [b_nlt (by omega)]
    have : (List.range 9).map (addH h s i g) = (List.range 9).map g := by
      apply List.map_congr_left
      intro j _
      unfold addH
      rw [if_neg (by omega)]
    rw [this]
    rfl
  | succ n ih =>
    intro i hi g hg
    have hr := row_get (h := h) (s := s) (k := i) hs (by omega)
    have hb := hf (s * 8 + i)
    by_cases hbad : bsH h i s = true
    · refine ⟨(List.range 9).map g, fun f => ?_⟩
      show board_Checkl20s (board_Checkl20 (f + n + 1)) _ _ _ _ _ _ _ _ _ = _
      unfold board_Checkl20s
      have hx := hbad
      unfold bsH at hx
      rw [decide_eq_true_eq] at hx
      rw [b_lt (by omega), b_in (by omega) (by omega), cond_true, tn, hr, any_cons, hbad]
      by_cases h0 : h.getD (s * 8 + i) 0 < 0
      · rw [b_lt h0]
        rfl
      · rw [b_nlt h0, b_gt (by omega), b_eq (by omega)]
        rfl
    · have hx : bsH h i s = false := by simpa using hbad
      have hx2 := hx
      unfold bsH at hx2
      rw [decide_eq_false_iff_not] at hx2
      obtain ⟨c, hc⟩ := ih (i + 1) (by omega) (fun j => if j = i then g j + h.getD (s * 8 + j) 0 else g j) (fun j => by
        have := hg j
        split
        · rename_i hj; subst hj; omega
        · omega)
      refine ⟨c, fun f => ?_⟩
      show board_Checkl20s (board_Checkl20 (f + n + 1)) _ _ _ _ _ _ _ _ _ = _
      unfold board_Checkl20s
      have hgi := hg i
      have e1 : List.set ((List.range 9).map g) i (IntKind.wrap .i64 (List.getD ((List.range 9).map g) i 0 + h.getD (s * 8 + i) 0)) = (List.range 9).map fun j => if j = i then g j + h.getD (s * 8 + j) 0 else g j := by
        rw [map_getD _ (by omega), map_set, w_s (by omega) (by omega)]
        apply List.map_congr_left
        intro j _
        split
        · rename_i hj; subst hj; rfl
        · rfl
      have e2 : (List.range 9).map (addH h s (i + 1) fun j => if j = i then g j + h.getD (s * 8 + j) 0 else g j) = (List.range 9).map (addH h s i g) := by
        apply List.map_congr_left
        intro j _
        unfold addH
        by_cases hj : j = i
        · subst hj; simp; omega
        · simp only [hj, if_false]
          by_cases h1 : i ≤ j ∧ j < 8
          · rw [if_pos (by omega), if_pos h1]
          · rw [if_neg (by omega), if_neg h1]
      have := hc f
      rw [e2] at this
      rw [b_lt (by omega), b_in (by omega) (by omega), cond_true, tn, hr, any_cons, hx, Bool.false_or, b_nlt (by omega), c_8, e1, w_s (by omega) (by omega)]
      by_cases h0 : h.getD (s * 8 + i) 0 > 0
      · rw [b_gt h0, b_neq (by omega), b_neq (by omega), b_in (by omega) (by omega), b_in (by omega) (by omega)]
        exact this
      · rw [b_ngt h0, b_in (by omega) (by omega), b_in (by omega) (by omega)]
        exact this
theorem chk17p_val {h : List Int} (hf : Fits8 h) (b h' : List Int) (S : Int) (kk : List Int) (g : Nat → Int) (hg : ∀ j, -100 ≤ g j ∧ g j ≤ 100) :
    ∃ c, ∀ f, board_Checkl17 (f + 2 + 1) h 0 b h' S ((List.range 9).map g) kk =
      some (if (List.range' 0 2).any (fun s => (List.range' 0 8).any fun k => bsH h k s) then .inl (55, b, h', S, c, kk) else .inr (b, h', S, (List.range 9).map (addH h 1 0 (addH h 0 0 g)), kk)) := by
  obtain ⟨g8, hg8⟩ := many_eq 8 (by omega)
  obtain ⟨c0, h0⟩ := chk20p_val hf b S kk h' 0 (by omega) 8 0 (by omega) g (fun j => by have := hg j; omega)
  have h0 := h0 g8
  rw [← hg8] at h0
  obtain ⟨c1, h1⟩ := chk20p_val hf b S kk h' 1 (by omega) 8 0 (by omega) (addH h 0 0 g) (fun j => by
    have := hg j
    have := hf (0 * 8 + j)
    unfold addH
    split <;> omega)
  have h1 := h1 g8
  rw [← hg8] at h1
  have any2 : (List.range' 0 2).any (fun s => (List.range' 0 8).any fun k => bsH h k s) = ((List.range' 0 8).any (fun k => bsH h k 0) || (List.range' 0 8).any (fun k => bsH h k 1)) := by
    rw [any_cons (fun s => (List.range' 0 8).any fun k => bsH h k s), any_cons (fun s => (List.range' 0 8).any fun k => bsH h k s) 1 0]
    simp
  rw [any2]
  cases hb0 : (List.range' 0 8).any (fun k => bsH h k 0) with
  | true =>
    refine ⟨c0, fun f => ?_⟩
    show board_Checkl17s (board_Checkl17 (f + 2)) _ _ _ _ _ _ _ = _
    unfold board_Checkl17s
    rw [b_lt (by omega), b_in (by omega) (by omega), show board_Checkl20 many h 0 (List.take 8 (List.drop (Nat.add (Nat.mul (Int.toNat 0) 7) (Int.toNat 0)) h)) 0 b h' S ((List.range 9).map g) kk = _ from h0, hb0, ob_some]
    rfl
  | false =>
    refine ⟨c1, fun f => ?_⟩
    show board_Checkl17s (board_Checkl17 (f + 2)) _ _ _ _ _ _ _ = _
    unfold board_Checkl17s
    rw [b_lt (by omega), b_in (by omega) (by omega), show board_Checkl20 many h 0 (List.take 8 (List.drop (Nat.add (Nat.mul (Int.toNat 0) 7) (Int.toNat 0)) h)) 0 b h' S ((List.range 9).map g) kk = _ from h0, hb0, ob_some, if_neg (by decide), sw_inr]
    simp only
    show board_Checkl17s (board_Checkl17 (f + 1)) _ _ _ _ _ _ _ = _
    unfold board_Checkl17s
    rw [b_lt (by rw [w_s (by omega) (by omega)]; omega), b_in (by rw [w_s (by omega) (by omega)]; omega) (by rw [w_s (by omega) (by omega)]; omega)]
    rw [show IntKind.wrap .i64 (((0 : Nat) : Int) + 1) = 1 from rfl, show board_Checkl20 many h 1 (List.take 8 (List.drop (Nat.add (Nat.mul (Int.toNat 1) 7) (Int.toNat 1)) h)) 0 b h' S ((List.range 9).map (addH h 0 0 g)) kk = _ from h1, ob_some]
    cases hb1 : (List.range' 0 8).any (fun k => bsH h k 1) with
    | true => rfl
    | false =>
      rw [if_neg (by decide), sw_inr]
      simp only
      show board_Checkl17s (board_Checkl17 f) _ _ _ _ _ _ _ = _
      unfold board_Checkl17s
      rw [b_nlt (by decide)]
      rfl
theorem cnt_cT {b : List Int} (hl : b.length = 81) {k : Nat} (hk : 1 ≤ k) : cnt b k = cT b 81 k := by
  have hb : b = (List.range 81).map fun j => b.getD j 0 := by
    apply List.ext_getElem
    · simp [hl]
    · intro i h1 h2
      rw [List.getElem_map, List.getElem_range, at_i h1]
  unfold cnt cT
  conv => lhs; rw [hb]
  rw [List.countP_map]
  apply List.countP_congr
  intro j _
  show (rw_ (kd (b.getD j 0)) == (k : Int)) = true ↔ _
  simp [hk, rk]
theorem total_valP : ∀ k : Fin 9, piece_Total ((k.val : Nat) : Int) = some (totS ((k.val : Nat) : Int)) := by decide +kernel
theorem chk30p_val {b h : List Int} {g : Nat → Int} (hg : ∀ k : Nat, 1 ≤ k → k < 8 → g k = cnt b k + hd_ h 0 k + hd_ h 1 k) (b' h' : List Int) (s : Int) : ∀ (n i : Nat), i + n = 8 → 1 ≤ i → ∀ f,
    board_Checkl30 (f + n + 1) i b' h' s ((List.range 9).map g) = some (if (List.range' i n).any (overS b h) then .inl (51, b', h', s) else .inr (b', h', s)) := by
  intro n
  induction n with
  | zero =>
    intro i hi _ f
    show board_Checkl30s (board_Checkl30 (f + 0)) _ _ _ _ _ = _
    unfold board_Checkl30s
    rw [b_nlt (by omega)]
    rfl
  | succ n ih =>
    intro i hi h1 f
    show board_Checkl30s (board_Checkl30 (f + n + 1)) _ _ _ _ _ = _
    unfold board_Checkl30s
    have ht := total_valP ⟨i, by omega⟩
    simp only at ht
    rw [b_lt (by omega), b_in (by omega) (by omega), ht, ob_some, tn, map_getD _ (by omega), hg i h1 (by omega), any_cons, w_s (by omega) (by omega)]
    have := ih (i + 1) (by omega) (by omega) f
    by_cases ho : totS i < cnt b i + hd_ h 0 i + hd_ h 1 i
    · rw [b_gt ho, show overS b h i = true by unfold overS; simpa using ho]
      rfl
    · rw [b_ngt ho, show overS b h i = false by unfold overS; simpa using ho, Bool.false_or]
      exact this
theorem bsH_comm (h : List Int) : ((List.range' 0 2).any fun s => (List.range' 0 8).any fun k => bsH h k s) = (List.range' 0 8).any fun k => (List.range' 0 2).any (bsH h k) := by
  rw [Bool.eq_iff_iff]
  simp only [List.any_eq_true]
  constructor
  · rintro ⟨s, hs, k, hk, h1⟩
    exact ⟨k, hk, s, hs, h1⟩
  · rintro ⟨k, hk, s, hs, h1⟩
    exact ⟨s, hs, k, hk, h1⟩
theorem bad_clean {b : List Int} (hl : b.length = 81) (h : (List.range' 0 81).any (bsP b) = false) : Clean b := by
  refine ⟨hl, fun i hi => ?_⟩
  rw [List.any_eq_false] at h
  have := h i (by rw [List.mem_range']; exact ⟨i, hi, by omega⟩)
  unfold bsP at this
  rw [decide_eq_true_eq] at this
  omega
theorem check_full {b h : List Int} (hl : b.length = 81) (hf : Fits8 h) (s : Int) : board_Check b h s = some (chkS b h s) := by
  obtain ⟨g81, hg81⟩ := many_eq 81 (by omega)
  obtain ⟨g7, hg7⟩ := many_eq 7 (by omega)
  obtain ⟨g2, hg2⟩ := many_eq 2 (by omega)
  obtain ⟨c6, k6, h6⟩ := chk6_val b h s b 81 0 (by omega)
  have h6 := h6 g81
  rw [← hg81] at h6
  have z1 : cL b 0 = [0, 0, 0, 0, 0, 0, 0, 0, 0] := rfl
  have z2 : kL b 0 = [0, 0] := rfl
  rw [z1, z2] at h6
  obtain ⟨c17, h17⟩ := chk17p_val hf b h s (kL b 81) (fun k => ((cT b 81 k : Nat) : Int)) (fun j => by have := cT_le b 81 j; omega)
  have h17 := h17 g2
  rw [← hg2] at h17
  have hgc : ∀ k : Nat, 1 ≤ k → k < 8 → addH h 1 0 (addH h 0 0 fun k => ((cT b 81 k : Nat) : Int)) k = cnt b k + hd_ h 0 k + hd_ h 1 k := by
    intro k k1 k8
    unfold addH
    rw [if_pos (by omega), if_pos (by omega), cnt_cT hl k1]
    rfl
  have h30 := chk30p_val hgc b h s 7 1 (by omega) (by omega) g7
  rw [← hg7] at h30
  have main : (ob (board_Checkl6 many b 0 b h s ([0, 0, 0, 0, 0, 0, 0, 0, 0]) ([0, 0])) fun t3_2 =>
      sw t3_2 (fun (a3_0, _, _, _, _, _) =>
       some (a3_0))
       (fun (a3_0, a3_1, a3_2, a3_3, a3_4) =>
       ob (board_Checkl17 many a3_1 0 a3_0 a3_1 a3_2 a3_3 a3_4) fun t8_2 =>
       sw t8_2 (fun (a8_0, _, _, _, _, _) =>
        some (a8_0))
        (fun (a8_0, a8_1, a8_2, a8_3, a8_4) =>
        br (!a8_4 == [1, 1])
         (some (50))
         (ob (board_Checkl30 many 1 a8_0 a8_1 a8_2 a8_3) fun t13_2 =>
         sw t13_2 (fun (a13_0, _, _, _) =>
          some (a13_0))
          (fun (a13_0, a13_1, a13_2) =>
          ob (board_files a13_0 a13_1 a13_2) fun a16 =>
          some (a16)))) ) : Option Int) =
      some (if (List.range' 0 81).any (bsP b) then 55
        else if (List.range' 0 8).any (fun k => (List.range' 0 2).any (bsH h k)) then 55
        else if ¬ (nP b 8 = 1 ∧ nP b 24 = 1) then 50
        else if (List.range' 1 7).any (overS b h) then 51
        else if (List.range' 0 81).any (fun i => deadS (b.getD i 0) i) then 52
        else if (List.range' 0 9).any (nifuS b) then 53
        else 0) := by
    rw [show board_Checkl6 many b 0 b h s [0, 0, 0, 0, 0, 0, 0, 0, 0] [0, 0] = _ from h6, ob_some]
    cases hbad : (List.range' 0 81).any (bsP b) with
    | true => rfl
    | false =>
      have hc := bad_clean hl hbad
      rw [if_neg (by decide), if_neg (by decide), sw_inr]
      simp only
      rw [show board_Checkl17 many h 0 b h s (cL b 81) (kL b 81) = _ from h17, ob_some, bsH_comm]
      split
      · rfl
      rw [sw_inr]
      simp only
      have hk : (!kL b 81 == [1, 1]) = decide (¬ (nP b 8 = 1 ∧ nP b 24 = 1)) := by
        show (!([((nP b 8 : Nat) : Int), ((nP b 24 : Nat) : Int)] == [1, 1])) = _
        rw [Bool.eq_iff_iff]
        simp
        omega
      rw [hk]
      by_cases h8 : nP b 8 = 1 ∧ nP b 24 = 1
      · rw [br_false (by simpa using h8), if_neg (by simpa using h8), show board_Checkl30 many 1 b h s _ = _ from h30, ob_some]
        split
        · rfl
        rw [sw_inr]
        simp only
        rw [files_val hc, ob_some]
      · rw [br_true (by rw [decide_eq_true_eq]; exact h8), if_pos h8]
  unfold board_Check chkS
  by_cases h0 : s = 0
  · rw [b_nne h0, if_neg (by simp [h0])]
    exact main
  · rw [b_ne h0]
    by_cases h1 : s = 1
    · rw [b_nne h1, if_neg (by simp [h1])]
      exact main
    · rw [b_ne h1, if_pos (by simp [h0, h1])]
end Go.Kk.Pl
namespace Go.Kk.Pl
def tk (b : List Int) (i : Nat) : Bool := decide (b.getD i 0 ≠ 0)
theorem tk_sides {b : List Int} (hc : Clean b) {i : Nat} (hi : i < 81) : (sds b 0 i || sds b 1 i) = tk b i := by
  have := hc.ok i hi
  unfold sds tk
  rw [Bool.eq_iff_iff]
  simp only [Bool.or_eq_true, decide_eq_true_eq]
  rcases this with h | h
  · rw [h, sd_zero]; simp
  · have h1 := kd_range h
    have h2 := sd_range h
    constructor
    · intro _; omega
    · intro _; exact h2
theorem takenB_val {b : List Int} (hc : Clean b) (h : List Int) (S : Int) (by_ : List (List Int)) : board_Taken b h S by_ (sidesOf b) = some (sLo (tk b), sHi (tk b)) := by
  unfold board_Taken
  have e0 : (sidesOf b).getD 0 [] = prS (sds b 0) := rfl
  have e1 : (sidesOf b).getD 1 [] = prS (sds b 1) := rfl
  rw [e0, e1, prS_hd, prS_tl, prS_hd, prS_tl, or_val, ob_some]
  obtain ⟨h1, h2⟩ := set_congr (f := fun i => sds b 0 i || sds b 1 i) (g := tk b) fun i hi => tk_sides hc hi
  simp only
  rw [h1, h2]
def sdP (b : List Int) (s : Int) (i : Nat) : Bool := decide (s = 0 ∨ s = 1) && sds b s i
theorem piecesB_val (b h : List Int) (S s : Int) (by_ : List (List Int)) : board_Pieces s b h S by_ (sidesOf b) = some (sLo (sdP b s), sHi (sdP b s)) := by
  unfold board_Pieces
  by_cases h0 : s = 0
  · subst h0
    have : sdP b 0 = sds b 0 := by funext i; unfold sdP; simp
    rw [this]
    rfl
  · rw [b_ne h0]
    by_cases h1 : s = 1
    · subst h1
      have : sdP b 1 = sds b 1 := by funext i; unfold sdP; simp
      rw [this]
      rfl
    · have : sdP b s = fun _ => false := by funext i; unfold sdP; simp [h0, h1]
      rw [b_ne h1, this, sLo_false, sHi_false]
theorem kingB_val (b h : List Int) (S s : Int) (sd' : List (List Int)) : board_King s b h S (byOf b) sd' = some (fst (pcs b (pc s 8))) := by
  unfold board_King
  rw [ofB_val, ob_some]
  simp only
  rw [first_val, ob_some]
def hdP (h : List Int) (s k : Int) : Int := if (s = 0 ∨ s = 1) ∧ 1 ≤ k ∧ k < 8 then hd_ h s k else 0
theorem handB_val (b h : List Int) (S s k : Int) (by_ sd' : List (List Int)) : board_Hand s k b h S by_ sd' = some (hdP h s k) := by
  unfold hdP
  by_cases hv : (s = 0 ∨ s = 1) ∧ 1 ≤ k ∧ k < 8
  · rw [if_pos hv, hand_val hv.1 hv.2.1 hv.2.2]
  · rw [if_neg hv]
    unfold board_Hand
    by_cases h0 : s = 0
    · rw [b_nne h0]
      by_cases h1 : k < 1
      · rw [b_lt h1]
      · rw [b_nlt h1, b_ge (by omega)]
    · rw [b_ne h0]
      by_cases h2 : s = 1
      · rw [b_nne h2]
        by_cases h1 : k < 1
        · rw [b_lt h1]
        · rw [b_nlt h1, b_ge (by omega)]
      · rw [b_ne h2]
theorem isE_false : isE (fun _ => false) = true := by decide
end Go.Kk.Pl
namespace Go.Kk.Pl
def fl (q : Nat) : Int := ((q / 9 : Nat) : Int)
def rn (q : Nat) : Int := ((q % 9 : Nat) : Int)
def df (a c : Nat) : Int := fl c - fl a
def dr (a c : Nat) : Int := rn c - rn a
def upS (x : Int) (a c : Nat) : Int := if sd x = 1 then dr a c else - dr a c
theorem geo {a : Nat} (ha : a < 81) : 0 ≤ fl a ∧ fl a ≤ 8 ∧ 0 ≤ rn a ∧ rn a ≤ 8 ∧ (a : Int) = 9 * fl a + rn a := by unfold fl rn; omega
theorem geo_eq {a c : Nat} (h : df a c = 0) (h' : dr a c = 0) : a = c := by unfold df dr fl rn at *; omega
theorem geo_self (a : Nat) : df a a = 0 ∧ dr a a = 0 := by unfold df dr; omega
def fromS (dx dy : Int) (a : Nat) : Int := if 0 ≤ fl a + dx ∧ fl a + dx ≤ 8 ∧ 0 ≤ rn a + dy ∧ rn a + dy ≤ 8 then 9 * (fl a + dx) + (rn a + dy) else -1
theorem tdiv9 (q : Nat) : Int.tdiv (q : Int) 9 = fl q := by unfold fl; rw [Int.tdiv_eq_ediv_of_nonneg (by omega)]; omega
theorem tmod9' (q : Nat) : Int.tmod (q : Int) 9 = rn q := tmod9 q
theorem square_val (f r : Int) : set_Square f r = some (if 0 ≤ f ∧ f ≤ 8 ∧ 0 ≤ r ∧ r ≤ 8 then 9 * f + r else -1) := by
  unfold set_Square
  by_cases h1 : f < 0
  · rw [b_lt h1, if_neg (by omega)]
  by_cases h2 : f > 8
  · rw [b_nlt h1, b_gt h2, if_neg (by omega)]
  by_cases h3 : r < 0
  · rw [b_nlt h1, b_ngt h2, b_lt h3, if_neg (by omega)]
  by_cases h4 : r > 8
  · rw [b_nlt h1, b_ngt h2, b_nlt h3, b_gt h4, if_neg (by omega)]
  · rw [b_nlt h1, b_ngt h2, b_nlt h3, b_ngt h4, if_pos (by omega), w_s (n := 9 * f) (by omega) (by omega), w_s (by omega) (by omega)]
theorem from_val {dx dy : Int} (h1 : -8 ≤ dx) (h2 : dx ≤ 8) (h3 : -8 ≤ dy) (h4 : dy ≤ 8) {a : Nat} (ha : a < 81) : step_Dir_From dx dy a = some (fromS dx dy a) := by
  have hg := geo ha
  unfold step_Dir_From set_File set_Rank
  simp (disch := omega) only [b_nlt, b_nge, tdiv9, tmod9', ob_some, w_s, square_val]
  rfl
theorem only_from {dx dy : Int} {a c : Nat} (ha : a < 81) (hc : c < 81) : only (fromS dx dy a) c = decide (df a c = dx ∧ dr a c = dy) := by
  have hg := geo ha
  have hg2 := geo hc
  unfold only fromS df dr
  rw [decide_eq_decide]
  split <;> omega
def stpK (k d u : Int) : Prop :=
  (k = 1 ∧ d = 0 ∧ u = 1) ∨ (k = 3 ∧ (d = 1 ∨ d = -1) ∧ u = 2) ∨ (k = 4 ∧ ((u = 1 ∧ -1 ≤ d ∧ d ≤ 1) ∨ (u = -1 ∧ (d = 1 ∨ d = -1)))) ∨
  ((k = 5 ∨ k = 9 ∨ k = 10 ∨ k = 11 ∨ k = 12) ∧ ((u = 1 ∧ -1 ≤ d ∧ d ≤ 1) ∨ (u = 0 ∧ (d = 1 ∨ d = -1)) ∨ (u = -1 ∧ d = 0))) ∨
  (k = 8 ∧ -1 ≤ d ∧ d ≤ 1 ∧ -1 ≤ u ∧ u ≤ 1 ∧ ¬ (d = 0 ∧ u = 0)) ∨ (k = 14 ∧ ((u = 0 ∧ (d = 1 ∨ d = -1)) ∨ (d = 0 ∧ (u = 1 ∨ u = -1)))) ∨
  (k = 15 ∧ (d = 1 ∨ d = -1) ∧ (u = 1 ∨ u = -1))
instance (k d u : Int) : Decidable (stpK k d u) := by unfold stpK; infer_instance
def stepB (x : Int) (a c : Nat) : Bool := decide (stpK (kd x) (df a c) (upS x a c))
theorem size_val {n : Int} (h1 : -1000 ≤ n) (h2 : n ≤ 1000) : ref03_size n = some (if n < 0 then -n else n) := by
  unfold ref03_size
  split
  · rename_i h; rw [b_lt h, w_s (by omega) (by omega)]; congr 1; omega
  · rename_i h; rw [b_nlt h]
theorem upS_range {x : Int} {a c : Nat} (ha : a < 81) (hc : c < 81) : -8 ≤ upS x a c ∧ upS x a c ≤ 8 ∧ -8 ≤ df a c ∧ df a c ≤ 8 ∧ -8 ≤ dr a c ∧ dr a c ≤ 8 := by
  have hg := geo ha
  have hg2 := geo hc
  unfold upS df dr
  split <;> omega
def stT (k u S : Int) : Option Bool :=
  br (decide (S ≤ 1))
    (ob (ref03_size u) fun a5 =>
     br (k == 1)
      (br (S == 0)
       (some (u == 1))
       (some (false)))
      (br (k == 3)
       (br (S == 1)
        (some (u == 2))
        (some (false)))
       (br (k == 4)
        (br (decide (a5 ≤ 1))
         (br (u == 1)
          (some (true))
          (br (S == 1)
           (some (u == -1))
           (some (false))))
         (some (false)))
        (br (k == 5)
         (br (decide (a5 ≤ 1))
          (br (decide (u ≥ 0))
           (some (true))
           (some (S == 0)))
          (some (false)))
         (br (k == 9)
          (br (decide (a5 ≤ 1))
           (br (decide (u ≥ 0))
            (some (true))
            (some (S == 0)))
           (some (false)))
          (br (k == 10)
           (br (decide (a5 ≤ 1))
            (br (decide (u ≥ 0))
             (some (true))
             (some (S == 0)))
            (some (false)))
           (br (k == 11)
            (br (decide (a5 ≤ 1))
             (br (decide (u ≥ 0))
              (some (true))
              (some (S == 0)))
             (some (false)))
            (br (k == 12)
             (br (decide (a5 ≤ 1))
              (br (decide (u ≥ 0))
               (some (true))
               (some (S == 0)))
              (some (false)))
             (br (k == 8)
              (some (decide (a5 ≤ 1)))
              (br (k == 14)
               (br (decide (a5 ≤ 1))
                (br (S == 0)
                 (some (true))
                 (some (u == 0)))
                (some (false)))
               (br (k == 15)
                (br (decide (a5 ≤ 1))
                 (br (S == 1)
                  (some (u != 0))
                  (some (false)))
                 (some (false)))
                (some (false)))))))))))))
     (br (k == 1)
      (br (S == 0)
       (some (u == 1))
       (some (false)))
      (br (k == 3)
       (br (S == 1)
        (some (u == 2))
        (some (false)))
       (br (k == 4)
        (some (false))
        (br (k == 5)
         (some (false))
         (br (k == 9)
          (some (false))
          (br (k == 10)
           (some (false))
           (br (k == 11)
            (some (false))
            (br (k == 12)
             (some (false))
             (br (k == 8)
              (some (false))
              (br (k == 14)
               (some (false))
               (br (k == 15)
                (some (false))
                (some (false)))))))))))))
theorem stT_all : ∀ (k : Fin 16) (d u : Fin 17), ((d.val = 8 ∧ u.val = 8) ∨ stT ((k.val : Nat) : Int) ((u.val : Int) - 8) (if (d.val : Int) - 8 < 0 then -((d.val : Int) - 8) else (d.val : Int) - 8) =
    some (decide (stpK ((k.val : Nat) : Int) ((d.val : Int) - 8) ((u.val : Int) - 8)))) := by decide +kernel
theorem stp_key {k d u : Int} (hne : ¬ (d = 0 ∧ u = 0)) (k0 : 0 ≤ k) (k1 : k ≤ 15) (u1 : -8 ≤ u) (u2 : u ≤ 8) (d1 : -8 ≤ d) (d2 : d ≤ 8) : stT k u (if d < 0 then -d else d) = some (decide (stpK k d u)) := by
  have := stT_all ⟨k.toNat, by omega⟩ ⟨(d + 8).toNat, by omega⟩ ⟨(u + 8).toNat, by omega⟩
  simp only at this
  rw [show ((k.toNat : Nat) : Int) = k by omega, show (((d + 8).toNat : Nat) : Int) - 8 = d by omega, show (((u + 8).toNat : Nat) : Int) - 8 = u by omega] at this
  exact this.resolve_left (by omega)
theorem refStep_val (x : Int) {a c : Nat} (ha : a < 81) (hc : c < 81) : ref03_Step x a c = some (stepB x a c) := by
  have hg := geo ha
  have hg2 := geo hc
  have hr := upS_range (x := x) ha hc
  unfold ref03_Step stepB
  simp (disch := omega) only [b_nlt, tdiv9, tmod9', refSide_val, refKind_val, ob_some, w_s]
  by_cases hac : a = c
  · subst hac
    rw [b_eq rfl]
    have := geo_self a
    have hu : upS x a a = 0 := by unfold upS; rw [this.2]; split <;> rfl
    rw [this.1, hu]
    symm
    rw [Option.some.injEq, decide_eq_false_iff_not]
    unfold stpK
    omega
  · rw [b_neq (by omega)]
    have hne : ¬ (df a c = 0 ∧ upS x a c = 0) := by
      rintro ⟨h1, h2⟩
      refine hac (geo_eq h1 ?_)
      unfold upS at h2
      split at h2 <;> omega
    have hS := size_val (n := fl c - fl a) (by omega) (by omega)
    rw [hS, ob_some]
    obtain ⟨k0, k1, _⟩ := kd_bounds x
    have := stp_key (k := kd x) hne k0 k1 hr.1 hr.2.1 hr.2.2.1 hr.2.2.2.1
    rw [← this]
    by_cases hs : sd x = 1
    · have hu : (0 : Int) - (rn a - rn c) = upS x a c := by unfold upS dr; rw [if_pos hs]; omega
      rw [b_eq hs, hu]
      rfl
    · have hu : rn a - rn c = upS x a c := by unfold upS dr; rw [if_neg hs]; omega
      rw [b_neq hs, hu]
      rfl
def dirL (k : Int) : List (List Int) := if k = 1 then [[0, -1]] else if k = 3 then [[-1, -2], [1, -2]] else if k = 4 then [[-1, -1], [0, -1], [1, -1], [-1, 1], [1, 1]]
  else if k = 5 ∨ k = 9 ∨ k = 10 ∨ k = 11 ∨ k = 12 then [[-1, -1], [0, -1], [1, -1], [-1, 0], [1, 0], [0, 1]]
  else if k = 8 then [[-1, -1], [0, -1], [1, -1], [-1, 0], [1, 0], [0, 1], [-1, 1], [1, 1]] else if k = 14 then [[0, -1], [-1, 0], [1, 0], [0, 1]]
  else if k = 15 then [[-1, -1], [1, -1], [-1, 1], [1, 1]] else []
theorem dirs_all : ∀ k : Fin 16, step_Dirs many ((k.val : Nat) : Int) = some ((dirL ((k.val : Nat) : Int)).length, (dirL ((k.val : Nat) : Int)).length, dirL ((k.val : Nat) : Int)) := by decide +kernel
theorem dirs_val {k : Int} (h0 : 0 ≤ k) (h1 : k ≤ 15) : step_Dirs many k = some ((dirL k).length, (dirL k).length, dirL k) := by
  have := dirs_all ⟨k.toNat, by omega⟩
  simpa only [show ((k.toNat : Nat) : Int) = k by omega] using this
theorem dirL_small : ∀ (k : Fin 16) (i : Fin 8), ((dirL ((k.val : Nat) : Int)).getD i.val []).length ≤ 2 ∧ -2 ≤ ((dirL ((k.val : Nat) : Int)).getD i.val []).headD 0 ∧ ((dirL ((k.val : Nat) : Int)).getD i.val []).headD 0 ≤ 2 ∧
    -2 ≤ ((dirL ((k.val : Nat) : Int)).getD i.val []).tail.headD 0 ∧ ((dirL ((k.val : Nat) : Int)).getD i.val []).tail.headD 0 ≤ 2 := by decide +kernel
theorem dirL_len : ∀ (k : Fin 16), (dirL ((k.val : Nat) : Int)).length ≤ 8 := by decide +kernel
def sg (x : Int) : Int := if sd x = 1 then -1 else 1
theorem turn_val {dx dy : Int} (h : -8 ≤ dx ∧ dx ≤ 8 ∧ -8 ≤ dy ∧ dy ≤ 8) (x : Int) : step_Dir_Turn dx dy (sd x) = some (sg x * dx, sg x * dy) := by
  unfold step_Dir_Turn sg
  by_cases hs : sd x = 1
  · rw [b_eq hs, if_pos hs, w_s (by omega) (by omega), w_s (by omega) (by omega)]
    congr 2 <;> omega
  · rw [b_neq hs, if_neg hs]
    congr 2 <;> omega
theorem sg_cases (x : Int) : sg x = 1 ∨ sg x = -1 := by unfold sg; split <;> simp
def dx_ (r : List Int) : Int := r.headD 0
def dy_ (r : List Int) : Int := r.tail.headD 0
def anyD (x : Int) (L : List (List Int)) (a c : Nat) : Bool := L.any fun r => decide (df a c = sg x * dx_ r ∧ dr a c = sg x * dy_ r)
theorem stepOf_goes {x : Int} {a : Nat} (ha : a < 81) (L : List (List Int)) (hlen : L.length ≤ 8) (hr : ∀ r ∈ L, r.length ≤ 2 ∧ -2 ≤ dx_ r ∧ dx_ r ≤ 2 ∧ -2 ≤ dy_ r ∧ dy_ r ≤ 2) (N : Nat) (u v : Int) :
    ∀ (n i : Nat), i + n = L.length → ∀ (f : Nat → Bool) (F : Nat), step_Ofl3 (F + n + 1) x a L.length (Int.ofNat L.length) i u v (sLo f) (sHi f) N L =
      some (u, v, sLo fun c => f c || anyD x (L.drop i) a c, sHi fun c => f c || anyD x (L.drop i) a c) := by
  intro n
  induction n with
  | zero =>
    intro i hi f F
    show step_Ofl3s (step_Ofl3 (F + 0)) _ _ _ _ _ _ _ _ _ _ _ = _
    unfold step_Ofl3s
    rw [b_nlt (by simp; omega), List.drop_eq_nil_of_le (by omega)]
    have : (fun c => f c || anyD x [] a c) = f := by funext c; simp [anyD]
    rw [this]
  | succ n ih =>
    intro i hi f F
    show step_Ofl3s (step_Ofl3 (F + n + 1)) _ _ _ _ _ _ _ _ _ _ _ = _
    unfold step_Ofl3s
    have hil : i < L.length := by omega
    have hget : L.getD i [] = L[i] := by rw [List.getD_eq_getElem?_getD, List.getElem?_eq_getElem hil]; rfl
    obtain ⟨r0, r1, r2, r3, r4⟩ := hr L[i] (List.getElem_mem hil)
    have ht : List.take 2 L[i] = L[i] := List.take_of_length_le r0
    have hs := sg_cases x
    rw [b_lt (by simp; omega), b_in (by omega) (by omega), tn, hget, ht, side_val, ob_some]
    show ob (step_Dir_Turn (dx_ L[i]) (dy_ L[i]) (sd x)) _ = _
    rw [turn_val (by omega), ob_some]
    simp only
    rw [from_val (by rcases hs with h | h <;> rw [h] <;> omega) (by rcases hs with h | h <;> rw [h] <;> omega) (by rcases hs with h | h <;> rw [h] <;> omega) (by rcases hs with h | h <;> rw [h] <;> omega) ha, ob_some, with_val, ob_some]
    simp only
    rw [w_s (by omega) (by omega)]
    refine (ih (i + 1) (by omega) _ F).trans ?_
    have hd : L.drop i = L[i] :: L.drop (i + 1) := List.drop_eq_getElem_cons hil
    obtain ⟨e1, e2⟩ := set_congr (f := fun c => (f c || only (fromS (sg x * dx_ L[i]) (sg x * dy_ L[i]) a) c) || anyD x (L.drop (i + 1)) a c) (g := fun c => f c || anyD x (L.drop i) a c) fun c hc => by
      rw [only_from ha hc, hd]
      unfold anyD
      rw [List.any_cons, Bool.or_assoc]
    rw [e1, e2]
theorem anyD_all : ∀ (k : Fin 16) (d u : Fin 17), (dirL ((k.val : Nat) : Int)).any (fun r => decide ((d.val : Int) - 8 = dx_ r ∧ (u.val : Int) - 8 = -(dy_ r))) = decide (stpK ((k.val : Nat) : Int) ((d.val : Int) - 8) ((u.val : Int) - 8)) := by decide +kernel
theorem anyD_sym : ∀ (k : Fin 16) (d u : Fin 17), (dirL ((k.val : Nat) : Int)).any (fun r => decide ((d.val : Int) - 8 = -(dx_ r) ∧ (u.val : Int) - 8 = -(dy_ r))) = decide (stpK ((k.val : Nat) : Int) ((d.val : Int) - 8) ((u.val : Int) - 8)) := by decide +kernel
theorem anyD_val (x : Int) {a c : Nat} (ha : a < 81) (hc : c < 81) : anyD x (dirL (kd x)) a c = stepB x a c := by
  obtain ⟨k0, k1, _⟩ := kd_bounds x
  have hr := upS_range (x := x) ha hc
  unfold stepB anyD sg upS
  by_cases hs : sd x = 1
  · simp only [hs, if_true]
    have := anyD_sym ⟨(kd x).toNat, by omega⟩ ⟨(df a c + 8).toNat, by omega⟩ ⟨(dr a c + 8).toNat, by omega⟩
    simp only [show (((kd x).toNat : Nat) : Int) = kd x by omega, show (((df a c + 8).toNat : Nat) : Int) - 8 = df a c by omega, show (((dr a c + 8).toNat : Nat) : Int) - 8 = dr a c by omega] at this
    rw [← this]
    congr 1
    funext r
    rw [decide_eq_decide]
    constructor <;> (rintro ⟨h1, h2⟩; constructor <;> omega)
  · simp only [hs, if_false]
    have := anyD_all ⟨(kd x).toNat, by omega⟩ ⟨(df a c + 8).toNat, by omega⟩ ⟨(-dr a c + 8).toNat, by omega⟩
    simp only [show (((kd x).toNat : Nat) : Int) = kd x by omega, show (((df a c + 8).toNat : Nat) : Int) - 8 = df a c by omega, show (((-dr a c + 8).toNat : Nat) : Int) - 8 = -dr a c by omega] at this
    rw [← this]
    congr 1
    funext r
    rw [decide_eq_decide]
    constructor <;> (rintro ⟨h1, h2⟩; constructor <;> omega)
theorem dirL_ok {k : Int} (h0 : 0 ≤ k) (h1 : k ≤ 15) : (dirL k).length ≤ 8 ∧ ∀ r ∈ dirL k, r.length ≤ 2 ∧ -2 ≤ dx_ r ∧ dx_ r ≤ 2 ∧ -2 ≤ dy_ r ∧ dy_ r ≤ 2 := by
  have hl := dirL_len ⟨k.toNat, by omega⟩
  simp only [show ((k.toNat : Nat) : Int) = k by omega] at hl
  refine ⟨hl, fun r hr => ?_⟩
  obtain ⟨i, hi, rfl⟩ := List.getElem_of_mem hr
  have := dirL_small ⟨k.toNat, by omega⟩ ⟨i, by omega⟩
  simp only [show ((k.toNat : Nat) : Int) = k by omega] at this
  rw [List.getD_eq_getElem?_getD, List.getElem?_eq_getElem hi] at this
  exact this
theorem stepOf_val (x : Int) {a : Nat} (ha : a < 81) : step_Of x a = some (sLo (stepB x a), sHi (stepB x a)) := by
  obtain ⟨k0, k1, _⟩ := kd_bounds x
  obtain ⟨hlen, hrs⟩ := dirL_ok k0 k1
  obtain ⟨g, hg⟩ := many_eq (dirL (kd x)).length (by omega)
  have := stepOf_goes (x := x) ha (dirL (kd x)) hlen hrs (dirL (kd x)).length 0 0 (dirL (kd x)).length 0 (by omega) (fun _ => false) g
  rw [← hg, sLo_false, sHi_false] at this
  unfold step_Of
  rw [kind_val, ob_some, dirs_val k0 k1, ob_some]
  simp only
  rw [show step_Ofl3 many x a (dirL (kd x)).length (Int.ofNat (dirL (kd x)).length) 0 0 0 0 0 (dirL (kd x)).length (dirL (kd x)) = _ from this, ob_some]
  simp only
  obtain ⟨e1, e2⟩ := set_congr (f := fun c => false || anyD x (List.drop 0 (dirL (kd x))) a c) (g := stepB x a) fun c hc => by
    rw [Bool.false_or, List.drop_zero, anyD_val x ha hc]
  rw [e1, e2]
end Go.Kk.Pl
namespace Go.Kk.Pl
def sgn (n : Int) : Int := if n < 0 then -1 else if n > 0 then 1 else 0
def lineS (a c : Nat) : Int := if a = c then 0 else if df a c = 0 ∨ dr a c = 0 then 1 else if df a c = dr a c ∨ df a c = -dr a c then 2 else 0
def mx (a c : Nat) : Nat := if (df a c).natAbs < (dr a c).natAbs then (dr a c).natAbs else (df a c).natAbs
def stpD (a c : Nat) : Int := 9 * sgn (df a c) + sgn (dr a c)
def btw (a c : Nat) : List Nat := if lineS a c = 0 then [] else (List.range (mx a c - 1)).map fun (j : Nat) => ((a : Int) + ((j : Int) + 1) * stpD a c).toNat
theorem sign_val (n : Int) : ref04_sign n = some (sgn n) := by
  unfold ref04_sign sgn
  split
  · rename_i h; rw [b_lt h]
  · rename_i h
    rw [b_nlt h]
    split
    · rename_i h2; rw [b_gt h2]
    · rename_i h2; rw [b_ngt h2]
theorem line_val {a c : Nat} (ha : a < 81) (hc : c < 81) : ref04_Line a c = some (lineS a c) := by
  have hg := geo ha
  have hg2 := geo hc
  unfold ref04_Line lineS
  simp (disch := omega) only [b_nlt, tdiv9, tmod9', w_s]
  by_cases hac : a = c
  · rw [b_eq (by omega), if_pos hac]
  · rw [b_neq (by omega), if_neg hac]
    by_cases h1 : df a c = 0
    · rw [b_eq (by unfold df at h1; omega), if_pos (.inl h1)]
    · rw [b_neq (by unfold df at h1; omega)]
      by_cases h2 : dr a c = 0
      · rw [b_eq (by unfold dr at h2; omega), if_pos (.inr h2)]
      · rw [b_neq (by unfold dr at h2; omega), if_neg (by omega)]
        by_cases h3 : df a c = dr a c
        · rw [b_eq (by unfold df dr at h3; omega), if_pos (.inl h3)]
        · rw [b_neq (by unfold df dr at h3; omega)]
          by_cases h4 : df a c = -dr a c
          · rw [b_eq (by unfold df dr at h4; omega), if_pos (.inr h4)]
          · rw [b_neq (by unfold df dr at h4; omega), if_neg (by omega)]
theorem line_end {a c : Nat} (ha : a < 81) (hc : c < 81) (h : lineS a c ≠ 0) : 1 ≤ mx a c ∧ mx a c ≤ 8 ∧ (c : Int) = a + (mx a c : Int) * stpD a c ∧ stpD a c ≠ 0 ∧ -10 ≤ stpD a c ∧ stpD a c ≤ 10 := by
  have hg := geo ha
  have hg2 := geo hc
  have hdf : df a c = fl c - fl a := rfl
  have hdr : dr a c = rn c - rn a := rfl
  unfold lineS at h
  split at h
  · exact absurd rfl h
  rename_i hac
  have hne : ¬ (df a c = 0 ∧ dr a c = 0) := fun hh => hac (geo_eq hh.1 hh.2)
  have hl : df a c = 0 ∨ dr a c = 0 ∨ df a c = dr a c ∨ df a c = -dr a c := by
    split at h
    · rename_i h1; rcases h1 with h1 | h1
      · exact .inl h1
      · exact .inr (.inl h1)
    · split at h
      · rename_i h1; rcases h1 with h1 | h1
        · exact .inr (.inr (.inl h1))
        · exact .inr (.inr (.inr h1))
      · exact absurd rfl h
  clear h
  unfold mx stpD sgn
  generalize df a c = d at *
  generalize dr a c = e at *
  rcases Int.lt_trichotomy d 0 with h1 | h1 | h1 <;> rcases Int.lt_trichotomy e 0 with h2 | h2 | h2
  all_goals simp (disch := omega) only [if_pos, if_neg]
  all_goals (refine ⟨by omega, by omega, by omega, by omega, by omega, by omega⟩)
theorem mid_range {a c D : Int} {m j : Nat} (hm : c = a + (m : Int) * D) (ha : 0 ≤ a ∧ a < 81) (hc : 0 ≤ c ∧ c < 81) (hj : j ≤ m) (_hD : -10 ≤ D ∧ D ≤ 10) : 0 ≤ a + (j : Int) * D ∧ a + (j : Int) * D < 81 := by
  have hj' : (j : Int) ≤ m := by omega
  rcases Int.le_total 0 D with h | h
  · have h1 : (0 : Int) ≤ (j : Int) * D := Int.mul_nonneg (by omega) h
    have h2 : (j : Int) * D ≤ (m : Int) * D := Int.mul_le_mul_of_nonneg_right hj' h
    omega
  · have h1 : (j : Int) * D ≤ 0 := Int.mul_nonpos_of_nonneg_of_nonpos (by omega) h
    have h2 : (m : Int) * D ≤ (j : Int) * D := Int.mul_le_mul_of_nonpos_right hj' h
    omega
theorem between_goes {a c : Nat} (ha : a < 81) (hc : c < 81) (h : lineS a c ≠ 0) : ∀ (n j : Nat), j + 1 + n = mx a c → ∀ F,
    ref04_Betweenl6 (F + n + 1) c j (stpD a c) ((a : Int) + ((j : Int) + 1) * stpD a c) j ((List.range j).map fun (j : Nat) => (a : Int) + ((j : Int) + 1) * stpD a c) =
      some (mx a c - 1, mx a c - 1, (List.range (mx a c - 1)).map fun (j : Nat) => (a : Int) + ((j : Int) + 1) * stpD a c) := by
  obtain ⟨m1, m8, hend, hD0, hD1, hD2⟩ := line_end ha hc h
  intro n
  induction n with
  | zero =>
    intro j hj F
    show ref04_Betweenl6s (ref04_Betweenl6 (F + 0)) _ _ _ _ _ _ = _
    unfold ref04_Betweenl6s
    have hjm : ((j : Int) + 1) = (mx a c : Int) := by omega
    rw [hjm, b_nne (by omega), show mx a c - 1 = j by omega]
  | succ n ih =>
    intro j hj F
    show ref04_Betweenl6s (ref04_Betweenl6 (F + n + 1)) _ _ _ _ _ _ = _
    unfold ref04_Betweenl6s
    have hne : ¬ (a : Int) + ((j : Int) + 1) * stpD a c = c := by
      rw [hend]
      intro hh
      have : ((j : Int) + 1) * stpD a c = (mx a c : Int) * stpD a c := by omega
      have := Int.eq_of_mul_eq_mul_right hD0 this
      omega
    have hr := mid_range (j := j + 1) hend (by omega) (by omega) (by omega) ⟨hD1, hD2⟩
    have hr2 := mid_range (j := j + 2) hend (by omega) (by omega) (by omega) ⟨hD1, hD2⟩
    have e2 : (a : Int) + ((j : Int) + 1) * stpD a c + stpD a c = (a : Int) + (((j + 1 : Nat) : Int) + 1) * stpD a c := by
      rw [show (((j + 1 : Nat) : Int) + 1) = ((j : Int) + 1) + 1 by omega, Int.add_mul ((j : Int) + 1), Int.one_mul]; omega
    have e3 : (((j + 2 : Nat) : Int)) = (((j + 1 : Nat) : Int) + 1) := by omega
    rw [e3] at hr2
    rw [b_ne hne, br_true (by simp; omega), e2, w_s (by omega) (by omega), app_take (by simp)]
    have e4 : (((List.range j).map fun (j : Nat) => (a : Int) + ((j : Int) + 1) * stpD a c) ++ [(a : Int) + ((j : Int) + 1) * stpD a c]) = (List.range (j + 1)).map fun (j : Nat) => (a : Int) + ((j : Int) + 1) * stpD a c := by
      rw [List.range_succ, List.map_append]; rfl
    rw [e4]
    exact ih (j + 1) (by omega) F
theorem btw_mem {a c : Nat} (ha : a < 81) (hc : c < 81) {s : Nat} (hs : s ∈ btw a c) : s < 81 := by
  unfold btw at hs
  split at hs
  · cases hs
  · rename_i h
    obtain ⟨m1, m8, hend, hD0, hD1, hD2⟩ := line_end ha hc h
    obtain ⟨j, hj, rfl⟩ := List.mem_map.1 hs
    rw [List.mem_range] at hj
    have hr := mid_range (j := j + 1) hend (by omega) (by omega) (by omega) ⟨hD1, hD2⟩
    rw [show (((j + 1 : Nat) : Int)) = (j : Int) + 1 by omega] at hr
    omega
theorem btw_len {a c : Nat} (ha : a < 81) (hc : c < 81) : (btw a c).length ≤ 7 := by
  unfold btw
  split
  · simp
  · rename_i h
    obtain ⟨m1, m8, _⟩ := line_end ha hc h
    simp; omega
theorem between_val {a c : Nat} (ha : a < 81) (hc : c < 81) : ref04_Between a c = some ((btw a c).length, (btw a c).length, (btw a c).map Int.ofNat) := by
  have hg := geo ha
  have hg2 := geo hc
  unfold ref04_Between
  rw [line_val ha hc, ob_some]
  by_cases h : lineS a c = 0
  · rw [b_eq h]
    unfold btw
    rw [if_pos h]
    rfl
  · obtain ⟨m1, m8, hend, hD0, hD1, hD2⟩ := line_end ha hc h
    have hs1 : -1 ≤ sgn (df a c) ∧ sgn (df a c) ≤ 1 := by unfold sgn; split <;> (try split) <;> omega
    have hs2 : -1 ≤ sgn (dr a c) ∧ sgn (dr a c) ≤ 1 := by unfold sgn; split <;> (try split) <;> omega
    rw [b_neq h]
    simp (disch := omega) only [tdiv9, tmod9', w_s, sign_val, ob_some]
    rw [show fl c - fl a = df a c from rfl, show rn c - rn a = dr a c from rfl, w_s (n := 9 * sgn (df a c)) (by omega) (by omega), show 9 * sgn (df a c) + sgn (dr a c) = stpD a c from rfl, w_s (n := stpD a c) (by omega) (by omega), w_s (n := (a : Int) + stpD a c) (by omega) (by omega)]
    obtain ⟨g, hgm⟩ := many_eq (mx a c - 1) (by omega)
    have := between_goes ha hc h (mx a c - 1) 0 (by omega) g
    rw [← hgm] at this
    have e0 : (a : Int) + (((0 : Nat) : Int) + 1) * stpD a c = a + stpD a c := by
      rw [show ((0 : Nat) : Int) + 1 = 1 from rfl, Int.one_mul]
    rw [e0] at this
    rw [show ref04_Betweenl6 many c 0 (stpD a c) ((a : Int) + stpD a c) 0 [] = _ from this, ob_some]
    unfold btw
    rw [if_neg h]
    simp only [List.length_map, List.length_range, List.map_map]
    congr 3
    apply List.map_congr_left
    intro j hj
    rw [List.mem_range] at hj
    have hr := mid_range (j := j + 1) hend (by omega) (by omega) (by omega) ⟨hD1, hD2⟩
    rw [show (((j + 1 : Nat) : Int)) = (j : Int) + 1 by omega] at hr
    show _ = Int.ofNat (Int.toNat _)
    simp only [Int.ofNat_eq_natCast]
    omega
def freeS (a c : Nat) (t : Nat → Bool) : Bool := (btw a c).all fun s => !t s
theorem free_goes (t : List Bool) (L : List Nat) (hL : ∀ s ∈ L, s < 81) (hl : L.length ≤ 100) (N : Nat) : ∀ (n i : Nat), i + n = L.length → ∀ F,
    ref04_Freel3 (F + n + 1) L.length i t N (L.map Int.ofNat) = some (if (L.drop i).all (fun s => !t.getD s false) then .inr () else .inl false) := by
  intro n
  induction n with
  | zero =>
    intro i hi F
    show ref04_Freel3s (ref04_Freel3 (F + 0)) _ _ _ _ _ = _
    unfold ref04_Freel3s
    rw [b_nlt (by simp; omega), List.drop_eq_nil_of_le (by omega)]
    rfl
  | succ n ih =>
    intro i hi F
    show ref04_Freel3s (ref04_Freel3 (F + n + 1)) _ _ _ _ _ = _
    unfold ref04_Freel3s
    have hil : i < L.length := by omega
    have hd : L.drop i = L[i] :: L.drop (i + 1) := List.drop_eq_getElem_cons hil
    have hget : (L.map Int.ofNat).getD i 0 = (L[i] : Int) := by
      rw [List.getD_eq_getElem?_getD, List.getElem?_map, List.getElem?_eq_getElem hil]; rfl
    have h81 := hL L[i] (List.getElem_mem hil)
    rw [b_lt (by simp; omega), b_in (by omega) (by omega), tn, hget, b_in (by omega) (by omega), tn, hd, List.all_cons, w_s (by omega) (by omega)]
    cases ht : t.getD L[i] false with
    | true => rfl
    | false =>
      rw [b_f, Bool.not_false, Bool.true_and]
      exact ih (i + 1) (by omega) F
theorem free_val {a c : Nat} (ha : a < 81) (hc : c < 81) (t : List Bool) : ref04_Free a c t = some (freeS a c fun s => t.getD s false) := by
  unfold ref04_Free
  rw [between_val ha hc, ob_some]
  simp only
  have hlen := btw_len ha hc
  obtain ⟨g, hg⟩ := many_eq (btw a c).length (by omega)
  have := free_goes t (btw a c) (fun s hs => btw_mem ha hc hs) (by omega) (btw a c).length (btw a c).length 0 (by omega) g
  rw [← hg] at this
  rw [show ref04_Freel3 many (btw a c).length 0 t (btw a c).length ((btw a c).map Int.ofNat) = _ from this, ob_some, List.drop_zero]
  unfold freeS
  cases (btw a c).all fun s => !t.getD s false <;> rfl
def slK (k d u : Int) : Prop := (k = 2 ∧ d = 0 ∧ 0 < u) ∨ ((k = 6 ∨ k = 14) ∧ ¬ (d = 0 ∧ u = 0) ∧ (d = u ∨ d = -u)) ∨ ((k = 7 ∨ k = 15) ∧ ¬ (d = 0 ∧ u = 0) ∧ (d = 0 ∨ u = 0))
instance (k d u : Int) : Decidable (slK k d u) := by unfold slK; infer_instance
def slideB (x : Int) (a c : Nat) : Bool := decide (slK (kd x) (df a c) (upS x a c))
def rch (x : Int) (a c : Nat) (t : Nat → Bool) : Bool := stepB x a c || (slideB x a c && freeS a c t)
theorem line_one {a c : Nat} : lineS a c = 1 ↔ (¬ (df a c = 0 ∧ dr a c = 0)) ∧ (df a c = 0 ∨ dr a c = 0) := by
  unfold lineS
  by_cases hac : a = c
  · subst hac
    have := geo_self a
    simp [this.1, this.2]
  · have : ¬ (df a c = 0 ∧ dr a c = 0) := fun h => hac (geo_eq h.1 h.2)
    rw [if_neg hac]
    split
    · rename_i h; simp [this, h]
    · rename_i h
      split <;> simp [h]
theorem line_two {a c : Nat} : lineS a c = 2 ↔ (¬ (df a c = 0 ∧ dr a c = 0)) ∧ (df a c = dr a c ∨ df a c = -dr a c) := by
  unfold lineS
  by_cases hac : a = c
  · subst hac
    have := geo_self a
    simp [this.1, this.2]
  · have : ¬ (df a c = 0 ∧ dr a c = 0) := fun h => hac (geo_eq h.1 h.2)
    rw [if_neg hac]
    split
    · rename_i h
      constructor
      · intro hh; omega
      · rintro ⟨h1, h2⟩; omega
    · rename_i h
      split
      · rename_i h2; simp [h2]; omega
      · rename_i h2; simp [h2]
theorem reach_val (x : Int) {a c : Nat} (ha : a < 81) (hc : c < 81) (t : List Bool) : ref04_Reaches x a c t = some (rch x a c fun s => t.getD s false) := by
  have hg := geo ha
  have hg2 := geo hc
  unfold ref04_Reaches
  rw [refStep_val x ha hc, ob_some]
  unfold rch
  cases hst : stepB x a c with
  | true => rfl
  | false =>
    rw [b_f, line_val ha hc, ob_some, refSide_val, ob_some, Bool.false_or]
    have l1 := line_one (a := a) (c := c)
    have l2 := line_two (a := a) (c := c)
    have hup : upS x a c = if sd x = 1 then dr a c else -dr a c := rfl
    have hdr : dr a c = rn c - rn a := rfl
    have hdf : df a c = fl c - fl a := rfl
    have fin : ∀ (p : Bool), p = slideB x a c → (br p (ob (ref04_Free a c t) fun a8 => some a8) (some false) : Option Bool) = some (slideB x a c && freeS a c fun s => t.getD s false) := by
      intro p hp
      rw [hp, free_val ha hc, ob_some]
      cases slideB x a c <;> rfl
    have sl : ∀ {p : Prop} [Decidable p], (p ↔ slK (kd x) (df a c) (upS x a c)) → decide p = slideB x a c := by
      intro p _ h
      unfold slideB
      rw [decide_eq_decide]; exact h
    have nsl : ¬ slK (kd x) (df a c) (upS x a c) → (some false : Option Bool) = some (slideB x a c && freeS a c fun s => t.getD s false) := by
      intro h
      have : slideB x a c = false := by unfold slideB; simpa using h
      rw [this]; rfl
    simp (disch := omega) only [tdiv9, tmod9', w_s, refKind_val, ob_some]
    have body : ∀ (u : Int), u = upS x a c → (br (kd x == 2)
         (br (lineS a c == 1)
          (br (fl a == fl c)
           (br (decide (u > 0))
            (ob (ref04_Free a c t) fun a8 =>
            some (a8))
            (some (false)))
           (some (false)))
          (some (false)))
         (br (kd x == 6)
          (br (lineS a c == 2)
           (ob (ref04_Free a c t) fun a8 =>
           some (a8))
           (some (false)))
          (br (kd x == 14)
           (br (lineS a c == 2)
            (ob (ref04_Free a c t) fun a8 =>
            some (a8))
            (some (false)))
           (br (kd x == 7)
            (br (lineS a c == 1)
             (ob (ref04_Free a c t) fun a8 =>
             some (a8))
             (some (false)))
            (br (kd x == 15)
             (br (lineS a c == 1)
              (ob (ref04_Free a c t) fun a8 =>
              some (a8))
              (some (false)))
             (some (false))))))  : Option Bool) = some (slideB x a c && freeS a c fun s => t.getD s false) := by
      intro u hu
      by_cases k2 : kd x = 2
      · rw [b_eq k2]
        by_cases h1 : lineS a c = 1
        · rw [b_eq h1]
          by_cases h3 : fl a = fl c
          · rw [b_eq h3]
            refine fin _ ?_
            exact sl (by unfold slK; rw [← hu]; omega)
          · rw [b_neq h3]
            exact nsl (by unfold slK; omega)
        · rw [b_neq h1]
          refine nsl (by
            rw [l1] at h1
            unfold slK
            split at hup <;> omega)
      · rw [b_neq k2]
        have two : (kd x = 6 ∨ kd x = 14) → (br (lineS a c == 2) (ob (ref04_Free a c t) fun a8 => some a8) (some false) : Option Bool) = some (slideB x a c && freeS a c fun s => t.getD s false) := by
          intro hk
          refine fin _ ?_
          have : (lineS a c == 2) = decide (lineS a c = 2) := by rw [Bool.eq_iff_iff]; simp
          rw [this]
          refine sl ?_
          rw [l2]
          unfold slK
          split at hup <;> omega
        have one : (kd x = 7 ∨ kd x = 15) → (br (lineS a c == 1) (ob (ref04_Free a c t) fun a8 => some a8) (some false) : Option Bool) = some (slideB x a c && freeS a c fun s => t.getD s false) := by
          intro hk
          refine fin _ ?_
          have : (lineS a c == 1) = decide (lineS a c = 1) := by rw [Bool.eq_iff_iff]; simp
          rw [this]
          refine sl ?_
          rw [l1]
          unfold slK
          split at hup <;> omega
        by_cases k6 : kd x = 6
        · rw [b_eq k6]; exact two (.inl k6)
        rw [b_neq k6]
        by_cases k14 : kd x = 14
        · rw [b_eq k14]; exact two (.inr k14)
        rw [b_neq k14]
        by_cases k7 : kd x = 7
        · rw [b_eq k7]; exact one (.inl k7)
        rw [b_neq k7]
        by_cases k15 : kd x = 15
        · rw [b_eq k15]; exact one (.inr k15)
        rw [b_neq k15]
        exact nsl (by unfold slK; omega)
    by_cases hs : sd x = 1
    · rw [b_eq hs]
      exact body _ (by rw [hup, if_pos hs]; omega)
    · rw [b_neq hs]
      exact body _ (by rw [hup, if_neg hs]; omega)
end Go.Kk.Pl
namespace Go.Kk.Pl
def rayL (dx dy : Int) : Nat → Int → List Nat
  | 0, _ => []
  | n + 1, p => if p < 0 then [] else p.toNat :: rayL dx dy n (fromS dx dy p.toNat)
def upto (t : Nat → Bool) : List Nat → Nat → Bool
  | [], _ => false
  | s :: L, c => decide (c = s) || (!t s && upto t L c)
def ends (dx dy : Int) : Nat → Int → Bool
  | 0, p => decide (p < 0)
  | n + 1, p => decide (p < 0) || ends dx dy n (fromS dx dy p.toNat)
theorem fromS_range (dx dy : Int) (a : Nat) : -1 ≤ fromS dx dy a ∧ fromS dx dy a < 81 := by unfold fromS; split <;> omega
theorem way_goes {dx dy : Int} (h1 : -8 ≤ dx) (h2 : dx ≤ 8) (h3 : -8 ≤ dy) (h4 : dy ≤ 8) (t : Nat → Bool) (u v : Int) : ∀ (n : Nat) (p : Int), -1 ≤ p → p < 81 → ends dx dy n p = true → ∀ (f : Nat → Bool) (F : Nat),
    ray_Wayl5 (F + n + 1) p dx dy (sLo t) (sHi t) u v (sLo f) (sHi f) = some (u, v, sLo fun c => f c || upto t (rayL dx dy n p) c, sHi fun c => f c || upto t (rayL dx dy n p) c) := by
  intro n
  induction n with
  | zero =>
    intro p hp0 hp1 he f F
    show ray_Wayl5s (ray_Wayl5 (F + 0)) _ _ _ _ _ _ _ _ _ = _
    unfold ray_Wayl5s
    simp only [ends, decide_eq_true_eq] at he
    rw [b_nge (by omega)]
    have : (fun c => f c || upto t (rayL dx dy 0 p) c) = f := by funext c; simp [rayL, upto]
    rw [this]
  | succ n ih =>
    intro p hp0 hp1 he f F
    show ray_Wayl5s (ray_Wayl5 (F + n + 1)) _ _ _ _ _ _ _ _ _ = _
    unfold ray_Wayl5s
    by_cases hp : p < 0
    · rw [b_nge (by omega)]
      have : (fun c => f c || upto t (rayL dx dy (n + 1) p) c) = f := by funext c; simp [rayL, upto, hp]
      rw [this]
    · obtain ⟨q, rfl⟩ : ∃ q : Nat, p = q := ⟨p.toNat, by omega⟩
      have hq : q < 81 := by omega
      rw [b_ge (by omega), with_val, ob_some]
      simp only
      rw [has_val, ob_some]
      have hhas : has t q = t q := by unfold has; simp; intro _; omega
      have hL : rayL dx dy (n + 1) q = q :: rayL dx dy n (fromS dx dy q) := by simp [rayL]
      rw [hhas, hL]
      cases ht : t q with
      | true =>
        rw [b_t]
        obtain ⟨e1, e2⟩ := set_congr (f := fun i => f i || only q i) (g := fun c => f c || upto t (q :: rayL dx dy n (fromS dx dy q)) c) fun c hc => by
          unfold upto only
          rw [ht]
          have : decide ((c : Int) = (q : Int)) = decide (c = q) := by rw [decide_eq_decide]; omega
          rw [this]; simp
        rw [e1, e2]
      | false =>
        rw [b_f, from_val h1 h2 h3 h4 hq, ob_some]
        obtain ⟨r1, r2⟩ := fromS_range dx dy q
        have he' : ends dx dy n (fromS dx dy q) = true := by
          simp only [ends, Bool.or_eq_true, decide_eq_true_eq] at he
          rcases he with he | he
          · omega
          · simpa using he
        refine (ih _ r1 r2 he' _ F).trans ?_
        obtain ⟨e1, e2⟩ := set_congr (f := fun c => (f c || only q c) || upto t (rayL dx dy n (fromS dx dy q)) c) (g := fun c => f c || upto t (q :: rayL dx dy n (fromS dx dy q)) c) fun c hc => by
          unfold only
          have : decide ((c : Int) = (q : Int)) = decide (c = q) := by rw [decide_eq_decide]; omega
          rw [this]
          show _ = (f c || (decide (c = q) || (!t q && upto t (rayL dx dy n (fromS dx dy q)) c)))
          rw [ht]
          simp [Bool.or_assoc]
        rw [e1, e2]
def wayL (dx dy : Int) (a : Nat) : List Nat := rayL dx dy 9 (fromS dx dy a)
theorem ends_all : ∀ (d : Fin 9) (a : Fin 81), (d.val = 4 ∨ ends ((d.val / 3 : Nat) - 1) ((d.val % 3 : Nat) - 1) 9 (fromS ((d.val / 3 : Nat) - 1) ((d.val % 3 : Nat) - 1) a.val) = true) := by decide +kernel
theorem way_val {dx dy : Int} (h1 : -1 ≤ dx) (h2 : dx ≤ 1) (h3 : -1 ≤ dy) (h4 : dy ≤ 1) (hne : ¬ (dx = 0 ∧ dy = 0)) {a : Nat} (ha : a < 81) (t : Nat → Bool) :
    ray_Way a dx dy (sLo t) (sHi t) = some (sLo (upto t (wayL dx dy a)), sHi (upto t (wayL dx dy a))) := by
  unfold ray_Way
  rw [br_false (by rw [Bool.and_eq_false_iff]; simp; omega), from_val (by omega) (by omega) (by omega) (by omega) ha, ob_some]
  obtain ⟨r1, r2⟩ := fromS_range dx dy a
  have he : ends dx dy 9 (fromS dx dy a) = true := by
    have := ends_all ⟨((dx + 1) * 3 + (dy + 1)).toNat, by omega⟩ ⟨a, ha⟩
    simp only at this
    rw [show (((((dx + 1) * 3 + (dy + 1)).toNat / 3 : Nat) : Int) - 1) = dx by omega, show (((((dx + 1) * 3 + (dy + 1)).toNat % 3 : Nat) : Int) - 1) = dy by omega] at this
    exact this.resolve_left (by omega)
  obtain ⟨g, hg⟩ := many_eq 9 (by omega)
  have := way_goes (by omega) (by omega) (by omega) (by omega) t 0 0 9 _ r1 r2 he (fun _ => false) g
  rw [← hg, sLo_false, sHi_false] at this
  rw [this, ob_some]
  simp only [Bool.false_or]
  rfl
def chkA (a c : Nat) : Bool := decide (lineS a c = 0) || ((wayL (sgn (df a c)) (sgn (dr a c)) a).take (btw a c).length == btw a c && ((wayL (sgn (df a c)) (sgn (dr a c)) a)[(btw a c).length]? == some c && !(btw a c).contains c))
def chkB (a : Nat) (dx dy : Int) : Bool := (wayL dx dy a).all fun c => decide (c < 81) && (decide (lineS a c ≠ 0) && (decide (sgn (df a c) = dx) && decide (sgn (dr a c) = dy)))
theorem chkA_all : ∀ (a c : Fin 81), chkA a.val c.val = true := by decide +kernel
theorem chkB_all : ∀ (d : Fin 9) (a : Fin 81), (d.val = 4 ∨ chkB a.val ((d.val / 3 : Nat) - 1) ((d.val % 3 : Nat) - 1) = true) := by decide +kernel
theorem upto_split (t : Nat → Bool) {c : Nat} : ∀ (P Q : List Nat), c ∉ P → upto t (P ++ c :: Q) c = P.all fun s => !t s
  | [], Q, _ => by simp [upto]
  | s :: P, Q, h => by
    simp only [List.mem_cons, not_or] at h
    show (decide (c = s) || (!t s && upto t (P ++ c :: Q) c)) = _
    rw [upto_split t P Q h.2, List.all_cons, show decide (c = s) = false by simpa using h.1, Bool.false_or]
theorem upto_none (t : Nat → Bool) {c : Nat} : ∀ (P : List Nat), c ∉ P → upto t P c = false
  | [], _ => rfl
  | s :: P, h => by
    simp only [List.mem_cons, not_or] at h
    show (decide (c = s) || (!t s && upto t P c)) = _
    rw [upto_none t P h.2, show decide (c = s) = false by simpa using h.1]; simp
def onW (dx dy : Int) (a c : Nat) : Bool := decide (lineS a c ≠ 0 ∧ sgn (df a c) = dx ∧ sgn (dr a c) = dy)
theorem upto_val {dx dy : Int} (h1 : -1 ≤ dx) (h2 : dx ≤ 1) (h3 : -1 ≤ dy) (h4 : dy ≤ 1) (hne : ¬ (dx = 0 ∧ dy = 0)) {a c : Nat} (ha : a < 81) (hc : c < 81) (t : Nat → Bool) :
    upto t (wayL dx dy a) c = (onW dx dy a c && freeS a c t) := by
  unfold onW
  by_cases h : lineS a c ≠ 0 ∧ sgn (df a c) = dx ∧ sgn (dr a c) = dy
  · obtain ⟨hl, rfl, rfl⟩ := h
    have := chkA_all ⟨a, ha⟩ ⟨c, hc⟩
    simp only [chkA, Bool.or_eq_true, decide_eq_true_eq, Bool.and_eq_true, beq_iff_eq, Bool.not_eq_true'] at this
    obtain ⟨e1, e2, e3⟩ := this.resolve_left hl
    have hlt : (btw a c).length < (wayL (sgn (df a c)) (sgn (dr a c)) a).length := getElem?_lt e2
    have hsp : wayL (sgn (df a c)) (sgn (dr a c)) a = btw a c ++ c :: (wayL (sgn (df a c)) (sgn (dr a c)) a).drop ((btw a c).length + 1) := by
      have := split_at e2
      rw [e1] at this
      exact this
    rw [hsp, upto_split t _ _ (by simpa using e3)]
    simp [hl, freeS]
  · have hn : c ∉ wayL dx dy a := by
      intro hm
      have := chkB_all ⟨((dx + 1) * 3 + (dy + 1)).toNat, by omega⟩ ⟨a, ha⟩
      simp only at this
      rw [show (((((dx + 1) * 3 + (dy + 1)).toNat / 3 : Nat) : Int) - 1) = dx by omega, show (((((dx + 1) * 3 + (dy + 1)).toNat % 3 : Nat) : Int) - 1) = dy by omega] at this
      have := this.resolve_left (by omega)
      unfold chkB at this
      rw [List.all_eq_true] at this
      have := this c hm
      simp only [Bool.and_eq_true, decide_eq_true_eq] at this
      exact h ⟨this.2.1, this.2.2.1, this.2.2.2⟩
    rw [upto_none t _ hn]
    rw [decide_eq_false h, Bool.false_and]
def rdirL (k : Int) : List (List Int) := if k = 2 then [[0, -1]] else if k = 6 ∨ k = 14 then [[-1, -1], [1, -1], [-1, 1], [1, 1]] else if k = 7 ∨ k = 15 then [[0, -1], [-1, 0], [1, 0], [0, 1]] else []
theorem rdirs_val (k : Int) : ray_Dirs k = some ((rdirL k).length, (rdirL k).length, rdirL k) := by
  unfold ray_Dirs rdirL
  by_cases h2 : k = 2
  · rw [b_eq h2, if_pos h2]; rfl
  rw [b_neq h2, if_neg h2]
  by_cases h6 : k = 6
  · rw [b_eq h6, if_pos (.inl h6)]; rfl
  rw [b_neq h6]
  by_cases h14 : k = 14
  · rw [b_eq h14, if_pos (.inr h14)]; rfl
  rw [b_neq h14, if_neg (by omega)]
  by_cases h7 : k = 7
  · rw [b_eq h7, if_pos (.inl h7)]; rfl
  rw [b_neq h7]
  by_cases h15 : k = 15
  · rw [b_eq h15, if_pos (.inr h15)]; rfl
  rw [b_neq h15, if_neg (by omega)]; rfl
theorem rdirL_ok (k : Int) : (rdirL k).length ≤ 8 ∧ ∀ r ∈ rdirL k, r.length ≤ 2 ∧ -1 ≤ dx_ r ∧ dx_ r ≤ 1 ∧ -1 ≤ dy_ r ∧ dy_ r ≤ 1 ∧ ¬ (dx_ r = 0 ∧ dy_ r = 0) := by
  have h1 : ∀ r ∈ [[0, -1]], (r : List Int).length ≤ 2 ∧ -1 ≤ dx_ r ∧ dx_ r ≤ 1 ∧ -1 ≤ dy_ r ∧ dy_ r ≤ 1 ∧ ¬ (dx_ r = 0 ∧ dy_ r = 0) := by decide
  have h2 : ∀ r ∈ [[-1, -1], [1, -1], [-1, 1], [1, 1]], (r : List Int).length ≤ 2 ∧ -1 ≤ dx_ r ∧ dx_ r ≤ 1 ∧ -1 ≤ dy_ r ∧ dy_ r ≤ 1 ∧ ¬ (dx_ r = 0 ∧ dy_ r = 0) := by decide
  have h3 : ∀ r ∈ [[0, -1], [-1, 0], [1, 0], [0, 1]], (r : List Int).length ≤ 2 ∧ -1 ≤ dx_ r ∧ dx_ r ≤ 1 ∧ -1 ≤ dy_ r ∧ dy_ r ≤ 1 ∧ ¬ (dx_ r = 0 ∧ dy_ r = 0) := by decide
  unfold rdirL
  split
  · exact ⟨by decide, h1⟩
  · split
    · exact ⟨by decide, h2⟩
    · split
      · exact ⟨by decide, h3⟩
      · exact ⟨by decide, fun r hr => by cases hr⟩
def anyW (x : Int) (L : List (List Int)) (a c : Nat) : Bool := L.any fun r => onW (sg x * dx_ r) (sg x * dy_ r) a c
theorem rayOf_goes {x : Int} {a : Nat} (ha : a < 81) (t : Nat → Bool) (L : List (List Int)) (hlen : L.length ≤ 8) (hr : ∀ r ∈ L, r.length ≤ 2 ∧ -1 ≤ dx_ r ∧ dx_ r ≤ 1 ∧ -1 ≤ dy_ r ∧ dy_ r ≤ 1 ∧ ¬ (dx_ r = 0 ∧ dy_ r = 0)) (N : Nat) (u v : Int) :
    ∀ (n i : Nat), i + n = L.length → ∀ (f : Nat → Bool) (F : Nat), ray_Ofl3 (F + n + 1) x a L.length (Int.ofNat L.length) i (sLo t) (sHi t) u v (sLo f) (sHi f) N L =
      some (u, v, sLo fun c => f c || (anyW x (L.drop i) a c && freeS a c t), sHi fun c => f c || (anyW x (L.drop i) a c && freeS a c t)) := by
  intro n
  induction n with
  | zero =>
    intro i hi f F
    show ray_Ofl3s (ray_Ofl3 (F + 0)) _ _ _ _ _ _ _ _ _ _ _ _ _ = _
    unfold ray_Ofl3s
    rw [b_nlt (by simp; omega), List.drop_eq_nil_of_le (by omega)]
    have : (fun c => f c || (anyW x [] a c && freeS a c t)) = f := by funext c; simp [anyW]
    rw [this]
  | succ n ih =>
    intro i hi f F
    show ray_Ofl3s (ray_Ofl3 (F + n + 1)) _ _ _ _ _ _ _ _ _ _ _ _ _ = _
    unfold ray_Ofl3s
    have hil : i < L.length := by omega
    have hget : L.getD i [] = L[i] := by rw [List.getD_eq_getElem?_getD, List.getElem?_eq_getElem hil]; rfl
    obtain ⟨r0, r1, r2, r3, r4, r5⟩ := hr L[i] (List.getElem_mem hil)
    have ht : List.take 2 L[i] = L[i] := List.take_of_length_le r0
    have hs := sg_cases x
    have c1 : -1 ≤ sg x * dx_ L[i] ∧ sg x * dx_ L[i] ≤ 1 ∧ -1 ≤ sg x * dy_ L[i] ∧ sg x * dy_ L[i] ≤ 1 ∧ ¬ (sg x * dx_ L[i] = 0 ∧ sg x * dy_ L[i] = 0) := by
      rcases hs with h | h <;> rw [h] <;> omega
    rw [b_lt (by simp; omega), b_in (by omega) (by omega), tn, hget, ht, side_val, ob_some]
    show ob (step_Dir_Turn (dx_ L[i]) (dy_ L[i]) (sd x)) _ = _
    rw [turn_val (by omega), ob_some]
    simp only
    rw [way_val c1.1 c1.2.1 c1.2.2.1 c1.2.2.2.1 c1.2.2.2.2 ha, ob_some]
    simp only
    rw [or_val, ob_some]
    simp only
    rw [w_s (by omega) (by omega)]
    refine (ih (i + 1) (by omega) _ F).trans ?_
    have hd : L.drop i = L[i] :: L.drop (i + 1) := List.drop_eq_getElem_cons hil
    obtain ⟨e1, e2⟩ := set_congr (f := fun c => (f c || upto t (wayL (sg x * dx_ L[i]) (sg x * dy_ L[i]) a) c) || (anyW x (L.drop (i + 1)) a c && freeS a c t)) (g := fun c => f c || (anyW x (L.drop i) a c && freeS a c t)) fun c hc => by
      rw [upto_val c1.1 c1.2.1 c1.2.2.1 c1.2.2.2.1 c1.2.2.2.2 ha hc, hd]
      unfold anyW
      rw [List.any_cons, Bool.and_or_distrib_right, Bool.or_assoc]
    rw [e1, e2]
def lieS (d e : Int) : Prop := ¬ (d = 0 ∧ e = 0) ∧ (d = 0 ∨ e = 0 ∨ d = e ∨ d = -e)
instance (d e : Int) : Decidable (lieS d e) := by unfold lieS; infer_instance
theorem line_lie (a c : Nat) : lineS a c ≠ 0 ↔ lieS (df a c) (dr a c) := by
  unfold lieS lineS
  by_cases hac : a = c
  · subst hac
    have := geo_self a
    simp [this.1, this.2]
  · have : ¬ (df a c = 0 ∧ dr a c = 0) := fun h => hac (geo_eq h.1 h.2)
    rw [if_neg hac]
    split
    · rename_i h; constructor
      · intro _; exact ⟨this, by omega⟩
      · intro _; omega
    · split
      · constructor
        · intro _; exact ⟨this, by omega⟩
        · intro _; omega
      · constructor
        · intro h; omega
        · rintro ⟨_, h⟩; omega
theorem anyW_all : ∀ (k : Fin 16) (d e : Fin 17), (rdirL ((k.val : Nat) : Int)).any (fun r => decide (lieS ((d.val : Int) - 8) ((e.val : Int) - 8) ∧ sgn ((d.val : Int) - 8) = dx_ r ∧ sgn ((e.val : Int) - 8) = dy_ r)) = decide (slK ((k.val : Nat) : Int) ((d.val : Int) - 8) (-((e.val : Int) - 8))) := by decide +kernel
theorem anyW_sym : ∀ (k : Fin 16) (d e : Fin 17), (rdirL ((k.val : Nat) : Int)).any (fun r => decide (lieS ((d.val : Int) - 8) ((e.val : Int) - 8) ∧ sgn ((d.val : Int) - 8) = -(dx_ r) ∧ sgn ((e.val : Int) - 8) = -(dy_ r))) = decide (slK ((k.val : Nat) : Int) ((d.val : Int) - 8) ((e.val : Int) - 8)) := by decide +kernel
theorem anyW_val (x : Int) {a c : Nat} (ha : a < 81) (hc : c < 81) : anyW x (rdirL (kd x)) a c = slideB x a c := by
  obtain ⟨k0, k1, _⟩ := kd_bounds x
  have hr := upS_range (x := x) ha hc
  have hl := line_lie a c
  unfold slideB anyW onW sg upS
  by_cases hs : sd x = 1
  · simp only [hs, if_true]
    have := anyW_sym ⟨(kd x).toNat, by omega⟩ ⟨(df a c + 8).toNat, by omega⟩ ⟨(dr a c + 8).toNat, by omega⟩
    simp only [show (((kd x).toNat : Nat) : Int) = kd x by omega, show (((df a c + 8).toNat : Nat) : Int) - 8 = df a c by omega, show (((dr a c + 8).toNat : Nat) : Int) - 8 = dr a c by omega] at this
    rw [← this]
    congr 1
    funext r
    rw [decide_eq_decide, hl]
    constructor <;> (rintro ⟨h1, h2, h3⟩; refine ⟨h1, ?_, ?_⟩ <;> omega)
  · simp only [hs, if_false]
    have := anyW_all ⟨(kd x).toNat, by omega⟩ ⟨(df a c + 8).toNat, by omega⟩ ⟨(dr a c + 8).toNat, by omega⟩
    simp only [show (((kd x).toNat : Nat) : Int) = kd x by omega, show (((df a c + 8).toNat : Nat) : Int) - 8 = df a c by omega, show (((dr a c + 8).toNat : Nat) : Int) - 8 = dr a c by omega] at this
    rw [← this]
    congr 1
    funext r
    rw [decide_eq_decide, hl]
    constructor <;> (rintro ⟨h1, h2, h3⟩; refine ⟨h1, ?_, ?_⟩ <;> omega)
theorem rayOf_val (x : Int) {a : Nat} (ha : a < 81) (t : Nat → Bool) : ray_Of x a (sLo t) (sHi t) = some (sLo (fun c => rch x a c t), sHi fun c => rch x a c t) := by
  obtain ⟨hlen, hrs⟩ := rdirL_ok (kd x)
  obtain ⟨g, hg⟩ := many_eq (rdirL (kd x)).length (by omega)
  have := rayOf_goes (x := x) ha t (rdirL (kd x)) hlen hrs (rdirL (kd x)).length 0 0 (rdirL (kd x)).length 0 (by omega) (stepB x a) g
  rw [← hg] at this
  unfold ray_Of
  rw [stepOf_val x ha, ob_some]
  simp only
  rw [kind_val, ob_some, rdirs_val, ob_some]
  simp only
  rw [show ray_Ofl3 many x a (rdirL (kd x)).length (Int.ofNat (rdirL (kd x)).length) 0 (sLo t) (sHi t) 0 0 (sLo (stepB x a)) (sHi (stepB x a)) (rdirL (kd x)).length (rdirL (kd x)) = _ from this, ob_some]
  simp only
  obtain ⟨e1, e2⟩ := set_congr (f := fun c => stepB x a c || (anyW x (List.drop 0 (rdirL (kd x))) a c && freeS a c t)) (g := fun c => rch x a c t) fun c hc => by
    rw [List.drop_zero, anyW_val x ha hc]
    rfl
  rw [e1, e2]
end Go.Kk.Pl
namespace Go.Kk.Pl
theorem back_all : ∀ (a c : Fin 81), (btw a.val c.val).all (fun s => (btw c.val a.val).contains s) = true := by decide +kernel
theorem btw_back {a c : Nat} (ha : a < 81) (hc : c < 81) {s : Nat} (hs : s ∈ btw a c) : s ∈ btw c a := by
  have := back_all ⟨a, ha⟩ ⟨c, hc⟩
  rw [List.all_eq_true] at this
  simpa using this s hs
theorem free_iff {a c : Nat} {t : Nat → Bool} : freeS a c t = true ↔ ∀ s ∈ btw a c, t s = false := by simp [freeS]
theorem free_back {a c : Nat} (ha : a < 81) (hc : c < 81) (t : Nat → Bool) : freeS a c t = freeS c a t := by
  rw [Bool.eq_iff_iff, free_iff, free_iff]
  exact ⟨fun h s hs => h s (btw_back hc ha hs), fun h s hs => h s (btw_back ha hc hs)⟩
theorem free_congr {a c : Nat} (ha : a < 81) (hc : c < 81) {t t' : Nat → Bool} (h : ∀ s, s < 81 → t s = t' s) : freeS a c t = freeS a c t' := by
  rw [Bool.eq_iff_iff, free_iff, free_iff]
  exact ⟨fun hh s hs => by rw [← h s (btw_mem ha hc hs)]; exact hh s hs, fun hh s hs => by rw [h s (btw_mem ha hc hs)]; exact hh s hs⟩
theorem rch_congr {x : Int} {a c : Nat} (ha : a < 81) (hc : c < 81) {t t' : Nat → Bool} (h : ∀ s, s < 81 → t s = t' s) : rch x a c t = rch x a c t' := by
  unfold rch; rw [free_congr ha hc h]
theorem sd_pc {s k : Int} (hs : s = 0 ∨ s = 1) (h1 : 1 ≤ k) (h2 : k ≤ 15) (h3 : k ≠ 13) : sd (pc s k) = s ∧ kd (pc s k) = k := by
  rw [pc_ok hs h1 h2 h3]
  have hk := kd_of hs h1 h2 h3
  refine ⟨?_, hk⟩
  unfold sd
  rw [hk, if_neg (by omega)]
  rcases hs with rfl | rfl
  · rw [if_pos (by omega)]
  · rw [if_neg (by omega)]
theorem stpK_neg (k d u : Int) : stpK k (-d) u ↔ stpK k d u := by
  unfold stpK
  exact or_congr (by omega) (or_congr (by omega) (or_congr (by omega) (or_congr (by omega) (or_congr (by omega) (or_congr (by omega) (by omega))))))
theorem slK_neg (k d u : Int) : slK k (-d) u ↔ slK k d u := by
  unfold slK
  exact or_congr (by omega) (or_congr (by omega) (by omega))
theorem rch_turn {s k : Int} (hs : s = 0 ∨ s = 1) (h1 : 1 ≤ k) (h2 : k ≤ 15) (h3 : k ≠ 13) {a c : Nat} (ha : a < 81) (hc : c < 81) (t : Nat → Bool) :
    rch (pc (1 - s) k) a c t = rch (pc s k) c a t := by
  obtain ⟨e1, e2⟩ := sd_pc hs h1 h2 h3
  obtain ⟨e3, e4⟩ := sd_pc (s := 1 - s) (by omega) h1 h2 h3
  have hd : df a c = -df c a := by unfold df; omega
  have hr : dr a c = -dr c a := by unfold dr; omega
  have hu : upS (pc (1 - s) k) a c = upS (pc s k) c a := by
    unfold upS
    rw [e1, e3]
    rcases hs with rfl | rfl
    · rw [if_pos (by omega), if_neg (by omega)]; exact hr
    · rw [if_neg (by omega), if_pos (by omega), hr]; omega
  unfold rch stepB slideB
  rw [e2, e4, hu, free_back ha hc]
  have s1 : decide (stpK k (df a c) (upS (pc s k) c a)) = decide (stpK k (df c a) (upS (pc s k) c a)) := by
    rw [decide_eq_decide, hd]; exact stpK_neg _ _ _
  have s2 : decide (slK k (df a c) (upS (pc s k) c a)) = decide (slK k (df c a) (upS (pc s k) c a)) := by
    rw [decide_eq_decide, hd]; exact slK_neg _ _ _
  rw [s1, s2]
theorem pc_of {x : Int} (h : kd x ≠ 0) : x = pc (sd x) (kd x) := by
  obtain ⟨k0, k1, k2⟩ := kd_bounds x
  have hs := sd_range h
  rw [pc_ok hs (by omega) k1 k2]
  have hr := kd_range h
  unfold sd kd at *
  rw [if_neg h]
  split at h
  · omega
  · rename_i hh
    rw [if_neg hh]
    split <;> omega
def onF (b : List Int) (q : Nat) (s : Int) (t : Nat → Bool) (i : Int) (c : Nat) : Bool := decide (sd (b.getD c 0) = s ∧ i ≤ kd (b.getD c 0)) && rch (b.getD c 0) c q t
theorem att_goes {b : List Int} (h : List Int) (S : Int) (sd' : List (List Int)) {s : Int} (hs : s = 0 ∨ s = 1) {q : Nat} (hq : q < 81) (t : Nat → Bool) (u v : Int) : ∀ (n : Nat) (k : Int), k = 16 - n → n ≤ 15 → ∀ (f : Nat → Bool) (F : Nat),
    attack_Onl5 (F + n + 1) q s k b h S (byOf b) sd' (sLo t) (sHi t) u v (sLo f) (sHi f) = some (b, h, S, byOf b, sd', u, v, sLo fun c => f c || onF b q s t k c, sHi fun c => f c || onF b q s t k c) := by
  intro n
  induction n with
  | zero =>
    intro k hk _ f F
    show attack_Onl5s (attack_Onl5 (F + 0)) _ _ _ _ _ _ _ _ _ _ _ _ _ _ = _
    unfold attack_Onl5s
    rw [b_nle (by omega)]
    have : (fun c => f c || onF b q s t k c) = f := by
      funext c
      have := (kd_bounds (b.getD c 0)).2.1
      unfold onF
      rw [decide_eq_false (by omega)]
      simp
    rw [this]
  | succ n ih =>
    intro k hk hn f F
    show attack_Onl5s (attack_Onl5 (F + n + 1)) _ _ _ _ _ _ _ _ _ _ _ _ _ _ = _
    unfold attack_Onl5s
    rw [b_le (by omega), w_s (n := 1 - s) (by omega) (by omega), of_gen, ob_some, w_s (n := k + 1) (by omega) (by omega)]
    by_cases h13 : k = 13
    · have hz : pc (1 - s) k = 0 := pc_none (by omega)
      rw [b_eq hz]
      refine (ih (k + 1) (by omega) (by omega) f F).trans ?_
      have : (fun c => f c || onF b q s t (k + 1) c) = fun c => f c || onF b q s t k c := by
        funext c
        have := (kd_bounds (b.getD c 0)).2.2
        unfold onF
        congr 2
        rw [decide_eq_decide]
        omega
      rw [this]
    · have hp := pc_ok (s := 1 - s) (k := k) (by omega) (by omega) (by omega) h13
      rw [b_neq (by rw [hp]; omega), rayOf_val _ hq, ob_some]
      simp only
      rw [ofB_val, ob_some]
      simp only
      rw [and_val, ob_some]
      simp only
      rw [or_val, ob_some]
      simp only
      refine (ih (k + 1) (by omega) (by omega) _ F).trans ?_
      obtain ⟨e1, e2⟩ := set_congr (f := fun c => (f c || (rch (pc (1 - s) k) q c t && pcs b (pc s k) c)) || onF b q s t (k + 1) c) (g := fun c => f c || onF b q s t k c) fun c hc => by
        rw [rch_turn hs (by omega) (by omega) h13 hq hc, Bool.or_assoc]
        congr 1
        obtain ⟨g1, g2⟩ := sd_pc hs (by omega) (by omega) h13
        have hne : pc s k ≠ 0 := by rw [pc_ok hs (by omega) (by omega) h13]; omega
        unfold onF pcs
        by_cases hx : b.getD c 0 = pc s k
        · rw [hx, g1, g2, decide_eq_true (show pc s k ≠ 0 ∧ pc s k = pc s k from ⟨hne, rfl⟩), decide_eq_false (by omega), decide_eq_true (by omega)]
          simp
        · rw [decide_eq_false (p := pc s k ≠ 0 ∧ b.getD c 0 = pc s k) (by omega), Bool.and_false, Bool.false_or]
          congr 1
          rw [decide_eq_decide]
          constructor
          · rintro ⟨h1, h2⟩; exact ⟨h1, by omega⟩
          · rintro ⟨h1, h2⟩
            refine ⟨h1, ?_⟩
            rcases Int.lt_or_eq_of_le h2 with h3 | h3
            · omega
            · exfalso
              apply hx
              have hk0 : kd (b.getD c 0) ≠ 0 := by omega
              have := pc_of hk0
              rw [h1, ← h3] at this
              exact this
      rw [e1, e2]
def onS (b : List Int) (q s : Int) (t : Nat → Bool) (c : Nat) : Bool := decide (0 ≤ q ∧ q < 81) && (decide (s = 0 ∨ s = 1) && (decide (sd (b.getD c 0) = s) && rch (b.getD c 0) c q.toNat t))
theorem onF_one (b : List Int) {s : Int} (hs : s = 0 ∨ s = 1) (q : Nat) (hq : q < 81) (t : Nat → Bool) : onF b q s t 1 = onS b q s t := by
  funext c
  unfold onF onS
  rw [decide_eq_true (show (0 : Int) ≤ q ∧ (q : Int) < 81 by omega), decide_eq_true hs, Bool.true_and, Bool.true_and]
  congr 1
  rw [decide_eq_decide]
  constructor
  · exact fun h => h.1
  · intro h
    refine ⟨h, ?_⟩
    have := (kd_bounds (b.getD c 0)).1
    rcases Int.lt_or_eq_of_le this with h1 | h1
    · omega
    · rw [sd_none h1.symm] at h; omega
theorem onP_val (b h : List Int) (S : Int) (sd' : List (List Int)) (q s : Int) (t : Nat → Bool) : attack_On q s (sLo t) (sHi t) b h S (byOf b) sd' = some (sLo (onS b q s t), sHi (onS b q s t)) := by
  have none : ¬ ((0 ≤ q ∧ q < 81) ∧ (s = 0 ∨ s = 1)) → onS b q s t = fun _ => false := by
    intro hn
    funext c
    unfold onS
    by_cases h1 : 0 ≤ q ∧ q < 81
    · rw [decide_eq_false (p := s = 0 ∨ s = 1) (fun h2 => hn ⟨h1, h2⟩)]; simp
    · rw [decide_eq_false h1]; simp
  unfold attack_On
  by_cases h0 : q < 0
  · rw [b_lt h0, none (by omega), sLo_false, sHi_false]
  rw [b_nlt h0]
  by_cases h1 : q ≥ 81
  · rw [b_ge h1, none (by omega), sLo_false, sHi_false]
  rw [b_nge h1]
  obtain ⟨a, rfl⟩ : ∃ a : Nat, q = a := ⟨q.toNat, by omega⟩
  obtain ⟨g, hg⟩ := many_eq 15 (by omega)
  have main : (s = 0 ∨ s = 1) → attack_Onl5 many a s 1 b h S (byOf b) sd' (sLo t) (sHi t) 0 0 0 0 = some (b, h, S, byOf b, sd', 0, 0, sLo (onS b a s t), sHi (onS b a s t)) := by
    intro hs
    have := att_goes (b := b) h S sd' hs (q := a) (by omega) t 0 0 15 1 (by omega) (by omega) (fun _ => false) g
    rw [← hg, sLo_false, sHi_false] at this
    rw [this, onF_one b hs a (by omega)]
    simp only [Bool.false_or]
  by_cases h2 : s = 0
  · rw [b_nne h2, main (.inl h2), ob_some]
  · rw [b_ne h2]
    by_cases h3 : s = 1
    · rw [b_nne h3, main (.inr h3), ob_some]
    · rw [b_ne h3, none (by omega), sLo_false, sHi_false]
def kg (b : List Int) (s : Int) : Int := fst (pcs b (pc s 8))
def chs (b : List Int) (s : Int) : Nat → Bool := onS b (kg b s) (1 - s) (tk b)
def inC (b : List Int) (s : Int) : Bool := !isE (chs b s)
theorem fst_range (f : Nat → Bool) : -1 ≤ fst f ∧ fst f < 81 := by
  unfold fst
  split
  · rename_i i hi
    have := List.mem_of_find?_eq_some hi
    rw [List.mem_range] at this
    omega
  · omega
theorem checkers_val {b : List Int} (hc : Clean b) (h : List Int) (S : Int) {s : Int} (hs : -10 ≤ s ∧ s ≤ 10) : attack_Checkers s b h S (byOf b) (sidesOf b) = some (sLo (chs b s), sHi (chs b s)) := by
  unfold attack_Checkers
  rw [kingB_val, ob_some, takenB_val hc, ob_some]
  simp only
  rw [w_s (by omega) (by omega), onP_val, ob_some]
  rfl
theorem inCheck_val {b : List Int} (hc : Clean b) (h : List Int) (S : Int) {s : Int} (hs : -10 ≤ s ∧ s ≤ 10) : attack_InCheck s b h S (byOf b) (sidesOf b) = some (inC b s) := by
  unfold attack_InCheck
  rw [checkers_val hc h S hs, ob_some]
  simp only
  rw [empty_val, ob_some]
  rfl
theorem chk_zero_clean {b h : List Int} {s : Int} (hl : b.length = 81) (hz : chkS b h s = 0) : Clean b ∧ (s = 0 ∨ s = 1) := by
  unfold chkS at hz
  split at hz
  · omega
  · rename_i hs
    split at hz
    · omega
    · rename_i hb
      exact ⟨bad_clean hl (by simpa using hb), by omega⟩
def atkS (b h : List Int) (s : Int) : Int := if chkS b h s ≠ 0 then chkS b h s else if inC b (1 - s) then 54 else 0
theorem attackCheck_val {b h : List Int} (hl : b.length = 81) (hf : Fits8 h) (s : Int) : attack_Check b h s = some (atkS b h s) := by
  unfold attack_Check atkS
  rw [check_full hl hf, ob_some]
  by_cases hz : chkS b h s = 0
  · obtain ⟨hc, hs⟩ := chk_zero_clean hl hz
    rw [b_nne hz, if_neg (by simpa using hz), new_full hl, ob_some, cl_id hc]
    simp only
    rw [w_s (by omega) (by omega), inCheck_val hc h s (by omega), ob_some]
    cases inC b (1 - s) <;> rfl
  · rw [b_ne hz, if_pos hz]
def tkL (b : List Int) (i : Nat) : List Bool := (List.range 81).map fun j => decide (j < i) && tk b j
theorem taken_goes (b h : List Int) (s : Int) (w : List Bool) : ∀ (n i : Nat), i + n = 81 → ∀ F, ref05_Takenl3 (F + n + 1) i b h s w (tkL b i) = some (w, tkL b 81) := by
  intro n
  induction n with
  | zero =>
    intro i hi F
    show ref05_Takenl3s (ref05_Takenl3 (F + 0)) _ _ _ _ _ _ = _
    unfold ref05_Takenl3s
    rw [b_nlt (by omega), show i = 81 by omega]
  | succ n ih =>
    intro i hi F
    show ref05_Takenl3s (ref05_Takenl3 (F + n + 1)) _ _ _ _ _ _ = _
    unfold ref05_Takenl3s
    have e : List.set (tkL b i) i (b.getD i 0 != 0) = tkL b (i + 1) := by
      unfold tkL
      rw [map_set]
      apply List.map_congr_left
      intro j _
      split
      · rename_i hj; subst hj
        rw [decide_eq_true (show j < j + 1 by omega), Bool.true_and]
        unfold tk
        rw [Bool.eq_iff_iff]; simp
      · rename_i hj
        congr 1
        rw [decide_eq_decide]; omega
    rw [b_lt (by omega), b_in (by omega) (by omega), b_in (by omega) (by omega), tn, e, w_s (by omega) (by omega)]
    exact ih (i + 1) (by omega) F
theorem tkL_zero (b : List Int) : tkL b 0 = List.replicate 81 false := by
  unfold tkL
  apply List.ext_getElem
  · simp
  · intro i h1 h2
    rw [List.getElem_map, List.getElem_replicate, decide_eq_false (by omega), Bool.false_and]
def takenL (b : List Int) : List Bool := tkL b 81
theorem taken_val (b h : List Int) (s : Int) : ref05_Taken b h s = some (takenL b) := by
  obtain ⟨g, hg⟩ := many_eq 81 (by omega)
  have := taken_goes b h s (List.replicate 81 false) 81 0 (by omega) g
  rw [← hg, tkL_zero] at this
  unfold ref05_Taken
  show ob (ref05_Takenl3 many 0 b h s (List.replicate 81 false) (List.replicate 81 false)) _ = _
  rw [show ref05_Takenl3 many 0 b h s (List.replicate 81 false) (List.replicate 81 false) = _ from this, ob_some]
  rfl
theorem takenL_get (b : List Int) {i : Nat} (h : i < 81) : (takenL b).getD i false = tk b i := by
  unfold takenL tkL
  rw [map_getD _ h, decide_eq_true h, Bool.true_and]
theorem reachT_val (b : List Int) (x : Int) {a c : Nat} (ha : a < 81) (hc : c < 81) : ref04_Reaches x a c (takenL b) = some (rch x a c (tk b)) := by
  rw [reach_val x ha hc, rch_congr ha hc fun s hs => takenL_get b hs]
theorem rking_goes (b h : List Int) (S : Int) {s : Int} (hs : s = 0 ∨ s = 1) : ∀ (n i : Nat), i + n = 81 → (∀ j, j < i → pcs b (pc s 8) j = false) → ∀ F, ref08_Kingl2 (F + n + 1) s i b h S = some (if kg b s = -1 then .inr () else .inl (kg b s)) := by
  have hp : pc s 8 = 16 * s + 8 := pc_ok hs (by omega) (by omega) (by omega)
  intro n
  induction n with
  | zero =>
    intro i hi hj F
    show ref08_Kingl2s (ref08_Kingl2 (F + 0)) _ _ _ _ _ = _
    unfold ref08_Kingl2s
    have : kg b s = -1 := fst_none fun j hj' => hj j (by omega)
    rw [b_nlt (by omega), if_pos this]
  | succ n ih =>
    intro i hi hj F
    show ref08_Kingl2s (ref08_Kingl2 (F + n + 1)) _ _ _ _ _ = _
    unfold ref08_Kingl2s
    rw [b_lt (by omega), b_in (by omega) (by omega), tn, c_8, w_s (n := 16 * s) (by omega) (by omega), w_s (n := 16 * s + 8) (by omega) (by omega), w_s (by omega) (by omega), ← hp]
    by_cases hx : b.getD i 0 = pc s 8
    · have hk : pcs b (pc s 8) i = true := by unfold pcs; rw [decide_eq_true]; exact ⟨by rw [hp]; omega, hx⟩
      have : kg b s = i := fst_some (by omega) hk hj
      rw [b_eq hx, this, if_neg (by omega)]
    · rw [b_neq hx]
      refine ih (i + 1) (by omega) (fun j hj' => ?_) F
      by_cases hji : j = i
      · subst hji; unfold pcs; rw [decide_eq_false]; exact fun hh => hx hh.2
      · exact hj j (by omega)
theorem rking_val (b h : List Int) (S : Int) {s : Int} (hs : s = 0 ∨ s = 1) : ref08_King b h S s = some (kg b s) := by
  obtain ⟨g, hg⟩ := many_eq 81 (by omega)
  have := rking_goes b h S hs 81 0 (by omega) (fun j hj => absurd hj (by omega)) g
  rw [← hg] at this
  unfold ref08_King
  rw [show ref08_Kingl2 many s 0 b h S = _ from this, ob_some]
  split
  · rename_i hk; rw [hk]; rfl
  · rfl
theorem rin_goes (b h : List Int) (S s : Int) (hs : s = 0 ∨ s = 1) (k : Nat) (hk : k < 81) : ∀ (n i : Nat), i + n = 81 → ∀ F,
    ref08_InCheckl6 (F + n + 1) s k i b h S (takenL b) = some (if (List.range' i n).any (onS b k (1 - s) (tk b)) then .inl true else .inr ()) := by
  intro n
  induction n with
  | zero =>
    intro i hi F
    show ref08_InCheckl6s (ref08_InCheckl6 (F + 0)) _ _ _ _ _ _ _ = _
    unfold ref08_InCheckl6s
    rw [b_nlt (by omega)]
    rfl
  | succ n ih =>
    intro i hi F
    show ref08_InCheckl6s (ref08_InCheckl6 (F + n + 1)) _ _ _ _ _ _ _ = _
    unfold ref08_InCheckl6s
    have hr := ih (i + 1) (by omega) F
    rw [b_lt (by omega), b_in (by omega) (by omega), tn, c_8, refSide_val, ob_some, w_s (n := 1 - s) (by omega) (by omega), w_s (by omega) (by omega), any_cons]
    have hon : onS b k (1 - s) (tk b) i = (decide (sd (b.getD i 0) = 1 - s) && rch (b.getD i 0) i k (tk b)) := by
      unfold onS
      rw [decide_eq_true (show (0 : Int) ≤ k ∧ (k : Int) < 81 by omega), decide_eq_true (show 1 - s = 0 ∨ 1 - s = 1 by omega), Bool.true_and, Bool.true_and, tn]
    rw [hon]
    by_cases hsd : sd (b.getD i 0) = 1 - s
    · rw [b_eq hsd, b_in (by omega) (by omega), reachT_val b _ (by omega) hk, ob_some, decide_eq_true hsd, Bool.true_and]
      cases rch (b.getD i 0) i k (tk b) with
      | true => rfl
      | false => rw [b_f, Bool.false_or]; exact hr
    · rw [b_neq hsd, decide_eq_false hsd, Bool.false_and, Bool.false_or]
      exact hr
theorem any_isE (f : Nat → Bool) : (List.range' 0 81).any f = !isE f := by
  unfold isE
  rw [range81', Bool.eq_iff_iff]
  simp only [List.any_eq_true, Bool.not_eq_true']
  rw [List.all_eq_false]
  simp
theorem rinCheck_val (b h : List Int) (S : Int) {s : Int} (hs : s = 0 ∨ s = 1) : ref08_InCheck b h S s = some (inC b s) := by
  unfold ref08_InCheck
  rw [taken_val, ob_some, rking_val b h S hs, ob_some]
  have hr := fst_range (pcs b (pc s 8))
  have hkg : kg b s = fst (pcs b (pc s 8)) := rfl
  by_cases hk : kg b s < 0
  · rw [b_lt hk]
    have : chs b s = fun _ => false := by
      funext c
      unfold chs onS
      rw [decide_eq_false (by omega), Bool.false_and]
    unfold inC
    rw [this, isE_false]
    rfl
  · obtain ⟨k, hkk⟩ : ∃ k : Nat, kg b s = k := ⟨(kg b s).toNat, by omega⟩
    obtain ⟨g, hg⟩ := many_eq 81 (by omega)
    have := rin_goes b h S s hs k (by omega) 81 0 (by omega) g
    rw [← hg, any_isE, ← hkk] at this
    rw [b_nlt hk, show ref08_InCheckl6 many s (kg b s) 0 b h S (takenL b) = _ from this, ob_some]
    unfold inC chs
    cases isE (onS b (kg b s) (1 - s) (tk b)) <;> rfl
theorem rattackCheck_val {b h : List Int} (hl : b.length = 81) (hf : Fits8 h) (s : Int) : ref08_Check b h s = some (atkS b h s) := by
  unfold ref08_Check atkS
  rw [refCheck_val hl hf, ob_some]
  by_cases hz : chkS b h s = 0
  · obtain ⟨hc, hs⟩ := chk_zero_clean hl hz
    rw [b_nne hz, if_neg (by simpa using hz), w_s (by omega) (by omega), rinCheck_val b h s (by omega), ob_some]
    cases inC b (1 - s) <;> rfl
  · rw [b_ne hz, if_pos hz]
def ofL (L : List Int) (c : Nat) : Bool := L.any fun q => only q c
theorem of_goes (L : List Int) (hl : L.length ≤ 1000) (N : Nat) (u v : Int) : ∀ (n i : Nat), i + n = L.length → ∀ (f : Nat → Bool) (F : Nat),
    set_Ofl3 (F + n + 1) L.length L.length i N L u v (sLo f) (sHi f) = some (N, L, u, v, sLo fun c => f c || ofL (L.drop i) c, sHi fun c => f c || ofL (L.drop i) c) := by
  intro n
  induction n with
  | zero =>
    intro i hi f F
    show set_Ofl3s (set_Ofl3 (F + 0)) _ _ _ _ _ _ _ _ _ = _
    unfold set_Ofl3s
    rw [b_nlt (by omega), List.drop_eq_nil_of_le (by omega)]
    have : (fun c => f c || ofL [] c) = f := by funext c; simp [ofL]
    rw [this]
  | succ n ih =>
    intro i hi f F
    show set_Ofl3s (set_Ofl3 (F + n + 1)) _ _ _ _ _ _ _ _ _ = _
    unfold set_Ofl3s
    have hil : i < L.length := by omega
    have hget : L.getD i 0 = L[i] := at_i hil
    rw [b_lt (by omega), b_in (by omega) (by omega), tn, hget, with_val, ob_some]
    simp only
    rw [w_s (by omega) (by omega)]
    refine (ih (i + 1) (by omega) _ F).trans ?_
    have hd : L.drop i = L[i] :: L.drop (i + 1) := List.drop_eq_getElem_cons hil
    have : (fun c => (f c || only L[i] c) || ofL (L.drop (i + 1)) c) = fun c => f c || ofL (L.drop i) c := by
      funext c
      rw [hd]
      unfold ofL
      rw [List.any_cons, Bool.or_assoc]
    rw [this]
theorem of_set (L : List Int) (hl : L.length ≤ 1000) (N : Nat) : set_Of L.length N L = some (sLo (ofL L), sHi (ofL L)) := by
  obtain ⟨g, hg⟩ := many_eq L.length (by omega)
  have := of_goes L hl N 0 0 L.length 0 (by omega) (fun _ => false) g
  rw [← hg, sLo_false, sHi_false] at this
  unfold set_Of
  rw [show set_Ofl3 many L.length (Int.ofNat L.length) 0 N L 0 0 0 0 = _ from this, ob_some]
  simp only [Bool.false_or, List.drop_zero]
theorem sq_len (f : Nat → Bool) : (sq f).length ≤ 81 := by
  unfold sq; rw [List.length_map]; exact Nat.le_trans (List.length_filter_le _ _) (by simp)
end Go.Kk.Pl
namespace Go.Kk.Pl
theorem sq_mem {f : Nat → Bool} {q : Int} (h : q ∈ sq f) : 0 ≤ q ∧ q < 81 ∧ f q.toNat = true := by
  unfold sq at h
  obtain ⟨j, hj, rfl⟩ := List.mem_map.1 h
  obtain ⟨h1, h2⟩ := List.mem_filter.1 hj
  rw [List.mem_range] at h1
  refine ⟨by simp, by simp only [Int.ofNat_eq_natCast]; omega, by simpa using h2⟩
theorem mem_sq {f : Nat → Bool} {q : Nat} (hq : q < 81) (h : f q = true) : (q : Int) ∈ sq f := by
  unfold sq
  exact List.mem_map.2 ⟨q, List.mem_filter.2 ⟨by simpa using hq, h⟩, rfl⟩
end Go.Kk.Pl
namespace Go.Kk.Pl
theorem upto_pre (t : Nat → Bool) {c : Nat} (ht : t c = true) {i : Nat} : ∀ (P Q : List Nat), (∀ s ∈ P, t s = false) → upto t (P ++ c :: Q) i = (P.contains i || decide (i = c))
  | [], Q, _ => by
    show (decide (i = c) || (!t c && upto t Q i)) = _
    rw [ht]; simp
  | s :: P, Q, h => by
    show (decide (i = s) || (!t s && upto t (P ++ c :: Q) i)) = _
    rw [h s List.mem_cons_self, Bool.not_false, Bool.true_and, upto_pre t ht P Q (fun s hs => h s (List.mem_cons_of_mem _ hs)), List.contains_cons, Bool.or_assoc]
    congr 1
theorem onW_btw {dx dy : Int} {a c : Nat} (ha : a < 81) (hc : c < 81) (h : onW dx dy a c = true) (i : Nat) : (upto (only c) (wayL dx dy a) i && !only c i) = (btw a c).contains i := by
  obtain ⟨hl, rfl, rfl⟩ := of_decide_eq_true h
  have := chkA_all ⟨a, ha⟩ ⟨c, hc⟩
  simp only [chkA, Bool.or_eq_true, decide_eq_true_eq, Bool.and_eq_true, beq_iff_eq, Bool.not_eq_true'] at this
  obtain ⟨e1, e2, e3⟩ := this.resolve_left hl
  have hsp : wayL (sgn (df a c)) (sgn (dr a c)) a = btw a c ++ c :: (wayL (sgn (df a c)) (sgn (dr a c)) a).drop ((btw a c).length + 1) := by
    have := split_at e2
    rw [e1] at this
    exact this
  have hn : c ∉ btw a c := by simpa using e3
  rw [hsp, upto_pre (only c) (by unfold only; simp) _ _ (fun s hs => by
    unfold only
    rw [decide_eq_false_iff_not]
    intro e
    have : s = c := by omega
    exact hn (this ▸ hs))]
  unfold only
  by_cases hi : i = c
  · subst hi
    rw [e3]; simp
  · rw [decide_eq_false hi, decide_eq_false (p := (i : Int) = c) (by omega)]; simp
theorem onW_has {dx dy : Int} (h1 : -1 ≤ dx) (h2 : dx ≤ 1) (h3 : -1 ≤ dy) (h4 : dy ≤ 1) (hne : ¬ (dx = 0 ∧ dy = 0)) {a c : Nat} (ha : a < 81) (hc : c < 81) : upto (only c) (wayL dx dy a) c = onW dx dy a c := by
  rw [upto_val h1 h2 h3 h4 hne ha hc]
  cases h : onW dx dy a c with
  | false => rfl
  | true =>
    rw [Bool.true_and, free_iff]
    intro s hs
    unfold only
    rw [decide_eq_false_iff_not]
    intro e
    have hsc : s = c := by omega
    obtain ⟨hl, _, _⟩ := of_decide_eq_true h
    have := chkA_all ⟨a, ha⟩ ⟨c, hc⟩
    simp only [chkA, Bool.or_eq_true, decide_eq_true_eq, Bool.and_eq_true, beq_iff_eq, Bool.not_eq_true'] at this
    have := (this.resolve_left hl).2.2
    rw [← hsc] at this
    have h2 : (btw a s).contains s = true := List.contains_iff_mem.mpr (hsc ▸ hs)
    rw [this] at h2
    cases h2
def allW : List (List Int) := [[-1, -1], [1, -1], [-1, 1], [1, 1], [0, -1], [-1, 0], [1, 0], [0, 1]]
theorem allW_any {a c : Nat} : (allW.any fun r => onW (dx_ r) (dy_ r) a c) = decide (lineS a c ≠ 0) := by
  unfold allW onW dx_ dy_
  by_cases h : lineS a c = 0
  · simp [h]
  · have hl := (line_lie a c).mp h
    have hx : sgn (df a c) = -1 ∨ sgn (df a c) = 0 ∨ sgn (df a c) = 1 := by unfold sgn; split <;> (try split) <;> omega
    have hy : sgn (dr a c) = -1 ∨ sgn (dr a c) = 0 ∨ sgn (dr a c) = 1 := by unfold sgn; split <;> (try split) <;> omega
    have hn : ¬ (sgn (df a c) = 0 ∧ sgn (dr a c) = 0) := by
      unfold lieS at hl
      unfold sgn
      split <;> split <;> (try split) <;> (try split) <;> omega
    rcases hx with hx | hx | hx <;> rcases hy with hy | hy | hy <;> simp [hx, hy, h] at hn ⊢
theorem between_goes2 {a c : Nat} (ha : a < 81) (hc : c < 81) (N : Nat) : ∀ (n i : Nat), i + n = 8 → ∀ F,
    ray_Between_v2l2 (F + n + 1) a c 8 8 i 0 0 N allW = some (if (allW.drop i).any (fun r => onW (dx_ r) (dy_ r) a c) then .inl (sLo (fun i => (btw a c).contains i), sHi (fun i => (btw a c).contains i)) else .inr (0, 0)) := by
  intro n
  induction n with
  | zero =>
    intro i hi F
    show ray_Between_v2l2s (ray_Between_v2l2 (F + 0)) _ _ _ _ _ _ _ _ _ = _
    unfold ray_Between_v2l2s
    rw [b_nlt (by omega), List.drop_eq_nil_of_le (by show 8 ≤ i; omega)]
    rfl
  | succ n ih =>
    intro i hi F
    show ray_Between_v2l2s (ray_Between_v2l2 (F + n + 1)) _ _ _ _ _ _ _ _ _ = _
    unfold ray_Between_v2l2s
    obtain ⟨r, hget, hdr, e1, e2, g1, g2, g3, g4, g5⟩ : ∃ r, allW.getD i [] = r ∧ allW.drop i = r :: allW.drop (i + 1) ∧ List.headD (List.take 2 r) 0 = dx_ r ∧ List.headD (List.tail (List.take 2 r)) 0 = dy_ r ∧ -1 ≤ dx_ r ∧ dx_ r ≤ 1 ∧ -1 ≤ dy_ r ∧ dy_ r ≤ 1 ∧ ¬ (dx_ r = 0 ∧ dy_ r = 0) := by
      have : ∀ j : Fin 8, allW.drop j.val = allW.getD j.val [] :: allW.drop (j.val + 1) ∧ List.headD (List.take 2 (allW.getD j.val [])) 0 = dx_ (allW.getD j.val []) ∧ List.headD (List.tail (List.take 2 (allW.getD j.val []))) 0 = dy_ (allW.getD j.val []) ∧ -1 ≤ dx_ (allW.getD j.val []) ∧ dx_ (allW.getD j.val []) ≤ 1 ∧ -1 ≤ dy_ (allW.getD j.val []) ∧ dy_ (allW.getD j.val []) ≤ 1 ∧ ¬ (dx_ (allW.getD j.val []) = 0 ∧ dy_ (allW.getD j.val []) = 0) := by decide
      exact ⟨_, rfl, this ⟨i, by omega⟩⟩
    have ho : ofL [(c : Int)] = only c := by
      funext j; unfold ofL; simp
    have hof : set_Of 1 1 [(c : Int)] = some (sLo (only c), sHi (only c)) := by
      have := of_set [(c : Int)] (by simp) 1
      rw [ho] at this
      exact this
    have hh : ∀ g : Nat → Bool, has g (c : Int) = g c := by
      intro g; unfold has; rw [decide_eq_true (by omega), decide_eq_true (by omega), tn]; rfl
    rw [b_lt (by omega), b_in (by omega) (by omega), tn, hget, e1, e2, hof, ob_some]
    simp only
    rw [way_val g1 g2 g3 g4 g5 ha, ob_some]
    simp only
    rw [has_val, ob_some, hh, onW_has g1 g2 g3 g4 g5 ha hc, hdr, List.any_cons]
    cases hon : onW (dx_ r) (dy_ r) a c with
    | true =>
      rw [b_t, without_val, ob_some, Bool.true_or, if_pos rfl]
      have : (fun i => upto (only c) (wayL (dx_ r) (dy_ r) a) i && !only c i) = fun i => (btw a c).contains i := by
        funext j; exact onW_btw ha hc hon j
      rw [this]
    | false =>
      rw [b_f, Bool.false_or, w_s (n := (i : Int) + 1) (by omega) (by omega)]
      exact ih (i + 1) (by omega) F
theorem rayBetween_val {a c : Nat} (ha : a < 81) (hc : c < 81) : ray_Between_v2 a c = some (sLo (fun i => (btw a c).contains i), sHi (fun i => (btw a c).contains i)) := by
  unfold ray_Between_v2
  rw [rdirs_val, ob_some]
  simp only
  rw [rdirs_val, ob_some]
  simp only
  obtain ⟨g, hg⟩ := many_eq 8 (by omega)
  have := between_goes2 ha hc ((rdirL 6).length + (rdirL 7).length) 8 0 (by omega) g
  rw [← hg, List.drop_zero, allW_any] at this
  have e8 : (rdirL 6).length + (rdirL 7).length = 8 := by decide
  have eL : List.append (List.take (rdirL 6).length (rdirL 6)) (List.take (rdirL 7).length (rdirL 7)) = allW := by decide
  rw [eL, e8] at *
  rw [br_true (by decide), show ray_Between_v2l2 many a c 8 (Int.ofNat 8) 0 0 0 8 allW = _ from this, ob_some]
  by_cases h : lineS a c = 0
  · rw [decide_eq_false (p := lineS a c ≠ 0) (by simpa using h), if_neg (by simp), sw_inr]
    have : btw a c = [] := by unfold btw; rw [if_pos h]
    rw [this]
    simp only [List.contains_nil]
    rw [sLo_false, sHi_false]
  · rw [decide_eq_true (p := lineS a c ≠ 0) h, if_pos rfl, sw_inl]
end Go.Kk.Pl
namespace Go.Kk.Pl
def farI (s q : Int) : Int := if 0 ≤ q ∧ q < 81 then farS s q.toNat else -1
theorem stepFarI {s : Int} (hs : s = -1 ∨ s = 0 ∨ s = 1) (q : Int) : step_Far s q = some (farI s q) := by
  unfold farI
  by_cases h : 0 ≤ q ∧ q < 81
  · rw [if_pos h]
    have := stepFar_val hs (q := q.toNat) (by omega)
    rwa [show ((q.toNat : Nat) : Int) = q by omega] at this
  · rw [if_neg h]
    unfold step_Far
    by_cases h0 : q < 0
    · rw [b_lt h0]
    · rw [b_nlt h0, b_ge (by omega)]
def deadI (x q : Int) : Bool := decide (((kd x = 1 ∨ kd x = 2) ∧ farI (sd x) q = 0) ∨ (kd x = 3 ∧ (farI (sd x) q = 0 ∨ farI (sd x) q = 1)))
theorem deadI_nat (x : Int) {q : Nat} (hq : q < 81) : deadI x q = deadS x q := by
  unfold deadI deadS farI
  rw [if_pos (by omega), tn]
theorem stepDeadI (x q : Int) : step_Dead x q = some (deadI x q) := by
  unfold step_Dead
  rw [side_val, ob_some, stepFarI (sd_cases x), ob_some, kind_val, ob_some]
  unfold deadI
  generalize kd x = k
  generalize farI (sd x) q = n
  simp only [br_if, beq_iff_eq]
  repeat' split
  all_goals first
    | (rw [Option.some.injEq, Bool.eq_iff_iff]; simp; omega)
    | (simp; omega)
def zoneS (s : Int) (i : Nat) : Bool := decide (0 ≤ farS s i ∧ farS s i ≤ 2)
theorem zone_all : ∀ s : Fin 3, step_Zone ((s.val : Int) - 1) = some (sLo (zoneS ((s.val : Int) - 1)), sHi (zoneS ((s.val : Int) - 1))) := by decide +kernel
theorem zone_val (x : Int) : step_Zone (sd x) = some (sLo (zoneS (sd x)), sHi (zoneS (sd x))) := by
  rcases sd_cases x with h | h | h <;> rw [h]
  · exact zone_all 0
  · exact zone_all 1
  · exact zone_all 2
def inZ (s q : Int) : Bool := decide (0 ≤ farI s q ∧ farI s q ≤ 2)
theorem has_zone (s q : Int) : has (zoneS s) q = inZ s q := by
  unfold has inZ farI zoneS
  by_cases h : 0 ≤ q ∧ q < 81
  · rw [if_pos h, decide_eq_true h.1, decide_eq_true h.2, Bool.true_and, Bool.true_and]
  · rw [if_neg h]
    by_cases h0 : 0 ≤ q
    · rw [decide_eq_false (p := q < 81) (by omega)]; simp
    · rw [decide_eq_false h0]; simp
def mayS (x f t : Int) : Bool := decide (up_ (kd x) ≠ 0) && (inZ (sd x) f || inZ (sd x) t)
def mustS (x t : Int) : Bool := decide (up_ (kd x) ≠ 0) && deadI x t
theorem promotes_val (x f t : Int) : gen_Promotes x f t = some (mayS x f t, mustS x t) := by
  unfold gen_Promotes mayS mustS
  rw [kind_val, ob_some, up_val, ob_some]
  by_cases hu : up_ (kd x) = 0
  · rw [b_eq hu, decide_eq_false (by simpa using hu)]; rfl
  · rw [b_neq hu, side_val, ob_some, zone_val, ob_some]
    simp only
    rw [has_val, ob_some, has_zone, decide_eq_true hu]
    cases inZ (sd x) f with
    | true => rw [b_t, stepDeadI, ob_some]; rfl
    | false => rw [b_f, has_val, ob_some, has_zone, stepDeadI, ob_some]; rfl
def chkM (f t d : Int) (p : Bool) : Int := if ¬ (0 ≤ t ∧ t < 81) then 1 else if d ≠ 0 then (if 1 ≤ d ∧ d ≤ 7 ∧ f = 0 ∧ p = false then 0 else 70) else if ¬ (0 ≤ f ∧ f < 81) then 1 else if f = t then 70 else 0
def canS (b h : List Int) (s f t d : Int) (p : Bool) : Bool := decide (chkM f t d p = 0) && (decide (s = 0 ∨ s = 1) &&
  if d ≠ 0 then decide (0 < hd_ h s d) && decide (at_ b t = 0)
  else decide (sd (at_ b f) = s ∧ sd (at_ b t) ≠ s ∧ kd (at_ b t) ≠ 8) && (!p || decide (up_ (kd (at_ b f)) ≠ 0)))
theorem chkM_zero {f t d : Int} {p : Bool} (h : chkM f t d p = 0) : (0 ≤ t ∧ t < 81) ∧ (d ≠ 0 → 1 ≤ d ∧ d ≤ 7 ∧ f = 0 ∧ p = false) ∧ (d = 0 → (0 ≤ f ∧ f < 81) ∧ f ≠ t) := by
  unfold chkM at h
  split at h
  · omega
  · rename_i ht
    split at h
    · rename_i hd
      split at h
      · rename_i h2; exact ⟨by omega, fun _ => h2, fun h3 => absurd h3 hd⟩
      · omega
    · rename_i hd
      split at h
      · omega
      · split at h
        · omega
        · exact ⟨by omega, fun h3 => absurd h3 hd, fun _ => ⟨by omega, by omega⟩⟩
theorem at_in {b : List Int} {q : Int} (h : 0 ≤ q ∧ q < 81) : at_ b q = b.getD q.toNat 0 := by unfold at_; rw [if_pos h]
def movS (b h : List Int) (s f t d : Int) (p : Bool) : Bool := canS b h s f t d p &&
  if d ≠ 0 then !deadI (16 * s + d) t && (decide (d ≠ 1) || decide (nF b (16 * s + d) (t.toNat / 9) = 0))
  else rch (at_ b f) f.toNat t.toNat (tk b) && if p = true then mayS (at_ b f) f t else !mustS (at_ b f) t
theorem all_set : set_All = some (sLo fun _ => true, sHi fun _ => true) := by decide +kernel
theorem not_val (f : Nat → Bool) : set_Not (sLo f) (sHi f) = some (sLo fun i => !f i, sHi fun i => !f i) := by
  unfold set_Not
  rw [all_set, ob_some]
  simp only
  rw [minus_val, ob_some]
  simp only [Bool.true_and]
def fre1 (b : List Int) (s k : Int) (i : Nat) : Bool := !deadS (pc s k) i && (decide (k ≠ 1) || decide (nF b (pc s 1) (i / 9) = 0))
theorem cnt_isE (f : Nat → Bool) : isE f = decide (cntS f = 0) := by
  unfold isE cntS
  rw [Bool.eq_iff_iff, decide_eq_true_eq, List.countP_eq_zero, List.all_eq_true]
  simp
theorem free_goes2 {b : List Int} (h : List Int) (S : Int) (sd' : List (List Int)) {s k : Int} (hs : s = 0 ∨ s = 1) (L : List Int) (hL : ∀ q ∈ L, 0 ≤ q ∧ q < 81) (hl : L.length ≤ 1000) (N : Nat) (u v : Int) : ∀ (n i : Nat), i + n = L.length → ∀ (f : Nat → Bool) (F : Nat),
    gen_Freel6 (F + n + 1) s k (pc s k) L.length L.length i b h S (byOf b) sd' u v (sLo f) (sHi f) N L = some (b, h, S, byOf b, sd', u, v, sLo fun c => f c || ((L.drop i).any fun q => decide ((c : Int) = q) && fre1 b s k c), sHi fun c => f c || ((L.drop i).any fun q => decide ((c : Int) = q) && fre1 b s k c)) := by
  intro n
  induction n with
  | zero =>
    intro i hi f F
    show gen_Freel6s (gen_Freel6 (F + 0)) _ _ _ _ _ _ _ _ _ _ _ _ _ _ _ _ _ = _
    unfold gen_Freel6s
    rw [b_nlt (by omega), List.drop_eq_nil_of_le (by omega)]
    simp
  | succ n ih =>
    intro i hi f F
    show gen_Freel6s (gen_Freel6 (F + n + 1)) _ _ _ _ _ _ _ _ _ _ _ _ _ _ _ _ _ = _
    unfold gen_Freel6s
    have hil : i < L.length := by omega
    obtain ⟨q0, q1⟩ := hL L[i] (List.getElem_mem hil)
    have hget : L.getD i 0 = L[i] := at_i hil
    obtain ⟨q, hq⟩ : ∃ q : Nat, L[i] = q := ⟨L[i].toNat, by omega⟩
    have hd : L.drop i = L[i] :: L.drop (i + 1) := List.drop_eq_getElem_cons hil
    rw [b_lt (by omega), b_in (by omega) (by omega), tn, hget, hq, stepDead_val _ (by omega), ob_some, w_s (n := (i : Int) + 1) (by omega) (by omega)]
    have skip : fre1 b s k q = false → gen_Freel6 (F + n + 1) s k (pc s k) L.length L.length ((i : Int) + 1) b h S (byOf b) sd' u v (sLo f) (sHi f) N L =
        some (b, h, S, byOf b, sd', u, v, sLo fun c => f c || ((L.drop i).any fun q => decide ((c : Int) = q) && fre1 b s k c), sHi fun c => f c || ((L.drop i).any fun q => decide ((c : Int) = q) && fre1 b s k c)) := by
      intro hf
      refine (ih (i + 1) (by omega) f F).trans ?_
      have : (fun c => f c || ((L.drop (i + 1)).any fun q => decide ((c : Int) = q) && fre1 b s k c)) = fun c => f c || ((L.drop i).any fun q => decide ((c : Int) = q) && fre1 b s k c) := by
        funext c
        rw [hd, List.any_cons, hq]
        by_cases hcq : (c : Int) = q
        · have : c = q := by omega
          subst this
          rw [hf]; simp
        · rw [decide_eq_false hcq]; simp
      rw [this]
    have take : fre1 b s k q = true → (ob (set_With (sLo f) (sHi f) q) fun z => gen_Freel6 (F + n + 1) s k (pc s k) L.length L.length ((i : Int) + 1) b h S (byOf b) sd' u v z.1 z.2 N L) =
        some (b, h, S, byOf b, sd', u, v, sLo fun c => f c || ((L.drop i).any fun q => decide ((c : Int) = q) && fre1 b s k c), sHi fun c => f c || ((L.drop i).any fun q => decide ((c : Int) = q) && fre1 b s k c)) := by
      intro hf
      rw [with_val, ob_some]
      simp only
      refine (ih (i + 1) (by omega) _ F).trans ?_
      have : (fun c => (f c || only q c) || ((L.drop (i + 1)).any fun q => decide ((c : Int) = q) && fre1 b s k c)) = fun c => f c || ((L.drop i).any fun q => decide ((c : Int) = q) && fre1 b s k c) := by
        funext c
        rw [hd, List.any_cons, hq, Bool.or_assoc]
        congr 2
        unfold only
        by_cases hcq : (c : Int) = q
        · have : c = q := by omega
          subst this
          rw [hf]; simp
        · rw [decide_eq_false hcq]; simp
      rw [this]
    cases hdead : deadS (pc s k) q with
    | true => rw [b_t]; exact skip (by unfold fre1; rw [hdead]; rfl)
    | false =>
      rw [b_f]
      by_cases hk : k = 1
      · rw [b_eq hk, ofB_val, ob_some]
        simp only
        unfold set_File
        rw [tdiv9, w_s (by unfold fl; omega) (by unfold fl; omega), ob_some, show fl q = ((q / 9 : Nat) : Int) from rfl, inFile_val (by omega), ob_some]
        simp only
        rw [and_val, ob_some]
        simp only
        rw [empty_val, ob_some, cnt_isE, cnt_file b (by rw [pc_ok hs (by omega) (by omega) (by omega)]; omega) (by omega)]
        by_cases hn : nF b (pc s 1) (q / 9) = 0
        · rw [decide_eq_true hn, Bool.not_true, b_f]
          exact take (by unfold fre1; rw [hdead, decide_eq_true hn]; simp)
        · rw [decide_eq_false hn, Bool.not_false, b_t]
          exact skip (by unfold fre1; rw [hdead, decide_eq_false hn, decide_eq_false (p := k ≠ 1) (by simpa using hk)]; rfl)
      · rw [b_neq hk]
        exact take (by unfold fre1; rw [hdead, decide_eq_true (p := k ≠ 1) hk]; rfl)
def freS (b : List Int) (s k : Int) (i : Nat) : Bool := decide ((s = 0 ∨ s = 1) ∧ 1 ≤ k ∧ k ≤ 7) && (!tk b i && fre1 b s k i)
theorem freeB_val {b : List Int} (hc : Clean b) (h : List Int) (S s k : Int) : gen_Free s k b h S (byOf b) (sidesOf b) = some (sLo (freS b s k), sHi (freS b s k)) := by
  have none : ¬ ((s = 0 ∨ s = 1) ∧ 1 ≤ k ∧ k ≤ 7) → freS b s k = fun _ => false := by
    intro hn; funext c; unfold freS; rw [decide_eq_false hn, Bool.false_and]
  unfold gen_Free
  rw [of_gen, ob_some]
  by_cases hz : pc s k = 0
  · have : ¬ ((s = 0 ∨ s = 1) ∧ 1 ≤ k ∧ k ≤ 7) := by
      rintro ⟨hs, h1, h7⟩
      rw [pc_ok hs h1 (by omega) (by omega)] at hz
      omega
    rw [b_eq hz, none this, sLo_false, sHi_false]
  · rw [b_neq hz]
    have hv : (s = 0 ∨ s = 1) ∧ 1 ≤ k ∧ k ≤ 15 ∧ k ≠ 13 := by
      unfold pc at hz
      split at hz
      · rename_i h; exact h
      · exact absurd rfl hz
    by_cases h8 : k ≥ 8
    · rw [b_ge h8, none (by omega), sLo_false, sHi_false]
    · rw [b_nge h8, takenB_val hc, ob_some]
      simp only
      rw [not_val, ob_some]
      simp only
      rw [squares_val, ob_some]
      simp only
      have hlen := sq_len fun i => !tk b i
      obtain ⟨g, hg⟩ := many_eq (sq fun i => !tk b i).length (by omega)
      have := free_goes2 (b := b) h S (sidesOf b) (k := k) hv.1 (sq fun i => !tk b i) (fun q hq => ⟨(sq_mem hq).1, (sq_mem hq).2.1⟩) (by omega) (sq fun i => !tk b i).length 0 0 (sq fun i => !tk b i).length 0 (by omega) (fun _ => false) g
      rw [← hg, sLo_false, sHi_false] at this
      rw [show gen_Freel6 many s k (pc s k) (sq fun i => !tk b i).length (Int.ofNat (sq fun i => !tk b i).length) 0 b h S (byOf b) (sidesOf b) 0 0 0 0 (sq fun i => !tk b i).length (sq fun i => !tk b i) = _ from this, ob_some]
      simp only [Bool.false_or, List.drop_zero]
      obtain ⟨e1, e2⟩ := set_congr (f := fun c => (sq fun i => !tk b i).any fun q => decide ((c : Int) = q) && fre1 b s k c) (g := freS b s k) fun c hcc => by
        unfold freS
        rw [decide_eq_true (p := (s = 0 ∨ s = 1) ∧ 1 ≤ k ∧ k ≤ 7) ⟨hv.1, hv.2.1, by omega⟩, Bool.true_and, Bool.eq_iff_iff, List.any_eq_true, Bool.and_eq_true]
        constructor
        · rintro ⟨q, hq, hh⟩
          rw [Bool.and_eq_true, decide_eq_true_eq] at hh
          have := (sq_mem hq).2.2
          rw [← hh.1, tn] at this
          exact ⟨this, hh.2⟩
        · rintro ⟨h1, h2⟩
          exact ⟨c, mem_sq hcc h1, by rw [h2]; simp⟩
      rw [e1, e2]
end Go.Kk.Pl
namespace Go.Kk.Pl
end Go.Kk.Pl
