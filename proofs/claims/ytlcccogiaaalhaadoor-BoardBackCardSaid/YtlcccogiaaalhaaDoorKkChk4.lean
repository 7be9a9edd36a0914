/-
  Whether a position can be, plainly, told in full: the program's answer is the reference's.
-/
import Derived.Test.YtlcccogiaaalhaaDoorKkChk3
import Derived.Test.YtlcccogiaaalhaaDoorKkDeed
namespace Go.Kk.Pl

/-! ### dead pieces -/

theorem stepFar_val {s : Int} (hs : s = -1 ∨ s = 0 ∨ s = 1) {q : Nat} (hq : q < 81) : step_Far s q = some (farS s q) := by
  unfold step_Far set_Rank farS
  rcases hs with rfl | rfl | rfl
  · simp (disch := omega) only [b_nlt, b_nge, b_neq]
    simp
  · simp (disch := omega) only [b_nlt, b_nge, b_eq, tmod9, ob_some]
    simp
  · simp (disch := omega) only [b_nlt, b_nge, b_neq, b_eq, tmod9, ob_some, w_s]
    simp
theorem stepDead_val (x : Int) {q : Nat} (hq : q < 81) : step_Dead x q = some (deadS x q) := by
  unfold step_Dead
  rw [side_val, ob_some, stepFar_val (sd_cases x) hq, ob_some, kind_val, ob_some]
  unfold deadS
  generalize kd x = k
  generalize farS (sd x) q = n
  simp only [br_if, beq_iff_eq]
  repeat' split
  all_goals first
    | (rw [Option.some.injEq, Bool.eq_iff_iff]; simp; omega)
    | (simp; omega)

/-! ### pieces, told of boards -/

/-- The piece of a side and a kind; 0: there is none. -/
def pc (s k : Int) : Int := if (s = 0 ∨ s = 1) ∧ 1 ≤ k ∧ k ≤ 15 ∧ k ≠ 13 then 16 * s + k else 0
theorem pc_ok {s k : Int} (hs : s = 0 ∨ s = 1) (h1 : 1 ≤ k) (h2 : k ≤ 15) (h3 : k ≠ 13) : pc s k = 16 * s + k := by unfold pc; rw [if_pos ⟨hs, h1, h2, h3⟩]
theorem pc_none {s k : Int} (h : ¬ ((s = 0 ∨ s = 1) ∧ 1 ≤ k ∧ k ≤ 15 ∧ k ≠ 13)) : pc s k = 0 := by unfold pc; rw [if_neg h]
theorem pc_range (s k : Int) : 0 ≤ pc s k ∧ pc s k < 32 := by unfold pc; split <;> omega
theorem of_gen (s k : Int) : piece_Of s k = some (pc s k) := by
  by_cases hs : s = 0 ∨ s = 1
  · by_cases h : 1 ≤ k ∧ k ≤ 15 ∧ k ≠ 13
    · rw [of_val hs h.1 h.2.1 h.2.2, pc_ok hs h.1 h.2.1 h.2.2]
    · rw [pc_none (by omega)]
      unfold piece_Of
      simp only [br_if, bne_iff_ne, ne_eq, beq_iff_eq, decide_eq_true_eq]
      repeat' split
      all_goals first | rfl | omega
  · rw [pc_none (by omega)]
    unfold piece_Of
    simp (disch := omega) only [b_ne]
theorem pcs_zero (b : List Int) : pcs b 0 = fun _ => false := by funext i; unfold pcs; simp
theorem ofB_val (b h : List Int) (S s k : Int) (sd' : List (List Int)) : board_Of s k b h S (byOf b) sd' = some (sLo (pcs b (pc s k)), sHi (pcs b (pc s k))) := by
  unfold board_Of
  obtain ⟨h0, h1⟩ := pc_range s k
  rw [of_gen, ob_some]
  by_cases hz : pc s k = 0
  · rw [b_eq hz, hz, pcs_zero, sLo_false, sHi_false]
  · rw [b_neq hz, b_in h0 (by omega), by_get b h0 h1]
    rfl

/-! ### files -/

def inF (f : Nat) (i : Nat) : Bool := decide (i / 9 = f)
theorem inFile_all : ∀ f : Fin 9, set_InFile ((f.val : Nat) : Int) = some (sLo (inF f.val), sHi (inF f.val)) := by decide +kernel
theorem inFile_val {f : Nat} (h : f < 9) : set_InFile f = some (sLo (inF f), sHi (inF f)) := inFile_all ⟨f, h⟩
theorem file_filter : ∀ f : Fin 9, (List.range 81).filter (fun i => decide (i / 9 = f.val)) = (List.range 9).map (9 * f.val + ·) := by decide +kernel
theorem cnt_file (b : List Int) {x : Int} (hx : x ≠ 0) {f : Nat} (hf : f < 9) : cntS (fun i => pcs b x i && inF f i) = nF b x f := by
  unfold cntS nF inF
  have : (List.range 81).countP (fun i => pcs b x i && decide (i / 9 = f)) = ((List.range 81).filter (fun i => decide (i / 9 = f))).countP (pcs b x) := by
    rw [List.countP_filter]
  rw [this, file_filter ⟨f, hf⟩, List.countP_map]
  apply List.countP_congr
  intro r _
  show pcs b x (9 * f + r) = true ↔ _
  unfold pcs
  simp [hx]

theorem files12_val (b h : List Int) (S : Int) (sd' : List (List Int)) (q : Nat) (hq : q < 9) (X : Int) : ∀ f, board_filesl12 (f + 2 + 1) q X 0 b h S (byOf b) sd' = some (if nifuS b q then .inl (53, X, b, h, S, byOf b, sd') else .inr (X, b, h, S, byOf b, sd')) := by
  intro f
  have step : ∀ (s : Int) (hs : s = 0 ∨ s = 1) rec, board_filesl12s rec q X s b h S (byOf b) sd' = if 1 < nF b (16 * s + 1) q then some (.inl (53, X, b, h, S, byOf b, sd')) else rec q X (s + 1) b h S (byOf b) sd' := by
    intro s hs rec
    unfold board_filesl12s
    rw [b_lt (by omega), ofB_val, ob_some]
    simp only
    rw [inFile_val hq, ob_some]
    simp only
    rw [and_val, ob_some]
    simp only
    rw [count_set, ob_some, pc_ok hs (by omega) (by omega) (by omega), cnt_file b (by omega) hq, w_s (by omega) (by omega)]
    split
    · rw [b_gt (by omega)]
    · rw [b_ngt (by omega)]
  show board_filesl12s (board_filesl12 (f + 2)) _ _ _ _ _ _ _ _ = _
  rw [step 0 (.inl rfl)]
  unfold nifuS
  split
  · rename_i h1
    rw [show (decide (1 < nF b 1 q) || decide (1 < nF b 17 q)) = true by simp at h1; simp [h1]]
    rfl
  · rename_i h1
    show board_filesl12s (board_filesl12 (f + 1)) _ _ _ _ _ _ _ _ = _
    rw [show (0 : Int) + 1 = 1 from rfl, step 1 (.inr rfl)]
    split
    · rename_i h2
      rw [show (decide (1 < nF b 1 q) || decide (1 < nF b 17 q)) = true by simp at h2; simp [h2]]
      rfl
    · rename_i h2
      rw [show (decide (1 < nF b 1 q) || decide (1 < nF b 17 q)) = false by simp at h1 h2; simp; omega]
      show board_filesl12s (board_filesl12 f) _ _ _ _ _ _ _ _ = _
      unfold board_filesl12s
      rw [b_nlt (by omega)]
      rfl

theorem files9_val (b h : List Int) (S : Int) (sd' : List (List Int)) : ∀ (n i : Nat), i + n = 9 → ∀ f, board_filesl9 (f + n + 1) i b h S (byOf b) sd' = some (if (List.range' i n).any (nifuS b) then .inl 53 else .inr ()) := by
  intro n
  induction n with
  | zero =>
    intro i hi f
    show board_filesl9s (board_filesl9 (f + 0)) _ _ _ _ _ _ = _
    unfold board_filesl9s
    rw [b_nlt (by omega)]
    rfl
  | succ n ih =>
    intro i hi f
    show board_filesl9s (board_filesl9 (f + n + 1)) _ _ _ _ _ _ = _
    unfold board_filesl9s
    obtain ⟨g, hg⟩ := many_eq 2 (by omega)
    have h12 := files12_val b h S sd' i (by omega) i g
    rw [← hg] at h12
    rw [b_lt (by omega), h12, ob_some, any_cons]
    have := ih (i + 1) (by omega) f
    cases hb : nifuS b i with
    | true => rfl
    | false =>
      rw [Bool.false_or, if_neg (by decide), sw_inr]
      simp only
      rw [w_s (by omega) (by omega)]
      exact this

theorem files2_val (b h : List Int) (s : Int) (b' : List Int) : ∀ (n i : Nat), i + n = 81 → ∀ f, board_filesl2 (f + n + 1) b i b' h s = some (if (List.range' i n).any (fun i => deadS (b.getD i 0) i) then .inl (52, b', h, s) else .inr (b', h, s)) := by
  intro n
  induction n with
  | zero =>
    intro i hi f
    show board_filesl2s (board_filesl2 (f + 0)) _ _ _ _ _ = _
    unfold board_filesl2s
    rw [b_nlt (by omega)]
    rfl
  | succ n ih =>
    intro i hi f
    show board_filesl2s (board_filesl2 (f + n + 1)) _ _ _ _ _ = _
    unfold board_filesl2s
    have := ih (i + 1) (by omega) f
    rw [b_lt (by omega), b_in (by omega) (by omega), cond_true, tn, stepDead_val _ (by omega), ob_some, any_cons, w_s (by omega) (by omega)]
    cases hb : deadS (b.getD i 0) i with
    | true => rfl
    | false =>
      rw [b_f, Bool.false_or]
      exact this

theorem files_val {b : List Int} (hc : Clean b) (h : List Int) (s : Int) : board_files b h s = some (if (List.range' 0 81).any (fun i => deadS (b.getD i 0) i) then 52 else if (List.range' 0 9).any (nifuS b) then 53 else 0) := by
  obtain ⟨g81, hg81⟩ := many_eq 81 (by omega)
  obtain ⟨g9, hg9⟩ := many_eq 9 (by omega)
  have c2 := files2_val b h s b 81 0 (by omega) g81
  rw [← hg81] at c2
  have c9 := files9_val b h s (sidesOf b) 9 0 (by omega) g9
  rw [← hg9] at c9
  unfold board_files
  rw [show board_filesl2 many b 0 b h s = _ from c2, ob_some]
  split
  · rfl
  rw [sw_inr]
  simp only
  rw [new_full hc.len, cl_id hc, ob_some]
  simp only
  rw [show board_filesl9 many 0 b h s (byOf b) (sidesOf b) = _ from c9, ob_some]
  split
  · rfl
  · rfl

/-! ### what is counted -/

/-- A piece's kind, turned back; 0 of none. -/
def rk (x : Int) : Int := rw_ (kd x)
theorem rk_zero {x : Int} (h : kd x = 0) : rk x = 0 := by unfold rk; rw [h]; decide
theorem rk_range {x : Int} (h : kd x ≠ 0) : 1 ≤ rk x ∧ rk x ≤ 8 := by
  obtain ⟨k1, k2, k3⟩ := kd_bounds x
  unfold rk rw_
  rw [if_neg (by omega)]
  split <;> omega
/-- How many squares ahead of a place hold a kind. -/
def cT (b : List Int) (i : Nat) (k : Nat) : Nat := (List.range i).countP fun j => decide (1 ≤ k) && rk (b.getD j 0) == k
def kT (b : List Int) (i : Nat) (x : Int) : Nat := (List.range i).countP fun j => b.getD j 0 == x
theorem cT_le (b : List Int) (i k : Nat) : cT b i k ≤ i := Nat.le_trans List.countP_le_length (by simp)
theorem kT_le (b : List Int) (i : Nat) (x : Int) : kT b i x ≤ i := Nat.le_trans List.countP_le_length (by simp)
theorem cT_succ (b : List Int) (i k : Nat) : cT b (i + 1) k = cT b i k + if 1 ≤ k ∧ rk (b.getD i 0) = k then 1 else 0 := by
  unfold cT
  rw [List.range_succ, List.countP_append]
  by_cases h : 1 ≤ k ∧ rk (b.getD i 0) = k
  · simp [h]
  · rw [if_neg h]
    have : (decide (1 ≤ k) && rk (b.getD i 0) == (k : Int)) = false := by
      rw [Bool.and_eq_false_iff]
      by_cases h1 : 1 ≤ k
      · right; simpa using fun h2 => h ⟨h1, h2⟩
      · left; simpa using h1
    simp only [List.countP_cons, List.countP_nil, this]
    rfl
theorem kT_succ (b : List Int) (i : Nat) (x : Int) : kT b (i + 1) x = kT b i x + if b.getD i 0 = x then 1 else 0 := by
  unfold kT
  rw [List.range_succ, List.countP_append]
  by_cases h : b.getD i 0 = x
  · simp [h]
  · rw [if_neg h]
    have : (b.getD i 0 == x) = false := by simpa using h
    simp only [List.countP_cons, List.countP_nil, this]
    rfl
def cL (b : List Int) (i : Nat) : List Int := (List.range 9).map fun k => ((cT b i k : Nat) : Int)
def kL (b : List Int) (i : Nat) : List Int := [((kT b i 8 : Nat) : Int), ((kT b i 24 : Nat) : Int)]

theorem king_piece {x : Int} (h : kd x = 8) : x = 8 ∨ x = 24 := by
  unfold kd at h
  split at h
  · cases h
  · omega
theorem chk6_val (b h : List Int) (s : Int) (b' : List Int) : ∀ (n i : Nat), i + n = 81 → ∃ c k, ∀ f, board_Checkl6 (f + n + 1) b i b' h s (cL b i) (kL b i) =
    some (if (List.range' i n).any (bsP b) then .inl (55, b', h, s, c, k) else .inr (b', h, s, cL b 81, kL b 81)) := by
  intro n
  induction n with
  | zero =>
    intro i hi
    refine ⟨[], [], fun f => ?_⟩
    show board_Checkl6s (board_Checkl6 (f + 0)) _ _ _ _ _ _ _ = _
    unfold board_Checkl6s
    rw [b_nlt (by omega), show i = 81 by omega]
    rfl
  | succ n ih =>
    intro i hi
    obtain ⟨c, k, hr⟩ := ih (i + 1) (by omega)
    by_cases hbad : bsP b i = true
    · refine ⟨cL b i, kL b i, fun f => ?_⟩
      show board_Checkl6s (board_Checkl6 (f + n + 1)) _ _ _ _ _ _ _ = _
      unfold board_Checkl6s
      have hb := hbad
      unfold bsP at hb
      rw [decide_eq_true_eq] at hb
      rw [b_lt (by omega), b_in (by omega) (by omega), cond_true, tn, kind_val, ob_some, b_neq hb.1, b_eq hb.2, any_cons, hbad]
      rfl
    · refine ⟨c, k, fun f => ?_⟩
      show board_Checkl6s (board_Checkl6 (f + n + 1)) _ _ _ _ _ _ _ = _
      unfold board_Checkl6s
      have hb : bsP b i = false := by simpa using hbad
      rw [any_cons, hb, Bool.false_or, ← hr f]
      unfold bsP at hb
      rw [decide_eq_false_iff_not] at hb
      rw [b_lt (by omega), b_in (by omega) (by omega), cond_true, tn, kind_val, ob_some, w_s (by omega) (by omega)]
      by_cases hz : b.getD i 0 = 0
      · have e1 : cL b (i + 1) = cL b i := by
          unfold cL
          apply List.map_congr_left
          intro k _
          rw [cT_succ, hz, rk_zero (by decide), if_neg (by omega)]
          rfl
        have e2 : kL b (i + 1) = kL b i := by
          unfold kL
          rw [kT_succ, kT_succ, hz, if_neg (by omega), if_neg (by omega)]
          rfl
        rw [b_eq hz, e1, e2]
        rfl
      · have hk : kd (b.getD i 0) ≠ 0 := by omega
        obtain ⟨r1, r2⟩ := rk_range hk
        obtain ⟨k1, k2, k3⟩ := kd_bounds (b.getD i 0)
        have hraw : piece_Raw (kd (b.getD i 0)) = some (rk (b.getD i 0)) := raw_val k1 k2
        have e1 : List.set (cL b i) (rk (b.getD i 0)).toNat (IntKind.wrap .i64 (List.getD (cL b i) (rk (b.getD i 0)).toNat 0 + 1)) = cL b (i + 1) := by
          unfold cL
          have hle := cT_le b i (rk (b.getD i 0)).toNat
          rw [map_getD _ (by omega), map_set, w_s (by omega) (by omega)]
          apply List.map_congr_left
          intro k hk
          simp only [List.mem_range] at hk
          rw [cT_succ]
          by_cases hkr : k = (rk (b.getD i 0)).toNat
          · rw [if_pos hkr, if_pos (by omega), hkr]; rfl
          · rw [if_neg hkr, if_neg (by omega)]; rfl
        rw [b_neq hz, b_neq hk]
        by_cases h8 : kd (b.getD i 0) = 8
        · have hle1 := kT_le b i 8
          have hle2 := kT_le b i 24
          rcases king_piece h8 with hx | hx
          · have hs : sd (b.getD i 0) = 0 := by rw [hx]; decide
            have e2 : List.set (kL b i) 0 (IntKind.wrap .i64 (List.getD (kL b i) 0 0 + 1)) = kL b (i + 1) := by
              unfold kL
              rw [kT_succ, kT_succ, hx, if_pos rfl, if_neg (by omega)]
              show [IntKind.wrap .i64 (((kT b i 8 : Nat) : Int) + 1), _] = _
              rw [w_s (by omega) (by omega)]
              rfl
            rw [b_eq h8, side_val, ob_some, hs, b_in (by omega) (by omega), b_in (by omega) (by omega), hraw, ob_some, b_in (by omega) (by omega), b_in (by omega) (by omega), e1]
            show board_Checkl6 (f + n + 1) b _ b' h s _ (List.set (kL b i) 0 (IntKind.wrap .i64 (List.getD (kL b i) 0 0 + 1))) = _
            rw [e2]
            rfl
          · have hs : sd (b.getD i 0) = 1 := by rw [hx]; decide
            have e2 : List.set (kL b i) 1 (IntKind.wrap .i64 (List.getD (kL b i) 1 0 + 1)) = kL b (i + 1) := by
              unfold kL
              rw [kT_succ, kT_succ, hx, if_neg (by omega), if_pos rfl]
              show [_, IntKind.wrap .i64 (((kT b i 24 : Nat) : Int) + 1)] = _
              rw [w_s (by omega) (by omega)]
              rfl
            rw [b_eq h8, side_val, ob_some, hs, b_in (by omega) (by omega), b_in (by omega) (by omega), hraw, ob_some, b_in (by omega) (by omega), b_in (by omega) (by omega), e1]
            show board_Checkl6 (f + n + 1) b _ b' h s _ (List.set (kL b i) 1 (IntKind.wrap .i64 (List.getD (kL b i) 1 0 + 1))) = _
            rw [e2]
            rfl
        · have e2 : kL b (i + 1) = kL b i := by
            have n8 : b.getD i 0 ≠ 8 := fun h => h8 (by rw [h]; decide)
            have n24 : b.getD i 0 ≠ 24 := fun h => h8 (by rw [h]; decide)
            unfold kL
            rw [kT_succ, kT_succ, if_neg n8, if_neg n24]
            rfl
          rw [b_neq h8, hraw, ob_some, b_in (by omega) (by omega), b_in (by omega) (by omega), e1, e2]
          rfl

theorem row_get {h : List Int} {s k : Nat} (_hs : s < 2) (hk : k < 8) : (List.take 8 (List.drop (Nat.add (Nat.mul s 7) s) h)).getD k 0 = h.getD (s * 8 + k) 0 := by
  rw [List.getD_eq_getElem?_getD, List.getElem?_take, if_pos hk, List.getElem?_drop, List.getD_eq_getElem?_getD]
  rw [show (Nat.add (Nat.mul s 7) s) + k = s * 8 + k from (by show s * 7 + s + k = s * 8 + k; omega)]

/-- Counts behind the hands of a side. -/
def addH (h : List Int) (s i : Nat) (g : Nat → Int) (j : Nat) : Int := if i ≤ j ∧ j < 8 then g j + h.getD (s * 8 + j) 0 else g j

theorem chk20p_val {h : List Int} (hf : Fits8 h) (b : List Int) (S : Int) (kk h' : List Int) (s : Nat) (hs : s < 2) : ∀ (n i : Nat), i + n = 8 → ∀ (g : Nat → Int), (∀ j, -200000 + 200 * n ≤ g j ∧ g j ≤ 200000 - 200 * n) →
    ∃ c, ∀ f, board_Checkl20 (f + n + 1) h s (List.take 8 (List.drop (Nat.add (Nat.mul s 7) s) h)) i b h' S ((List.range 9).map g) kk =
      some (if (List.range' i n).any (fun k => bsH h k s) then .inl (55, h, s, b, h', S, c, kk) else .inr (h, s, b, h', S, (List.range 9).map (addH h s i g), kk)) := by
  intro n
  induction n with
  | zero =>
    intro i hi g hg
    refine ⟨[], fun f => ?_⟩
    show board_Checkl20s (board_Checkl20 (f + 0)) _ _ _ _ _ _ _ _ _ = _
    unfold board_Checkl20s
    rw [b_nlt (by omega)]
    have : (List.range 9).map (addH h s i g) = (List.range 9).map g := by
      apply List.map_congr_left
      intro j _
      unfold addH
      rw [if_neg (by omega)]
    rw [this]
    rfl
  | succ n ih =>
    intro i hi g hg
    have hr := row_get (h := h) (s := s) (k := i) hs (by omega)
    have hb := hf (s * 8 + i)
    by_cases hbad : bsH h i s = true
    · refine ⟨(List.range 9).map g, fun f => ?_⟩
      show board_Checkl20s (board_Checkl20 (f + n + 1)) _ _ _ _ _ _ _ _ _ = _
      unfold board_Checkl20s
      have hx := hbad
      unfold bsH at hx
      rw [decide_eq_true_eq] at hx
      rw [b_lt (by omega), b_in (by omega) (by omega), cond_true, tn, hr, any_cons, hbad]
      by_cases h0 : h.getD (s * 8 + i) 0 < 0
      · rw [b_lt h0]
        rfl
      · rw [b_nlt h0, b_gt (by omega), b_eq (by omega)]
        rfl
    · have hx : bsH h i s = false := by simpa using hbad
      have hx2 := hx
      unfold bsH at hx2
      rw [decide_eq_false_iff_not] at hx2
      obtain ⟨c, hc⟩ := ih (i + 1) (by omega) (fun j => if j = i then g j + h.getD (s * 8 + j) 0 else g j) (fun j => by
        have := hg j
        split
        · rename_i hj; subst hj; omega
        · omega)
      refine ⟨c, fun f => ?_⟩
      show board_Checkl20s (board_Checkl20 (f + n + 1)) _ _ _ _ _ _ _ _ _ = _
      unfold board_Checkl20s
      have hgi := hg i
      have e1 : List.set ((List.range 9).map g) i (IntKind.wrap .i64 (List.getD ((List.range 9).map g) i 0 + h.getD (s * 8 + i) 0)) = (List.range 9).map fun j => if j = i then g j + h.getD (s * 8 + j) 0 else g j := by
        rw [map_getD _ (by omega), map_set, w_s (by omega) (by omega)]
        apply List.map_congr_left
        intro j _
        split
        · rename_i hj; subst hj; rfl
        · rfl
      have e2 : (List.range 9).map (addH h s (i + 1) fun j => if j = i then g j + h.getD (s * 8 + j) 0 else g j) = (List.range 9).map (addH h s i g) := by
        apply List.map_congr_left
        intro j _
        unfold addH
        by_cases hj : j = i
        · subst hj; simp; omega
        · simp only [hj, if_false]
          by_cases h1 : i ≤ j ∧ j < 8
          · rw [if_pos (by omega), if_pos h1]
          · rw [if_neg (by omega), if_neg h1]
      have := hc f
      rw [e2] at this
      rw [b_lt (by omega), b_in (by omega) (by omega), cond_true, tn, hr, any_cons, hx, Bool.false_or, b_nlt (by omega), c_8, e1, w_s (by omega) (by omega)]
      by_cases h0 : h.getD (s * 8 + i) 0 > 0
      · rw [b_gt h0, b_neq (by omega), b_neq (by omega), b_in (by omega) (by omega), b_in (by omega) (by omega)]
        exact this
      · rw [b_ngt h0, b_in (by omega) (by omega), b_in (by omega) (by omega)]
        exact this

theorem chk17p_val {h : List Int} (hf : Fits8 h) (b h' : List Int) (S : Int) (kk : List Int) (g : Nat → Int) (hg : ∀ j, -100 ≤ g j ∧ g j ≤ 100) :
    ∃ c, ∀ f, board_Checkl17 (f + 2 + 1) h 0 b h' S ((List.range 9).map g) kk =
      some (if (List.range' 0 2).any (fun s => (List.range' 0 8).any fun k => bsH h k s) then .inl (55, b, h', S, c, kk) else .inr (b, h', S, (List.range 9).map (addH h 1 0 (addH h 0 0 g)), kk)) := by
  obtain ⟨g8, hg8⟩ := many_eq 8 (by omega)
  obtain ⟨c0, h0⟩ := chk20p_val hf b S kk h' 0 (by omega) 8 0 (by omega) g (fun j => by have := hg j; omega)
  have h0 := h0 g8
  rw [← hg8] at h0
  obtain ⟨c1, h1⟩ := chk20p_val hf b S kk h' 1 (by omega) 8 0 (by omega) (addH h 0 0 g) (fun j => by
    have := hg j
    have := hf (0 * 8 + j)
    unfold addH
    split <;> omega)
  have h1 := h1 g8
  rw [← hg8] at h1
  have any2 : (List.range' 0 2).any (fun s => (List.range' 0 8).any fun k => bsH h k s) = ((List.range' 0 8).any (fun k => bsH h k 0) || (List.range' 0 8).any (fun k => bsH h k 1)) := by
    rw [any_cons (fun s => (List.range' 0 8).any fun k => bsH h k s), any_cons (fun s => (List.range' 0 8).any fun k => bsH h k s) 1 0]
    simp
  rw [any2]
  cases hb0 : (List.range' 0 8).any (fun k => bsH h k 0) with
  | true =>
    refine ⟨c0, fun f => ?_⟩
    show board_Checkl17s (board_Checkl17 (f + 2)) _ _ _ _ _ _ _ = _
    unfold board_Checkl17s
    rw [b_lt (by omega), b_in (by omega) (by omega), show board_Checkl20 many h 0 (List.take 8 (List.drop (Nat.add (Nat.mul (Int.toNat 0) 7) (Int.toNat 0)) h)) 0 b h' S ((List.range 9).map g) kk = _ from h0, hb0, ob_some]
    rfl
  | false =>
    refine ⟨c1, fun f => ?_⟩
    show board_Checkl17s (board_Checkl17 (f + 2)) _ _ _ _ _ _ _ = _
    unfold board_Checkl17s
    rw [b_lt (by omega), b_in (by omega) (by omega), show board_Checkl20 many h 0 (List.take 8 (List.drop (Nat.add (Nat.mul (Int.toNat 0) 7) (Int.toNat 0)) h)) 0 b h' S ((List.range 9).map g) kk = _ from h0, hb0, ob_some, if_neg (by decide), sw_inr]
    simp only
    show board_Checkl17s (board_Checkl17 (f + 1)) _ _ _ _ _ _ _ = _
    unfold board_Checkl17s
    rw [b_lt (by rw [w_s (by omega) (by omega)]; omega), b_in (by rw [w_s (by omega) (by omega)]; omega) (by rw [w_s (by omega) (by omega)]; omega)]
    rw [show IntKind.wrap .i64 (((0 : Nat) : Int) + 1) = 1 from rfl, show board_Checkl20 many h 1 (List.take 8 (List.drop (Nat.add (Nat.mul (Int.toNat 1) 7) (Int.toNat 1)) h)) 0 b h' S ((List.range 9).map (addH h 0 0 g)) kk = _ from h1, ob_some]
    cases hb1 : (List.range' 0 8).any (fun k => bsH h k 1) with
    | true => rfl
    | false =>
      rw [if_neg (by decide), sw_inr]
      simp only
      show board_Checkl17s (board_Checkl17 f) _ _ _ _ _ _ _ = _
      unfold board_Checkl17s
      rw [b_nlt (by decide)]
      rfl

theorem cnt_cT {b : List Int} (hl : b.length = 81) {k : Nat} (hk : 1 ≤ k) : cnt b k = cT b 81 k := by
  have hb : b = (List.range 81).map fun j => b.getD j 0 := by
    apply List.ext_getElem
    · simp [hl]
    · intro i h1 h2
      rw [List.getElem_map, List.getElem_range, at_i h1]
  unfold cnt cT
  conv => lhs; rw [hb]
  rw [List.countP_map]
  apply List.countP_congr
  intro j _
  show (rw_ (kd (b.getD j 0)) == (k : Int)) = true ↔ _
  simp [hk, rk]

theorem total_valP : ∀ k : Fin 9, piece_Total ((k.val : Nat) : Int) = some (totS ((k.val : Nat) : Int)) := by decide +kernel
theorem chk30p_val {b h : List Int} {g : Nat → Int} (hg : ∀ k : Nat, 1 ≤ k → k < 8 → g k = cnt b k + hd_ h 0 k + hd_ h 1 k) (b' h' : List Int) (s : Int) : ∀ (n i : Nat), i + n = 8 → 1 ≤ i → ∀ f,
    board_Checkl30 (f + n + 1) i b' h' s ((List.range 9).map g) = some (if (List.range' i n).any (overS b h) then .inl (51, b', h', s) else .inr (b', h', s)) := by
  intro n
  induction n with
  | zero =>
    intro i hi _ f
    show board_Checkl30s (board_Checkl30 (f + 0)) _ _ _ _ _ = _
    unfold board_Checkl30s
    rw [b_nlt (by omega)]
    rfl
  | succ n ih =>
    intro i hi h1 f
    show board_Checkl30s (board_Checkl30 (f + n + 1)) _ _ _ _ _ = _
    unfold board_Checkl30s
    have ht := total_valP ⟨i, by omega⟩
    simp only at ht
    rw [b_lt (by omega), b_in (by omega) (by omega), ht, ob_some, tn, map_getD _ (by omega), hg i h1 (by omega), any_cons, w_s (by omega) (by omega)]
    have := ih (i + 1) (by omega) (by omega) f
    by_cases ho : totS i < cnt b i + hd_ h 0 i + hd_ h 1 i
    · rw [b_gt ho, show overS b h i = true by unfold overS; simpa using ho]
      rfl
    · rw [b_ngt ho, show overS b h i = false by unfold overS; simpa using ho, Bool.false_or]
      exact this

theorem bsH_comm (h : List Int) : ((List.range' 0 2).any fun s => (List.range' 0 8).any fun k => bsH h k s) = (List.range' 0 8).any fun k => (List.range' 0 2).any (bsH h k) := by
  rw [Bool.eq_iff_iff]
  simp only [List.any_eq_true]
  constructor
  · rintro ⟨s, hs, k, hk, h1⟩
    exact ⟨k, hk, s, hs, h1⟩
  · rintro ⟨k, hk, s, hs, h1⟩
    exact ⟨s, hs, k, hk, h1⟩

theorem bad_clean {b : List Int} (hl : b.length = 81) (h : (List.range' 0 81).any (bsP b) = false) : Clean b := by
  refine ⟨hl, fun i hi => ?_⟩
  rw [List.any_eq_false] at h
  have := h i (by rw [List.mem_range']; exact ⟨i, hi, by omega⟩)
  unfold bsP at this
  rw [decide_eq_true_eq] at this
  omega

theorem check_full {b h : List Int} (hl : b.length = 81) (hf : Fits8 h) (s : Int) : board_Check b h s = some (chkS b h s) := by
  obtain ⟨g81, hg81⟩ := many_eq 81 (by omega)
  obtain ⟨g7, hg7⟩ := many_eq 7 (by omega)
  obtain ⟨g2, hg2⟩ := many_eq 2 (by omega)
  obtain ⟨c6, k6, h6⟩ := chk6_val b h s b 81 0 (by omega)
  have h6 := h6 g81
  rw [← hg81] at h6
  have z1 : cL b 0 = [0, 0, 0, 0, 0, 0, 0, 0, 0] := rfl
  have z2 : kL b 0 = [0, 0] := rfl
  rw [z1, z2] at h6
  obtain ⟨c17, h17⟩ := chk17p_val hf b h s (kL b 81) (fun k => ((cT b 81 k : Nat) : Int)) (fun j => by have := cT_le b 81 j; omega)
  have h17 := h17 g2
  rw [← hg2] at h17
  have hgc : ∀ k : Nat, 1 ≤ k → k < 8 → addH h 1 0 (addH h 0 0 fun k => ((cT b 81 k : Nat) : Int)) k = cnt b k + hd_ h 0 k + hd_ h 1 k := by
    intro k k1 k8
    unfold addH
    rw [if_pos (by omega), if_pos (by omega), cnt_cT hl k1]
    rfl
  have h30 := chk30p_val hgc b h s 7 1 (by omega) (by omega) g7
  rw [← hg7] at h30
  have main : (ob (board_Checkl6 many b 0 b h s ([0, 0, 0, 0, 0, 0, 0, 0, 0]) ([0, 0])) fun t3_2 =>
      sw t3_2 (fun (a3_0, _, _, _, _, _) =>
       some (a3_0))
       (fun (a3_0, a3_1, a3_2, a3_3, a3_4) =>
       ob (board_Checkl17 many a3_1 0 a3_0 a3_1 a3_2 a3_3 a3_4) fun t8_2 =>
       sw t8_2 (fun (a8_0, _, _, _, _, _) =>
        some (a8_0))
        (fun (a8_0, a8_1, a8_2, a8_3, a8_4) =>
        br (!a8_4 == [1, 1])
         (some (50))
         (ob (board_Checkl30 many 1 a8_0 a8_1 a8_2 a8_3) fun t13_2 =>
         sw t13_2 (fun (a13_0, _, _, _) =>
          some (a13_0))
          (fun (a13_0, a13_1, a13_2) =>
          ob (board_files a13_0 a13_1 a13_2) fun a16 =>
          some (a16)))) ) : Option Int) =
      some (if (List.range' 0 81).any (bsP b) then 55
        else if (List.range' 0 8).any (fun k => (List.range' 0 2).any (bsH h k)) then 55
        else if ¬ (nP b 8 = 1 ∧ nP b 24 = 1) then 50
        else if (List.range' 1 7).any (overS b h) then 51
        else if (List.range' 0 81).any (fun i => deadS (b.getD i 0) i) then 52
        else if (List.range' 0 9).any (nifuS b) then 53
        else 0) := by
    rw [show board_Checkl6 many b 0 b h s [0, 0, 0, 0, 0, 0, 0, 0, 0] [0, 0] = _ from h6, ob_some]
    cases hbad : (List.range' 0 81).any (bsP b) with
    | true => rfl
    | false =>
      have hc := bad_clean hl hbad
      rw [if_neg (by decide), if_neg (by decide), sw_inr]
      simp only
      rw [show board_Checkl17 many h 0 b h s (cL b 81) (kL b 81) = _ from h17, ob_some, bsH_comm]
      split
      · rfl
      rw [sw_inr]
      simp only
      have hk : (!kL b 81 == [1, 1]) = decide (¬ (nP b 8 = 1 ∧ nP b 24 = 1)) := by
        show (!([((nP b 8 : Nat) : Int), ((nP b 24 : Nat) : Int)] == [1, 1])) = _
        rw [Bool.eq_iff_iff]
        simp
        omega
      rw [hk]
      by_cases h8 : nP b 8 = 1 ∧ nP b 24 = 1
      · rw [br_false (by simpa using h8), if_neg (by simpa using h8), show board_Checkl30 many 1 b h s _ = _ from h30, ob_some]
        split
        · rfl
        rw [sw_inr]
        simp only
        rw [files_val hc, ob_some]
      · rw [br_true (by rw [decide_eq_true_eq]; exact h8), if_pos h8]
  unfold board_Check chkS
  by_cases h0 : s = 0
  · rw [b_nne h0, if_neg (by simp [h0])]
    exact main
  · rw [b_ne h0]
    by_cases h1 : s = 1
    · rw [b_nne h1, if_neg (by simp [h1])]
      exact main
    · rw [b_ne h1, if_pos (by simp [h0, h1])]

theorem begins_true : law05_begins = some true := by kernel_rfl

theorem boardChecks_true {b h : List Int} (hl : b.length = 81) (hf : Fits8 h) (s : Int) : law05_BoardChecks b h s = some true := by
  unfold law05_BoardChecks
  rw [begins_true, ob_some]
  simp only [Bool.not_true, b_f]
  rw [check_full hl hf, ob_some, refCheck_val hl hf, ob_some]
  simp

end Go.Kk.Pl
