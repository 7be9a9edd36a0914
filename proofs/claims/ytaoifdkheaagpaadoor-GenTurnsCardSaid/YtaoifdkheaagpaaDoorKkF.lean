/-
  Regions: those in their order, and those whose order is drawn.
-/
import Derived.Test.YtaoifdkheaagpaaDoorKkD
import Derived.Orders
namespace Go.Kk

/-- How the world has come from another. -/
structure Onto (e0 : Env) (w0 : World) (e : Env) (w : World) : Prop where
  fr : Frame' e0 w0 w
  ex : Ext e0 e w0

theorem Onto.refl {e : Env} {w : World} (h : RelH e w) : Onto e w e w := ⟨Frame'.refl _ _, Ext.refl h⟩

theorem Onto.trans {e0 e1 e2 : Env} {w0 w1 w2 : World} (a : Onto e0 w0 e1 w1) (b : Onto e1 w1 e2 w2) : Onto e0 w0 e2 w2 := by
  have own1 : ∀ o b, (e1.h.get o).shape ≠ .dead → blk e1.nm o = some b → w0.heap.size ≤ b ∨ ∃ o', (e0.h.get o').shape ≠ .dead ∧ blk e0.nm o' = some b ∧ ((e1.h.get o).owned = true → (e0.h.get o').owned = true) := by
    intro o b' ho hb
    rcases Nat.lt_or_ge o e0.nx with h | h
    · obtain ⟨x1, x2, x3⟩ := a.ex.old o h
      refine .inr ⟨o, ?_, by simp only [blk] at hb ⊢; rw [← x1]; exact hb, x3⟩
      rcases x2 with x2 | x2
      · rwa [← x2]
      · exact absurd x2 ho
    · exact a.ex.own o b' h ho hb
  refine ⟨⟨b.fr.os.trans a.fr.os, b.fr.tape.trans a.fr.tape, b.fr.output.trans a.fr.output, Nat.le_trans a.fr.size b.fr.size, fun k hk hno => ?_⟩, ⟨Nat.le_trans a.ex.nx b.ex.nx, fun o ho => ?_, fun o b' ho hd hb => ?_⟩⟩
  · rw [b.fr.block k (Nat.lt_of_lt_of_le hk a.fr.size) fun o ho hb => ?_]
    · exact a.fr.block k hk hno
    · rcases own1 o k (owned_live ho) hb with h | ⟨o', _, h2, h3⟩
      · omega
      · exact hno o' (h3 ho) h2
  · obtain ⟨x1, x2, x3⟩ := a.ex.old o ho
    obtain ⟨y1, y2, y3⟩ := b.ex.old o (Nat.lt_of_lt_of_le ho a.ex.nx)
    refine ⟨y1.trans x1, ?_, fun h => x3 (y3 h)⟩
    rcases y2 with y2 | y2
    · rw [y2]; exact x2
    · exact .inr y2
  · rcases Nat.lt_or_ge o e1.nx with h | h
    · obtain ⟨y1, y2, y3⟩ := b.ex.old o h
      have hd1 : (e1.h.get o).shape ≠ .dead := by
        rcases y2 with y2 | y2
        · rwa [← y2]
        · exact absurd y2 hd
      rcases a.ex.own o b' ho hd1 (by simp only [blk] at hb ⊢; rw [← y1]; exact hb) with h1 | ⟨o', h1, h2, h3⟩
      · exact .inl h1
      · exact .inr ⟨o', h1, h2, fun h => h3 (y3 h)⟩
    · rcases b.ex.own o b' h hd hb with h1 | ⟨o', h1, h2, h3⟩
      · exact .inl (Nat.le_trans a.fr.size h1)
      · rcases own1 o' b' h1 h2 with h4 | ⟨o'', h4, h5, h6⟩
        · exact .inl h4
        · exact .inr ⟨o'', h4, h5, fun h => h6 (h3 h)⟩

/-- The state of a function's run, told. -/
structure SR (c : Ctx) (e : Env) (ρ : Rg) (a : Act) (w : World) : Prop where
  reg : ∀ t, RelV e (Rg.get ρ t) (a.tmps.getD t undef)
  size : a.tmps.size = c.nt
  defers : a.defers = []
  hp : RelH e w

theorem opnd_rel {e : Env} {ρ : Rg} {a : Act} {x : Operand} (h : ∀ t, x = .tmp t → RelV e (Rg.get ρ t) (a.tmps.getD t undef)) : RelV e (ev ρ x) (a.eval x) := by
  cases x with
  | tmp t => exact h t rfl
  | const v => exact constV_rel e v
  | func f => exact ⟨[], rfl, trivial⟩
  | global g =>
    simp only [ev]
    split
    · rename_i hg
      exact ⟨rfl, _, _, hg, Nat.succ_pos _⟩
    · trivial

theorem put_getD {a : Act} {dst : Option Tmp} {v : Value} {n : Nat} (hs : a.tmps.size = n) (hd : ∀ d, dst = some d → d < n) (t : Nat) :
    (a.put dst v).tmps.getD t undef = if dst = some t then v else a.tmps.getD t undef := by
  cases dst with
  | none => simp [Act.put]
  | some d =>
    have := hd d rfl
    by_cases h : d = t
    · subst h
      simp [Act.put, Array.getD_eq_getD_getElem?, hs, this]
    · simp [Act.put, Array.getD_eq_getD_getElem?, h]
theorem put_size {a : Act} {dst : Option Tmp} {v : Value} : (a.put dst v).tmps.size = a.tmps.size := by cases dst <;> simp [Act.put]
theorem put_def {a : Act} {dst : Option Tmp} {v : Value} : (a.put dst v).defers = a.defers := by cases dst <;> rfl
theorem undef_rel (e : Env) : RelV e undefV undef := ⟨#[], rfl, trivial⟩

section
variable {P : Program} {c : Ctx}

/-! ### in their order -/

theorem opsE_ok {ops : List Oper} (hc : CtxOK P c) : ∀ (l : List Oper) {R : Type} {ρ : Rg} {h : Hp} {nx : Nat} {K : Rg → Hp → Nat → Option R} {r : R}, opsE c ops l ρ h nx K = some r →
    ∃ ρ' h' nx', K ρ' h' nx' = some r ∧ ∀ {nm : Nm} {a : Act} {w : World} {Q : Exit → Act → World → Prop}, SR c ⟨nm, h, nx⟩ ρ a w →
      (∀ nm' a' w', SR c ⟨nm', h', nx'⟩ ρ' a' w' → Onto ⟨nm, h, nx⟩ w ⟨nm', h', nx'⟩ w' → Q .normal a' w') → wpList P ops.toArray Q l a w := by
  intro l
  induction l with
  | nil => intro R ρ h nx K r hE; exact ⟨ρ, h, nx, hE, fun hs hQ => hQ _ _ _ hs (Onto.refl hs.hp)⟩
  | cons o l ih =>
    intro R ρ h nx K r hE
    obtain ⟨want, v, up, nx', ρ', h1, h2, h3⟩ := stepE_ok hc hE
    obtain ⟨ρ'', h'', nx'', k1, k2⟩ := ih h1
    refine ⟨ρ'', h'', nx'', k1, fun {nm a w Q} hs hQ => ?_⟩
    have hw := h2.wtd ⟨nm, h, nx⟩ a fun t _ => hs.reg t
    unfold wpList
    rw [hw]
    cases want with
    | true =>
      rw [if_pos rfl]
      refine .inl (h2.run rfl nm w a (fun x _ => opnd_rel fun t _ => hs.reg t) hs.hp _ Q fun vr nm' w' r1 r2 r3 r4 => ?_)
      refine k2 ⟨fun t => ?_, put_size.trans hs.size, put_def.trans hs.defers, r2⟩ fun nm'' a'' w'' e2 e3 => hQ _ _ _ e2 (Onto.trans ⟨r3, r4⟩ e3)
      rw [h3 t, put_getD hs.size h2.dst]
      split
      · exact r1
      · exact (hs.reg t).ext r4
    | false =>
      obtain ⟨rfl, rfl, rfl⟩ := h2.skip rfl
      rw [if_neg (by simp)]
      refine k2 ⟨fun t => ?_, put_size.trans hs.size, put_def.trans hs.defers, hs.hp⟩ hQ
      rw [h3 t, put_getD hs.size h2.dst]
      split
      · exact undef_rel _
      · exact hs.reg t

/-! ### what came before -/

theorem ancs_spec {ops : List Oper} {D : Nat → Prop} (down : ∀ i o, ops[i]? = some o → D i → ∀ e ∈ o.after, Region.binds .any e = true → D e.on) :
    ∀ (l : List Oper) (tb : List Nat) (k : Nat), tb.length = k → ops.drop k = l → (∀ i o, i < k → ops[i]? = some o → (∀ e ∈ o.after, Region.binds .any e = true → D e.on) → ∀ j, Nat.testBit (tb.getD i 0) j = true → D j) →
      (∀ i o, k ≤ i → ops[i]? = some o → edgesOk o i = true) →
      ∀ i o, ops[i]? = some o → (∀ e ∈ o.after, Region.binds .any e = true → D e.on) → ∀ j, Nat.testBit ((ancs l tb).getD i 0) j = true → D j := by
  intro l
  induction l with
  | nil =>
    intro tb k hk hd hI _ i o ho he j hj
    have : ops.length ≤ k := by simpa using hd
    exact hI i o (by have := getElem?_lt ho; omega) ho he j hj
  | cons o l ih =>
    intro tb k hk hd hI hE
    have hko : ops[k]? = some o := by
      have := congrArg (·[0]?) hd
      simpa using this
    refine ih _ (k + 1) (by simp [hk]) (by rw [← List.drop_drop, hd]; rfl) (fun i o' hi ho' he j hj => ?_) (fun i o' hi ho' => hE i o' (by omega) ho')
    rcases Nat.lt_or_ge i k with hlt | hge
    · rw [List.getD_eq_getElem?_getD, List.getElem?_append_left (by omega), ← List.getD_eq_getElem?_getD] at hj
      exact hI i o' hlt ho' he j hj
    · have : i = k := by omega
      subst this
      rw [hko] at ho'
      cases ho'
      rw [List.getD_eq_getElem?_getD, List.getElem?_append_right (by omega)] at hj
      simp only [hk, Nat.sub_self, List.getElem?_cons_zero, Option.getD_some] at hj
      have hmem : ∀ e ∈ o.after.toList, Region.binds .any e = true → D e.on := fun e he' hb => he e (by simpa using he') hb
      have hed := hE i o (Nat.le_refl _) hko
      unfold edgesOk at hed
      rw [List.all_eq_true] at hed
      revert hj hmem hed
      generalize o.after.toList = es
      intro hj hmem hed
      induction es with
      | nil => simp at hj
      | cons e es ihs =>
        simp only [List.foldr_cons] at hj
        have tail := fun hj => ihs hj (fun e' he' hb => hmem e' (by simp [he']) hb) (fun e' he' => hed e' (by simp [he']))
        cases hb : Region.binds .any e with
        | false => rw [hb] at hj; exact tail hj
        | true =>
          rw [hb] at hj
          simp only [cond_true, Nat.testBit_or, Bool.or_eq_true] at hj
          have hde := hmem e (by simp) hb
          rcases hj with (hj | hj) | hj
          · exact tail hj
          · rw [Nat.one_shiftLeft, Nat.testBit_two_pow] at hj
            have : e.on = j := by simpa using hj
            rw [← this]; exact hde
          · have hlt : e.on < i := by
              have := hed e (by simp)
              rw [hb] at this
              simpa [Nat.blt_eq] using this
            obtain ⟨oe, hoe⟩ : ∃ oe, ops[e.on]? = some oe := by
              have := getElem?_lt hko
              exact ⟨_, List.getElem?_eq_getElem (by omega)⟩
            exact hI e.on oe hlt hoe (fun e' he' hb' => down e.on oe hoe hde e' he' hb') j hj

theorem pairOk_spec {ops : List Oper} {x : Oper} {tx : List Nat} {m : Nat} : ∀ (l : List Oper) (i : Nat), pairOk ops x tx m i l = true → ∀ j y, l[j]? = some y →
    Nat.testBit m (i + j) = true ∨ (dstIn x.dst (tmpsOf ops y) = false ∧ dstIn y.dst tx = false ∧ dstEq x.dst y.dst = false) := by
  intro l
  induction l with
  | nil => intro i _ j y hy; cases hy
  | cons z l ih =>
    intro i h j y hy
    simp only [pairOk, Bool.and_eq_true, Bool.or_eq_true, Bool.not_eq_true'] at h
    cases j with
    | zero =>
      cases hy
      rcases h.1 with h1 | ⟨⟨h1, h2⟩, h3⟩
      · exact .inl h1
      · exact .inr ⟨h1, h2, h3⟩
    | succ j =>
      have := ih (i + 1) h.2 j y (by simpa using hy)
      rwa [show i + 1 + j = i + (j + 1) by omega] at this

theorem pairsOk_spec {ops : List Oper} {tb : List Nat} : ∀ (l pre : List Oper) (k : Nat), pre.length = k → pairsOk ops tb k pre l = true → ∀ i o, l[i]? = some o → edgesOk o (k + i) = true ∧
    ∀ j y, j < k + i → (pre ++ l)[j]? = some y → Nat.testBit (tb.getD (k + i) 0) j = true ∨
      (dstIn o.dst (tmpsOf ops y) = false ∧ dstIn y.dst (tmpsOf ops o) = false ∧ dstEq o.dst y.dst = false) := by
  intro l
  induction l with
  | nil => intro pre k _ _ i o ho; cases ho
  | cons z l ih =>
    intro pre k hk h i o ho
    simp only [pairsOk, Bool.and_eq_true] at h
    cases i with
    | zero =>
      cases ho
      refine ⟨h.1.1, fun j y hj hy => ?_⟩
      have := pairOk_spec pre 0 h.1.2 j y (by rwa [List.getElem?_append_left (by omega)] at hy)
      simpa using this
    | succ i =>
      have := ih (pre ++ [z]) (k + 1) (by simp [hk]) h.2 i o (by simpa using ho)
      rw [show k + 1 + i = k + (i + 1) by omega] at this
      refine ⟨this.1, fun j y hj hy => this.2 j y hj ?_⟩
      rw [← hy]; simp

theorem apartN_spec : ∀ {l m : List Nat}, apartN l m = true → ∀ x ∈ l, x ∉ m := by
  intro l
  induction l with
  | nil => intro m _ x hx; cases hx
  | cons y l ih =>
    intro m h x hx
    simp only [apartN, Bool.and_eq_true, Bool.not_eq_true'] at h
    rcases List.mem_cons.1 hx with rfl | hx
    · intro hm; rw [memN_iff.2 hm] at h; cases h.1
    · exact ih h.2 x hx

theorem logPair_spec {x : Lg} {m : Nat} : ∀ (l : List Lg) (i : Nat), logPair x m i l = true → ∀ j y, l[j]? = some y → Nat.testBit m (i + j) = true ∨ ((x.soft = true ∨ y.soft = true) ∧ (∀ o ∈ x.reads, o ∉ y.hurts x.deep) ∧ ∀ o ∈ y.reads, o ∉ x.hurts y.deep) := by
  intro l
  induction l with
  | nil => intro i _ j y hy; cases hy
  | cons z l ih =>
    intro i h j y hy
    simp only [logPair, Bool.and_eq_true, Bool.or_eq_true] at h
    cases j with
    | zero =>
      cases hy
      rcases h.1 with h1 | ⟨⟨h0, h1⟩, h2⟩
      · exact .inl h1
      · exact .inr ⟨h0, apartN_spec h1, apartN_spec h2⟩
    | succ j =>
      have := ih (i + 1) h.2 j y (by simpa using hy)
      rwa [show i + 1 + j = i + (j + 1) by omega] at this
theorem logOk_spec {tb : List Nat} : ∀ (l pre : List Lg) (k : Nat), pre.length = k → logOk tb k pre l = true → ∀ i x, l[i]? = some x → ∀ j y, j < k + i → (pre ++ l)[j]? = some y →
    Nat.testBit (tb.getD (k + i) 0) j = true ∨ ((x.soft = true ∨ y.soft = true) ∧ (∀ o ∈ x.reads, o ∉ y.hurts x.deep) ∧ ∀ o ∈ y.reads, o ∉ x.hurts y.deep) := by
  intro l
  induction l with
  | nil => intro pre k _ _ i o ho; cases ho
  | cons z l ih =>
    intro pre k hk h i o ho
    simp only [logOk, Bool.and_eq_true] at h
    cases i with
    | zero =>
      cases ho
      intro j y hj hy
      have := logPair_spec pre 0 h.1 j y (by rwa [List.getElem?_append_left (by omega)] at hy)
      simpa using this
    | succ i =>
      have := ih (pre ++ [z]) (k + 1) (by simp [hk]) h.2 i o (by simpa using ho)
      rw [show k + 1 + i = k + (i + 1) by omega] at this
      intro j y hj hy
      refine this j y hj ?_
      rw [← hy]; simp

/-! ### the run in the written order, step by step -/

structure Tr where
  ρ : Nat → Rg
  h : Nat → Hp
  nx : Nat → Nat
  want : Nat → Bool
  v : Nat → V
  up : Nat → Hp
  sf : Nat → Bool

structure TrOK (P : Program) (c : Ctx) (ops : List Oper) (T : Tr) (lg : List Lg) (i : Nat) (o : Oper) : Prop where
  step : StepOK P c ops o (T.ρ i) (T.h i) (T.nx i) (T.want i) (T.v i) (T.up i) (T.nx (i + 1))
  put : PutEq o (T.ρ i) (T.ρ (i + 1)) (T.v i)
  hp : T.h (i + 1) = T.up i ++ T.h i
  sf : T.sf i = softDyn o (T.up i) (T.nx i) (T.nx (i + 1)) (T.h i) (opReads (T.ρ i) (T.h i) o)
  log : lg[i]? = some ⟨T.sf i, deepOp o.op, opReads (T.ρ i) (T.h i) o, (T.up i).map (·.1), turnedIn (T.h i) (T.up i)⟩

theorem opsD_trace {ops : List Oper} (hc : CtxOK P c) : ∀ (l : List Oper) (k : Nat) {R : Type} {lg : List Lg} {ρ : Rg} {h : Hp} {nx : Nat} {K : List Lg → Rg → Hp → Nat → Option R} {r : R},
    opsD c ops l lg ρ h nx K = some r → ops.drop k = l → lg.length = k → k ≤ ops.length →
    ∃ T lgF, T.ρ k = ρ ∧ T.h k = h ∧ T.nx k = nx ∧ K lgF (T.ρ ops.length) (T.h ops.length) (T.nx ops.length) = some r ∧ lgF.take k = lg ∧ ∀ i o, k ≤ i → ops[i]? = some o → TrOK P c ops T lgF i o := by
  intro l
  induction l with
  | nil =>
    intro k R lg ρ h nx K r hE hd hl hkl
    have hk : k = ops.length := by
      have : ops.length ≤ k := by simpa using hd
      omega
    subst hk
    exact ⟨⟨fun _ => ρ, fun _ => h, fun _ => nx, fun _ => false, fun _ => undefV, fun _ => [], fun _ => false⟩, lg, rfl, rfl, rfl, hE, by rw [← hl]; simp, fun i o hi ho => by have := getElem?_lt ho; omega⟩
  | cons o l ih =>
    intro k R lg ρ h nx K r hE hd hl hkl
    have hko : ops[k]? = some o := by
      have := congrArg (·[0]?) hd
      simpa using this
    have hklt := getElem?_lt hko
    obtain ⟨want, v, up, nx', ρ', h1, h2, h3⟩ := stepE_ok hc hE
    simp only [fNs_eq, fHp_eq] at h1
    have hup : ((up ++ h).take ((up ++ h).length - h.length)) = up := by
      rw [List.length_append, Nat.add_sub_cancel]; simp
    obtain ⟨T, lgF, t1, t2, t3, t4, t5, t6⟩ := ih (k + 1) h1 (by rw [← List.drop_drop, hd]; rfl) (by simp [hl]) (by omega)
    rw [hup] at t5
    have hsel : ∀ {α : Type} (x : α) (f : Nat → α) (i : Nat), k < i → (if i = k then x else f i) = f i := fun x f i hi => if_neg (by omega)
    refine ⟨⟨fun i => if i = k then ρ else T.ρ i, fun i => if i = k then h else T.h i, fun i => if i = k then nx else T.nx i, fun i => if i = k then want else T.want i, fun i => if i = k then v else T.v i,
      fun i => if i = k then up else T.up i, fun i => if i = k then softDyn o up nx nx' h (opReads ρ h o) else T.sf i⟩, lgF, if_pos rfl, if_pos rfl, if_pos rfl, ?_, ?_, fun i o' hi ho' => ?_⟩
    · simp only [hsel _ _ _ hklt]; exact t4
    · have := congrArg (List.take k) t5
      rw [List.take_take, Nat.min_eq_left (by omega)] at this
      rw [this, ← hl]; simp
    · rcases Nat.lt_or_ge k i with hlt | hge
      · obtain ⟨x1, x2, x3, x5, x4⟩ := t6 i o' hlt ho'
        refine ⟨?_, ?_, ?_, ?_, ?_⟩
        · simp only [hsel _ _ _ hlt, hsel _ _ _ (Nat.lt_succ_of_lt hlt)]; exact x1
        · simp only [hsel _ _ _ hlt, hsel _ _ _ (Nat.lt_succ_of_lt hlt)]; exact x2
        · simp only [hsel _ _ _ hlt, hsel _ _ _ (Nat.lt_succ_of_lt hlt)]; exact x3
        · simp only [hsel _ _ _ hlt, hsel _ _ _ (Nat.lt_succ_of_lt hlt)]; exact x5
        · simp only [hsel _ _ _ hlt]; exact x4
      · have : i = k := by omega
        subst this
        rw [hko] at ho'
        cases ho'
        have hs : (i + 1 = i) = False := by simp
        refine ⟨?_, ?_, ?_, ?_, ?_⟩
        · simp only [if_true, if_false, hs, t3]; exact h2
        · simp only [if_true, if_false, hs, t1]; exact h3
        · simp only [if_true, if_false, hs, t2]
        · simp only [if_true, if_false, hs, t3]
        · simp only [if_true]
          have := congrArg (·[i]?) t5
          simp only [List.getElem?_take, Nat.lt_succ_self, if_true] at this
          rw [this, List.getElem?_append_right (by omega), hl, Nat.sub_self]
          rfl

/-! ### any order -/

section
variable {ops : List Oper} {T : Tr} {lg : List Lg}

theorem tr_reg (hT : ∀ i o, ops[i]? = some o → TrOK P c ops T lg i o) {t : Nat} {i : Nat} : ∀ (n : Nat), i + n ≤ ops.length → (∀ j o, i ≤ j → j < i + n → ops[j]? = some o → o.dst ≠ some t) →
    Rg.get (T.ρ (i + n)) t = Rg.get (T.ρ i) t := by
  intro n
  induction n with
  | zero => intro _ _; rfl
  | succ n ih =>
    intro hn hno
    obtain ⟨o, ho⟩ : ∃ o, ops[i + n]? = some o := ⟨_, List.getElem?_eq_getElem (by omega)⟩
    have := (hT _ o ho).put t
    rw [if_neg (hno _ o (by omega) (by omega) ho)] at this
    rw [show i + (n + 1) = i + n + 1 by omega, this]
    exact ih (by omega) fun j o h1 h2 => hno j o h1 (by omega)

theorem look_none {up : Hp} {ob : Nat} (h : ob ∉ up.map (·.1)) : up.lookup ob = none := by
  induction up with
  | nil => rfl
  | cons p up ih =>
    obtain ⟨k, x⟩ := p
    simp only [List.map_cons, List.mem_cons, not_or] at h
    simp [List.lookup, beq_eq_false_iff_ne.2 h.1, ih h.2]

theorem turned_none {h up : Hp} {ob : Nat} {x : Obj} (hn : ob ∉ turnedIn h up) (hl : up.lookup ob = some x) : sameObj x (Hp.get h ob) = true := by
  induction up with
  | nil => cases hl
  | cons p up ih =>
    obtain ⟨k, y⟩ := p
    simp only [turnedIn] at hn
    by_cases hk : ob = k
    · subst hk
      simp only [List.lookup, beq_self_eq_true] at hl
      cases hl
      cases hs : sameObj x (Hp.get h ob) with
      | true => rfl
      | false => rw [hs] at hn; simp at hn
    · simp only [List.lookup, beq_eq_false_iff_ne.2 hk] at hl
      refine ih ?_ hl
      cases hs : sameObj y (Hp.get h k) with
      | true => rw [hs] at hn; exact hn
      | false => rw [hs] at hn; simp only [cond_false, List.mem_cons, not_or] at hn; exact hn.2

theorem tr_hp (hT : ∀ i o, ops[i]? = some o → TrOK P c ops T lg i o) {ob : Nat} {i : Nat} {d : Bool} : ∀ (n : Nat), i + n ≤ ops.length →
    (∀ j o, i ≤ j → j < i + n → ops[j]? = some o → T.sf j = false → ob ∉ Lg.hurts ⟨T.sf j, deepOp o.op, opReads (T.ρ j) (T.h j) o, (T.up j).map (·.1), turnedIn (T.h j) (T.up j)⟩ d) →
    near d (Hp.get (T.h (i + n)) ob) (Hp.get (T.h i) ob) := by
  intro n
  induction n with
  | zero => intro _ _; exact near_refl _ _
  | succ n ih =>
    intro hn hno
    obtain ⟨o, ho⟩ : ∃ o, ops[i + n]? = some o := ⟨_, List.getElem?_eq_getElem (by omega)⟩
    have h1 := (hT _ o ho).hp
    refine near_trans ?_ (ih (by omega) fun j o h1 h2 => hno j o h1 (by omega))
    rw [show i + (n + 1) = i + n + 1 by omega, h1, get_append]
    cases hs : T.sf (i + n) with
    | true => rw [((hT _ o ho).step.soft ((hT _ o ho).sf ▸ hs)).1]; exact near_refl _ _
    | false =>
      have h2 := hno _ o (by omega) (by omega) ho hs
      cases d with
      | true => rw [look_none h2]; exact near_refl _ _
      | false =>
        cases hl : (T.up (i + n)).lookup ob with
        | none => exact near_refl _ _
        | some x => exact turned_none h2 hl
theorem tr_same (hT : ∀ i o, ops[i]? = some o → TrOK P c ops T lg i o) {i : Nat} : ∀ (n : Nat), i + n ≤ ops.length → (∀ j o, i ≤ j → j < i + n → ops[j]? = some o → T.sf j = true) →
    T.h (i + n) = T.h i ∧ T.nx (i + n) = T.nx i := by
  intro n
  induction n with
  | zero => intro _ _; exact ⟨rfl, rfl⟩
  | succ n ih =>
    intro hn hno
    obtain ⟨o, ho⟩ : ∃ o, ops[i + n]? = some o := ⟨_, List.getElem?_eq_getElem (by omega)⟩
    obtain ⟨s1, s2, _⟩ := (hT _ o ho).step.soft ((hT _ o ho).sf ▸ hno _ o (by omega) (by omega) ho)
    obtain ⟨i1, i2⟩ := ih (by omega) fun j o h1 h2 => hno j o h1 (by omega)
    rw [show i + (n + 1) = i + n + 1 by omega, (hT _ o ho).hp, s1, s2]
    exact ⟨i1, i2⟩

/-- What holds when some operations are done: 'D' tells which. 'p' is a place in the written order with the same heap. -/
structure Inv (c : Ctx) (ops : List Oper) (T : Tr) (e0 : Env) (w0 : World) (D : Nat → Prop) (a : Act) (w : World) : Prop where
  down : ∀ i o, ops[i]? = some o → D i → ∀ e ∈ o.after, Region.binds .any e = true → D e.on
  st : ∃ p nm, p ≤ ops.length ∧ (∀ i o, ops[i]? = some o → T.sf i = false → (D i ↔ i < p)) ∧ RelH ⟨nm, T.h p, T.nx p⟩ w ∧ Onto e0 w0 ⟨nm, T.h p, T.nx p⟩ w ∧
    ∀ t i, i ≤ ops.length → (∀ j o, ops[j]? = some o → o.dst = some t → (D j ↔ j < i)) → RelV ⟨nm, T.h p, T.nx p⟩ (Rg.get (T.ρ i) t) (a.tmps.getD t undef)
  size : a.tmps.size = c.nt
  defers : a.defers = []

theorem inv_step {e0 : Env} {w0 : World} {D : Nat → Prop} {a : Act} {w : World} {j : Nat} {o : Oper} {K : Act → World → Prop} {Q : Exit → Act → World → Prop}
    (hT : ∀ i o, ops[i]? = some o → TrOK P c ops T lg i o)
    (anc : ∀ (D : Nat → Prop), (∀ i o, ops[i]? = some o → D i → ∀ e ∈ o.after, Region.binds .any e = true → D e.on) → ∀ i o, ops[i]? = some o → (∀ e ∈ o.after, Region.binds .any e = true → D e.on) →
      ∀ j, Nat.testBit ((ancs ops []).getD i 0) j = true → D j)
    (hp : ∀ i o, ops[i]? = some o → ∀ j y, j < i → ops[j]? = some y → Nat.testBit ((ancs ops []).getD i 0) j = true ∨
      (dstIn o.dst (tmpsOf ops y) = false ∧ dstIn y.dst (tmpsOf ops o) = false ∧ dstEq o.dst y.dst = false))
    (hl : ∀ i x, lg[i]? = some x → ∀ j y, j < i → lg[j]? = some y → Nat.testBit ((ancs ops []).getD i 0) j = true ∨ ((x.soft = true ∨ y.soft = true) ∧ (∀ o ∈ x.reads, o ∉ y.hurts x.deep) ∧ ∀ o ∈ y.reads, o ∉ x.hurts y.deep))
    (hI : Inv c ops T e0 w0 D a w) (hj : ops[j]? = some o) (hnot : ¬ D j) (hed : ∀ e ∈ o.after, Region.binds .any e = true → D e.on)
    (hK : ∀ a' w', Inv c ops T e0 w0 (fun i => D i ∨ i = j) a' w' → K a' w') :
    if Region.wanted o (yielded ops.toArray a.tmps) then o.wp P a w K Q else K (a.put o.dst undef) w := by
  obtain ⟨down, ⟨p, nm, hple, hhard, hrel, honto, hreg⟩, hsize, hdef⟩ := hI
  have hjlt := getElem?_lt hj
  -- those that must come before
  have before : ∀ i, Nat.testBit ((ancs ops []).getD j 0) i = true → D i := anc D down j o hj hed
  have after : ∀ i y, ops[i]? = some y → Nat.testBit ((ancs ops []).getD i 0) j = true → ¬ D i := fun i y hi hb hd => hnot (anc D down i y hi (down i y hi hd) j hb)
  have inIn : ∀ {d : Option Tmp} {l : List Nat} {t : Nat}, d = some t → t ∈ l → dstIn d l = true := fun hd hm => by subst hd; exact memN_iff.2 hm
  -- the slots that it looks at
  have cutj : ∀ t ∈ tmpsOf ops o, ∀ i y, ops[i]? = some y → y.dst = some t → (D i ↔ i < j) := by
    intro t ht i y hi hy
    rcases Nat.lt_trichotomy i j with h | h | h
    · refine ⟨fun _ => h, fun _ => ?_⟩
      rcases hp j o hj i y h hi with hb | ⟨_, hb, _⟩
      · exact before i hb
      · rw [inIn hy ht] at hb; cases hb
    · subst h; exact ⟨fun hd => absurd hd hnot, fun h => absurd h (Nat.lt_irrefl _)⟩
    · refine ⟨fun hd => ?_, fun h' => by omega⟩
      rcases hp i y hi j o h hj with hb | ⟨hb, _, _⟩
      · exact absurd hd (after i y hi hb)
      · rw [inIn hy ht] at hb; cases hb
  have regs : ∀ t ∈ tmpsOf ops o, RelV ⟨nm, T.h p, T.nx p⟩ (Rg.get (T.ρ j) t) (a.tmps.getD t undef) := fun t ht => hreg t j (Nat.le_of_lt hjlt) (cutj t ht)
  have opnds : ∀ x ∈ o.op.operands, RelV ⟨nm, T.h p, T.nx p⟩ (ev (T.ρ j) x) (a.eval x) := fun x hx => opnd_rel fun t ht => regs t (by
    subst ht
    exact List.mem_append_left _ (List.mem_flatMap.2 ⟨.tmp t, by simpa using hx, by simp⟩))
  have hTj := hT j o hj
  rw [hTj.step.wtd _ a regs]
  -- the heap of an operation that may change it
  have hardSame : T.sf j = false → T.h p = T.h j ∧ T.nx p = T.nx j := by
    intro hs
    have ord : ∀ i y, ops[i]? = some y → T.sf i = false → (D i ↔ i < j) := by
      intro i y hi hy
      rcases Nat.lt_trichotomy i j with h | h | h
      · refine ⟨fun _ => h, fun _ => ?_⟩
        rcases hl j _ hTj.log i _ h (hT i y hi).log with hb | ⟨hb, _⟩
        · exact before i hb
        · rcases hb with hb | hb
          · exact absurd (hs.symm.trans hb) (by simp)
          · exact absurd (hy.symm.trans hb) (by simp)
      · subst h; exact ⟨fun hd => absurd hd hnot, fun h => absurd h (Nat.lt_irrefl _)⟩
      · refine ⟨fun hd => ?_, fun h' => by omega⟩
        rcases hl i _ (hT i y hi).log j _ h hTj.log with hb | ⟨hb, _⟩
        · exact absurd hd (after i y hi hb)
        · rcases hb with hb | hb
          · exact absurd (hy.symm.trans hb) (by simp)
          · exact absurd (hs.symm.trans hb) (by simp)
    rcases Nat.le_total p j with h | h
    · obtain ⟨q1, q2⟩ := tr_same hT (i := p) (j - p) (by omega) fun i y h1 h2 hi => by
        cases hy : T.sf i with
        | true => rfl
        | false =>
          have hd := (ord i y hi hy).2 (by omega)
          have := (hhard i y hi hy).1 hd
          omega
      rw [show p + (j - p) = j by omega] at q1 q2
      exact ⟨q1.symm, q2.symm⟩
    · obtain ⟨q1, q2⟩ := tr_same hT (i := j) (p - j) (by omega) fun i y h1 h2 hi => by
        cases hy : T.sf i with
        | true => rfl
        | false =>
          have hd := (hhard i y hi hy).2 (by omega)
          have := (ord i y hi hy).1 hd
          omega
      rw [show j + (p - j) = p by omega] at q1 q2
      exact ⟨q1, q2⟩
  -- what is seen by an operation that only looks
  have softSame : T.sf j = true → ∀ ob ∈ opReads (T.ρ j) (T.h j) o, near (deepOp o.op) (Hp.get (T.h p) ob) (Hp.get (T.h j) ob) := by
    intro hs ob hob
    rcases Nat.le_total p j with h | h
    · have := tr_hp hT (ob := ob) (i := p) (d := deepOp o.op) (j - p) (by omega) fun i y h1 h2 hi hy => by
        have hnd : ¬ D i := fun hd => by have := (hhard i y hi hy).1 hd; omega
        rcases hl j _ hTj.log i _ (by omega) (hT i y hi).log with hb | ⟨_, hb, _⟩
        · exact absurd (before i hb) hnd
        · exact hb ob hob
      rw [show p + (j - p) = j by omega] at this
      exact near_symm this
    · have := tr_hp hT (ob := ob) (i := j) (d := deepOp o.op) (p - j) (by omega) fun i y h1 h2 hi hy => by
        have hd : D i := (hhard i y hi hy).2 (by omega)
        have hij : j < i := by
          rcases Nat.lt_or_ge j i with h | h
          · exact h
          · have : i = j := by omega
            subst this; exact absurd hd hnot
        rcases hl i _ (hT i y hi).log j _ hij hTj.log with hb | ⟨_, _, hb⟩
        · exact absurd hd (after i y hi hb)
        · exact hb ob hob
      rw [show j + (p - j) = p by omega] at this
      exact this
  have down' : ∀ i y, ops[i]? = some y → (D i ∨ i = j) → ∀ e ∈ y.after, Region.binds .any e = true → (D e.on ∨ e.on = j) := by
    intro i y hi hd e he hb
    rcases hd with hd | rfl
    · exact .inl (down i y hi hd e he hb)
    · rw [hj] at hi; cases hi; exact .inl (hed e he hb)
  -- the slots behind it
  have newreg : ∀ {e' : Env} {vr : Value}, RelV e' (T.v j) vr → (∀ {v : V} {u : Value}, RelV ⟨nm, T.h p, T.nx p⟩ v u → RelV e' v u) →
      ∀ t i, i ≤ ops.length → (∀ k y, ops[k]? = some y → y.dst = some t → ((D k ∨ k = j) ↔ k < i)) → RelV e' (Rg.get (T.ρ i) t) ((a.put o.dst vr).tmps.getD t undef) := by
    intro e' vr hv hext t i hi hcut
    rw [put_getD hsize hTj.step.dst]
    split
    · rename_i hd
      have hji : j < i := (hcut j o hj hd).1 (.inr rfl)
      have := tr_reg hT (t := t) (i := j + 1) (i - (j + 1)) (by omega) fun k y h1 h2 hk hy => by
        have hdk : D k := by
          rcases (hcut k y hk hy).2 (by omega) with h | h
          · exact h
          · omega
        rcases hp k y hk j o (by omega) hj with hb | ⟨_, _, hb⟩
        · exact after k y hk hb hdk
        · rw [hy, hd] at hb; simp [dstEq] at hb
      rw [show j + 1 + (i - (j + 1)) = i by omega] at this
      rw [this, hTj.put t, if_pos hd]
      exact hv
    · rename_i hd
      refine hext (hreg t i hi fun k y hk hy => ?_)
      have hkj : k ≠ j := fun h => by subst h; rw [hj] at hk; cases hk; exact hd hy
      rw [← hcut k y hk hy]
      exact ⟨.inl, fun h => h.resolve_right hkj⟩
  have hardCut : T.sf j = false → ∀ i y, ops[i]? = some y → T.sf i = false → ((D i ∨ i = j) ↔ i < j + 1) := by
    intro hs i y hi hy
    rcases Nat.lt_trichotomy i j with h | h | h
    · refine ⟨fun _ => by omega, fun _ => .inl ?_⟩
      rcases hl j _ hTj.log i _ h (hT i y hi).log with hb | ⟨hb, _⟩
      · exact before i hb
      · rcases hb with hb | hb
        · exact absurd (hs.symm.trans hb) (by simp)
        · exact absurd (hy.symm.trans hb) (by simp)
    · subst h; exact ⟨fun _ => by omega, fun _ => .inr rfl⟩
    · refine ⟨fun hd => ?_, fun h' => by omega⟩
      rcases hl i _ (hT i y hi).log j _ h hTj.log with hb | ⟨hb, _⟩
      · rcases hd with hd | hd
        · exact absurd hd (after i y hi hb)
        · omega
      · rcases hb with hb | hb
        · exact absurd (hy.symm.trans hb) (by simp)
        · exact absurd (hs.symm.trans hb) (by simp)
  have softCut : T.sf j = true → ∀ i y, ops[i]? = some y → T.sf i = false → ((D i ∨ i = j) ↔ i < p) := by
    intro hs i y hi hy
    rw [← hhard i y hi hy]
    refine ⟨fun h => h.resolve_right fun h => ?_, .inl⟩
    subst h; exact absurd (hs.symm.trans hy) (by simp)
  cases hw : T.want j with
  | true =>
    rw [if_pos rfl]
    cases hs : T.sf j with
    | true =>
      obtain ⟨_, _, s3⟩ := hTj.step.soft (hTj.sf ▸ hs)
      refine s3 hw (T.h p) (T.nx p) (softSame hs) nm w a opnds hrel _ Q fun vr nm' w' r1 r2 r3 r4 => hK _ _ ⟨down', ⟨p, nm', hple, softCut hs, r2, honto.trans ⟨r3, r4⟩, newreg r1 fun h => h.ext r4⟩, put_size.trans hsize, put_def.trans hdef⟩
    | false =>
      obtain ⟨q1, q2⟩ := hardSame hs
      rw [q1, q2] at hrel honto opnds newreg
      refine hTj.step.run hw nm w a opnds hrel _ Q fun vr nm' w' r1 r2 r3 r4 => ?_
      rw [← hTj.hp] at r1 r2 r4
      exact hK _ _ ⟨down', ⟨j + 1, nm', hjlt, hardCut hs, r2, honto.trans ⟨r3, r4⟩, newreg r1 fun h => h.ext r4⟩, put_size.trans hsize, put_def.trans hdef⟩
  | false =>
    rw [if_neg (by simp)]
    obtain ⟨k1, k2, k3⟩ := hTj.step.skip hw
    cases hs : T.sf j with
    | true =>
      exact hK _ _ ⟨down', ⟨p, nm, hple, softCut hs, hrel, honto, newreg (by rw [k1]; exact undef_rel _) id⟩, put_size.trans hsize, put_def.trans hdef⟩
    | false =>
      obtain ⟨q1, q2⟩ := hardSame hs
      have e1 : T.h (j + 1) = T.h j := by rw [hTj.hp, k2]; rfl
      rw [q1, q2, ← e1, ← k3] at hrel honto newreg
      exact hK _ _ ⟨down', ⟨j + 1, nm, hjlt, hardCut hs, hrel, honto, newreg (by rw [k1]; exact undef_rel _) id⟩, put_size.trans hsize, put_def.trans hdef⟩

theorem filter_lt {l : List Nat} {f g : Nat → Bool} (h : ∀ x ∈ l, g x = true → f x = true) {y : Nat} (hy : y ∈ l) (hf : f y = true) (hg : g y = false) : (l.filter g).length < (l.filter f).length := by
  induction l with
  | nil => cases hy
  | cons x l ih =>
    have le : (l.filter g).length ≤ (l.filter f).length := by
      clear ih hy
      induction l with
      | nil => simp
      | cons z l ih2 =>
        have := ih2 fun x hx => h x (by simp at hx ⊢; rcases hx with h | h <;> simp [h])
        simp only [List.filter_cons]
        cases hgz : g z with
        | true => rw [h z (by simp) hgz]; simpa using this
        | false => cases f z <;> simp <;> omega
    simp only [List.filter_cons]
    rcases List.mem_cons.1 hy with rfl | hy
    · rw [hf, hg]; simp; omega
    · have := ih (fun z hz => h z (by simp [hz])) hy
      cases hgx : g x with
      | true => rw [h x (by simp) hgx]; simpa using this
      | false => cases f x <;> simp <;> omega

theorem any_ok {e0 : Env} {w0 : World} {Q : Exit → Act → World → Prop}
    (hT : ∀ i o, ops[i]? = some o → TrOK P c ops T lg i o)
    (hedge : ∀ i o, ops[i]? = some o → edgesOk o i = true)
    (anc : ∀ (D : Nat → Prop), (∀ i o, ops[i]? = some o → D i → ∀ e ∈ o.after, Region.binds .any e = true → D e.on) → ∀ i o, ops[i]? = some o → (∀ e ∈ o.after, Region.binds .any e = true → D e.on) →
      ∀ j, Nat.testBit ((ancs ops []).getD i 0) j = true → D j)
    (hp : ∀ i o, ops[i]? = some o → ∀ j y, j < i → ops[j]? = some y → Nat.testBit ((ancs ops []).getD i 0) j = true ∨
      (dstIn o.dst (tmpsOf ops y) = false ∧ dstIn y.dst (tmpsOf ops o) = false ∧ dstEq o.dst y.dst = false))
    (hl : ∀ i x, lg[i]? = some x → ∀ j y, j < i → lg[j]? = some y → Nat.testBit ((ancs ops []).getD i 0) j = true ∨ ((x.soft = true ∨ y.soft = true) ∧ (∀ o ∈ x.reads, o ∉ y.hurts x.deep) ∧ ∀ o ∈ y.reads, o ∉ x.hurts y.deep))
    (hfin : ∀ nm a w, SR c ⟨nm, T.h ops.length, T.nx ops.length⟩ (T.ρ ops.length) a w → Onto e0 w0 ⟨nm, T.h ops.length, T.nx ops.length⟩ w → Q .normal a w) :
    ∀ (fuel : Nat) (listed : Array Bool) (a : Act) (w : World), listed.size = ops.length → ((List.range ops.length).filter fun i => !listed.getD i true).length ≤ fuel →
      Inv c ops T e0 w0 (fun i => listed.getD i false = true) a w → wpAny P .any ops.toArray Q fuel listed a w := by
  -- all done
  have done : ∀ (listed : Array Bool) (a : Act) (w : World), listed.size = ops.length → (∀ i, i < ops.length → listed.getD i true = true) → Inv c ops T e0 w0 (fun i => listed.getD i false = true) a w → Q .normal a w := by
    intro listed a w hsz hall hI
    have hall' : ∀ i o, ops[i]? = some o → listed.getD i false = true := by
      intro i o ho
      have hi := getElem?_lt ho
      have := hall i hi
      simpa [Array.getD_eq_getD_getElem?, Array.getElem?_eq_getElem (show i < listed.size by omega)] using this
    obtain ⟨_, ⟨p, nm, hple, hhard, hrel, honto, hreg⟩, hsize, hdef⟩ := hI
    obtain ⟨q1, q2⟩ := tr_same hT (i := p) (ops.length - p) (by omega) fun i y h1 h2 hi => by
      cases hy : T.sf i with
      | true => rfl
      | false =>
        have := (hhard i y hi hy).1 (hall' i y hi)
        omega
    rw [show p + (ops.length - p) = ops.length by omega] at q1 q2
    rw [← q1, ← q2] at hrel honto hreg
    exact hfin nm a w ⟨fun t => hreg t ops.length (Nat.le_refl _) fun j o hj _ => ⟨fun _ => getElem?_lt hj, fun _ => hall' j o hj⟩, hsize, hdef, hrel⟩ honto
  have least : ∀ (listed : Array Bool), listed.size = ops.length → Region.ready .any ops.toArray listed = [] → ∀ i, i < ops.length → listed.getD i true = true := by
    intro listed hsz hr i
    induction i using Nat.strongRecOn with
    | _ i ih =>
      intro hi
      cases hq : listed.getD i true with
      | true => rfl
      | false =>
        exfalso
        have hm : i ∈ Region.ready .any ops.toArray listed := by
          rw [mem_ready]
          obtain ⟨o, ho⟩ : ∃ o, ops[i]? = some o := ⟨_, List.getElem?_eq_getElem hi⟩
          refine ⟨hq, o, by simpa using ho, fun e he hb => ?_⟩
          have hed := hedge i o ho
          unfold edgesOk at hed
          rw [List.all_eq_true] at hed
          have := hed e (by simpa using he)
          rw [hb] at this
          have hlt : e.on < i := by simpa [Nat.blt_eq] using this
          have := ih e.on hlt (by omega)
          simpa [Array.getD_eq_getD_getElem?, Array.getElem?_eq_getElem (show e.on < listed.size by omega)] using this
        rw [hr] at hm
        cases hm
  intro fuel
  induction fuel with
  | zero =>
    intro listed a w hsz hf hI
    have hall : ∀ i, i < ops.length → listed.getD i true = true := by
      intro i hi
      have : (List.range ops.length).filter (fun i => !listed.getD i true) = [] := List.length_eq_zero_iff.1 (by omega)
      rw [List.filter_eq_nil_iff] at this
      simpa using this i (by simpa using hi)
    refine ⟨?_, done listed a w hsz hall hI⟩
    rw [List.eq_nil_iff_forall_not_mem]
    intro i hi
    obtain ⟨h1, o, ho, _⟩ := mem_ready.1 hi
    rw [hall i (getElem?_lt (l := ops) (by simpa using ho))] at h1
    cases h1
  | succ fuel ih =>
    intro listed a w hsz hf hI
    refine ⟨fun hr => done listed a w hsz (least listed hsz hr) hI, fun j hj => ?_⟩
    obtain ⟨h1, o, ho, hed⟩ := mem_ready.1 hj
    have ho' : ops[j]? = some o := by simpa using ho
    have hjlt := getElem?_lt ho'
    have hnot : ¬ listed.getD j false = true := by
      simp [Array.getD_eq_getD_getElem?, Array.getElem?_eq_getElem (show j < listed.size by omega)] at h1 ⊢
      exact h1
    have := inv_step (D := fun i => listed.getD i false = true) (K := wpAny P .any ops.toArray Q fuel (listed.setIfInBounds j true)) (Q := Q) (w := w) hT anc hp hl hI ho' hnot hed fun a' w' hI' => by
      refine ih (listed.setIfInBounds j true) a' w' (by simpa using hsz) ?_ ?_
      · have : ((List.range ops.length).filter fun i => !(listed.setIfInBounds j true).getD i true).length < ((List.range ops.length).filter fun i => !listed.getD i true).length :=
          filter_lt (y := j) (fun x _ hx => by
            by_cases hxj : j = x
            · subst hxj
              simp [Array.getD_eq_getD_getElem?, show j < listed.size by omega] at hx
            · rwa [getD_set_ne true hxj] at hx) (by simpa using hjlt) (by rw [h1]; rfl) (by simp [Array.getD_eq_getD_getElem?, show j < listed.size by omega])
        omega
      · have he : (fun i => (listed.setIfInBounds j true).getD i false = true) = (fun i => listed.getD i false = true ∨ i = j) := by
          funext i
          by_cases hij : j = i
          · subst hij
            simp [Array.getD_eq_getD_getElem?, show j < listed.size by omega]
          · rw [getD_set_ne false hij]
            simp only [eq_iff_iff]
            exact ⟨.inl, fun h => h.resolve_right (Ne.symm hij)⟩
        rw [he]; exact hI'
    unfold wpOp
    rw [ho]
    simp only
    split
    · rename_i hw; rw [if_pos hw] at this; exact .inl this
    · rename_i hw; rw [if_neg hw] at this; exact this
end

/-- A region's code. -/
theorem regE_ok {ops : Array Oper} {draw : Bool} {id : Nat} {R : Type} {ρ : Rg} {h : Hp} {nx : Nat} {K : Rg → Hp → Nat → Option R} {r : R} (hm : P.follows .mixedOrders = true) (hc : CtxOK P c)
    (hE : regE c ops.toList draw ρ h nx K = some r) : ∃ ρ' h' nx', K ρ' h' nx' = some r ∧ ∀ {nm : Nm} {a : Act} {w : World} {Q : Exit → Act → World → Prop}, SR c ⟨nm, h, nx⟩ ρ a w →
    (∀ nm' a' w', SR c ⟨nm', h', nx'⟩ ρ' a' w' → Onto ⟨nm, h, nx⟩ w ⟨nm', h', nx'⟩ w' → Q .normal a' w') → (Code.region id ops draw).wp P Q a w := by
  unfold regE at hE
  cases draw with
  | false =>
    obtain ⟨ρ', h', nx', k1, k2⟩ := opsE_ok hc ops.toList hE
    refine ⟨ρ', h', nx', k1, fun hs hQ => wp_region_list ?_⟩
    have := k2 hs hQ
    simpa using this
  | true =>
    simp only [cond_true, fNs_eq] at hE
    obtain ⟨hpair, hE⟩ := bif_some hE
    obtain ⟨T, lg, t1, t2, t3, t4, _, t6⟩ := opsD_trace hc ops.toList 0 hE (by simp) rfl (Nat.zero_le _)
    obtain ⟨hlog, t4⟩ := bif_some t4
    have hT : ∀ i o, ops.toList[i]? = some o → TrOK P c ops.toList T lg i o := fun i o ho => t6 i o (Nat.zero_le _) ho
    have hps := pairsOk_spec ops.toList [] 0 rfl hpair
    have hedge : ∀ i o, ops.toList[i]? = some o → edgesOk o i = true := fun i o ho => by have := (hps i o ho).1; simpa using this
    refine ⟨_, _, _, t4, fun {nm a w Q} hs hQ => ?_⟩
    have w2 : SR c ⟨nm, h, nx⟩ ρ a { w with drawn := w.drawn + 1 } := by
      refine ⟨hs.reg, hs.size, hs.defers, ⟨fun o => ?_, hs.hp.new, hs.hp.apart, hs.hp.fix⟩⟩
      exact RelO.frame (hs.hp.obj o) (Nat.le_refl _) fun _ _ => rfl
    have honto : Onto ⟨nm, h, nx⟩ w ⟨nm, h, nx⟩ { w with drawn := w.drawn + 1 } := ⟨⟨rfl, rfl, rfl, Nat.le_refl _, fun _ _ _ => rfl⟩, Ext.refl hs.hp⟩
    apply wp_region_any hm
    have hz : ∀ i, (Array.replicate ops.size false).getD i false = false := fun i => by
      rw [Array.getD_eq_getD_getElem?, Array.getElem?_replicate]; split <;> rfl
    have key := any_ok (Q := Q) (e0 := ⟨nm, h, nx⟩) (w0 := w) hT hedge
      (fun D down i o ho he j hj => ancs_spec down ops.toList [] 0 rfl (by simp) (fun i o hi => by omega) (fun i o _ ho => hedge i o ho) i o ho he j hj)
      (fun i o ho j y hji hy => by have := (hps i o ho).2 j y (by omega) (by simpa using hy); simpa using this)
      (fun i x hx j y hji hy => by have := logOk_spec lg [] 0 rfl hlog i x hx j y (by omega) (by simpa using hy); simpa using this)
      (fun nm' a' w' k1 k2 => hQ _ _ _ k1 k2)
      ops.size (Array.replicate ops.size false) a { w with drawn := w.drawn + 1 } (by simp) (by
        refine Nat.le_trans (List.length_filter_le _ _) (by simp)) ⟨fun i o _ hd => (by rw [hz] at hd; cases hd), ⟨0, nm, Nat.zero_le _, fun i o _ _ => by rw [hz]; simp, by rw [t2, t3]; exact w2.hp, by rw [t2, t3]; exact honto,
        fun t i hi hcut => ?_⟩, hs.size, hs.defers⟩
    · simpa using key
    · have := tr_reg hT (t := t) (i := 0) i (by omega) fun j o _ hj ho hd => by
        have := (hcut j o ho hd).2 (by omega)
        rw [hz] at this; cases this
      rw [Nat.zero_add] at this
      rw [this, t1, t2, t3]
      exact hs.reg t
end
end Go.Kk
