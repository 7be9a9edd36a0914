/-
 From a told call to a row: the arguments opened, what is behind the call shut.
-/
import Derived.Test.YthhkpianmpgeiaaDoorKkB
import Derived.ProofKit
namespace Go.Kk
open Go.ChangeShapes Go.WideShapes Go.ChangeAt Go.RowKit
def ckTy (P : Program) (u : TypeId) : Option CK := match P.underlying u with
 | some (.int k) => some (.i k)
 | some .bool => some .b
 | _ => none
theorem has_wrap {k : IntKind} {n : Int} (h : k.has n) : k.wrap n = n := wrap_of_range h.1 h.2
theorem cell_ck {P : Program} {w : World} {r : Reach} {base : Nat} {u : TypeId} {v : Value} {ck : CK} (hu : ckTy P u = some ck) (h : Cell.okWide P w r base u v) : ∃ x, ckOk ck x ∧ ∀ e, RelS e (mk ck x) v := by
 unfold ckTy at hu
 split at hu <;> try cases hu
 ·rename_i k hk
  unfold Cell.okWide at h
  rw [hk] at h
  replace h : Cell.ok P w r base u v := by cases v <;> exact h
  unfold Cell.ok at h
  rw [hk] at h
  cases v <;> try exact h.elim
  rename_i k' n
  obtain ⟨rfl, h2⟩ := h
  exact ⟨n, has_wrap h2, fun e => ⟨rfl, has_wrap h2⟩⟩
 ·rename_i hk
  unfold Cell.okWide at h
  rw [hk] at h
  replace h : Cell.ok P w r base u v := by cases v <;> exact h
  unfold Cell.ok at h
  rw [hk] at h
  cases v <;> try exact h.elim
  rename_i b
  refine ⟨bi b, by cases b <;> simp [ckOk, bi, br], fun e => ?_⟩
  cases b <;> rfl
theorem open_sc {P : Program} {t : TypeId} {ck : CK} {w : World} {r : Reach} {base : Nat} {v : Value} (hu : ckTy P t = some ck) (hv : Value.okWide P w r base t v) : ∃ x, ckOk ck x ∧ ∀ e, RelV e (.s (mk ck x)) v := by
 unfold Value.okWide at hv
 have h2 : Cell.okWide P w r base t v := by
  unfold ckTy at hu
  split at hu <;> try cases hu
  ·rename_i h; rw [h] at hv; exact hv
  ·rename_i h; rw [h] at hv; exact hv
 exact cell_ck hu h2
def FxW (w : World) : Prop := ∀ g k l, fxAt g = some (k, l) → ∃ arr t fr, w.heap[g]? = some (.cells arr t fr) ∧ arr.toList = l.map (Value.int k)
theorem FixOK.of {e : Env} {w : World} (h : FxW w) (hn : ∀ o, (e.h.get o).owned = false) : FixOK e w := fun g k l hg => ⟨h g k l hg, fun o ho => by rw [hn o] at ho; cases ho⟩
theorem fxW_one {P : Program} {w : World} {k : IntKind} {l : List Int} {n : String} (hfx : fx = [(0, k, l)]) (hg : P.globalNamed n = some 0) (h : w.var? P n = some (l.map fun z => Value.int k z).toArray) : FxW w := by
 intro g k' l' hq
 unfold fxAt at hq
 rw [hfx] at hq
 simp only [fxGet] at hq
 cases hb : Nat.beq 0 g with
 | false => rw [hb] at hq; cases hq
 | true =>
   rw [hb] at hq
   have := Nat.eq_of_beq_eq_true hb
   subst this
   simp only [cond_true, Option.some.injEq, Prod.mk.injEq] at hq
   obtain ⟨rfl, rfl⟩ := hq
   unfold World.var? at h
   rw [hg] at h
   simp only [Option.bind_some] at h
   split at h
   ·rename_i cs t fr hc
    cases h
    exact ⟨_, _, _, hc, by simp⟩
   ·cases h
theorem calls_true {P : Program} {f : FuncId} {vs : List V} {args : Array Value} {W : World} (h : CallOK P f vs [] (.s (.b true)) []) (hfx : FxW W) (hr : ∀ e, All2 (RelV e) vs args.toList) :
  Calls P f args W fun en W' => en = .returned (.bool true) ∧ Below W.heap.size W W' := by
 have hh : RelH ⟨fun _ => none, zipFrom [] 0 [], 0⟩ W := ⟨fun o => by unfold RelO; trivial, fun _ _ => rfl, fun o o' x _ ho => (by cases ho), FixOK.of hfx fun _ => rfl⟩
 refine Calls.mono (h.2 (fun _ => none) W args (hr _) hh).1 fun en W' he => ?_
 obtain ⟨vr, nm', rfl, h1, _, h3, _⟩ := he
 have h1 : vr = .bool true := h1
 subst h1
 exact ⟨rfl, h3.os, h3.tape, h3.output, h3.size, fun k hk => h3.block k hk fun o ho => by cases ho⟩
theorem kept_same {W W' : World} (hs : Below W.heap.size W W') (may : MemPlace → Prop) : W.keptBut W' may := by
 refine ⟨hs.os, hs.output, fun i hi => ?_⟩
 rw [hs.block i hi]
 cases W.heap[i]? with
 | none => trivial
 | some o => cases o <;> first | exact ⟨rfl, rfl, rfl, fun _ _ => rfl⟩ | exact .inr ⟨rfl, rfl⟩ | rfl
def recB (P : Program) : List TypeId → Bool
 | [] => true
 | t :: r => P.readableRec t && Nat.blt t P.types.size && recB P r
theorem trodAll_stays {H : Type} {enc : TypeId × Value → H} {P : Program} (hl : laidOutB P = true) {W W' : World} (hs : Below W.heap.size W W') :
  ∀ {ts : List TypeId} {vs : List Value} {ds : List (DataW H)} {ps : List MemPlace}, recB P ts = true → DataW.TrodAll enc P W 0 (fun _ => true) true ts vs ds ps → (∀ x ∈ ps, x.block < W.heap.size) →
    DataW.TrodAll enc P W' 0 (fun b => decide (b < W.heap.size)) true ts vs ds ps := by
 intro ts
 induction ts with
 | nil =>
   intro vs ds ps _ h _
   obtain ⟨rfl, rfl, rfl⟩ := trodAll_nil h
   exact rfl
 | cons t ts ih =>
   intro vs ds ps hts h hlt
   simp only [recB, Bool.and_eq_true, Nat.blt_eq] at hts
   obtain ⟨v, vs1, d, ds1, a, b, rfl, rfl, rfl, h1, h2⟩ := trodAll_cons h
   exact ⟨a, b, Below.trod hl hts.1.1 hts.1.2 h1 hs (fun x hx => hlt x (List.mem_append_left _ hx)), ih hts.2 h2 (fun x hx => hlt x (List.mem_append_right _ hx)), rfl⟩
theorem post_true {H : Type} {enc : TypeId × Value → H} {P : Program} {fn : Func} {s : ChangeSpec} {W W' : World} {args : Array Value} {ds gs : List (DataW H)} {before : List MemPlace} {tb : TypeId}
  (hl : laidOutB P = true) (hW : DataW.Whole enc P fn.params.toList s.vars false W args.toList ds gs before) (hv : s.vars = []) (hf : s.fn H ds = { results := [.lit (.bool true)], args := ds })
  (hres : fn.resultTypes = #[tb]) (htb : P.underlying tb = some .bool) (hrec : recB P fn.params.toList = true) (hs : Below W.heap.size W W') :
  s.post enc P fn false true false false W args (.bool true) W' := by
 obtain ⟨p, q, hA, hV, rfl, _, _⟩ := id hW
 rw [hv] at hV
 obtain ⟨rfl, rfl⟩ := trodVars_none hV
 have hlt : ∀ x ∈ p, x.block < W.heap.size := fun x hx => by
  have := hW.lt x (by simpa using hx)
  simpa using this
 refine ⟨ds, [], p ++ [], [], p, [], hW, ?_, ?_, ?_, kept_same hs _, fun h => by cases h⟩
 ·rw [List.append_nil, hf, hres]
  exact trodAll_mk1 (shut_bool htb _)
 ·rw [List.append_nil, hf]
  exact trodAll_stays hl hs hrec hA hlt
 ·rw [List.append_nil, hf, hv]
  exact rfl
end Go.Kk
