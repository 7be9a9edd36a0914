/- The laws KeyNone and KeyApart answer true, whatever is handed to them, and what they were handed reads behind the call as it read before; no conditions. -/
import Derived.Test.YtkgiegkepopcnaaKkKeyMix
import Derived.Test.YtkgiegkepopcnaaKkP
import Derived.Test.YtkgiegkepopcnaaRows
namespace Go.Proofs.Ytkgiegkepopcnaa
open Go.ChangeShapes Go.WideShapes Go.ChangeAt Go.RowKit Go.Kk

theorem Try.own3 : ownKnob Try.prog.godebug = none := by kernel_rfl
theorem Try.laidOut3 : laidOutB Try.prog = true := by kernel_rfl

theorem keyNone_call (q x : Int) (hand : List Int) (hx : IntKind.wrap .i8 x = x) : CallOK Try.prog 4 [.s (.i .i64 q), .s (.i .i8 x), V.agg [.arr .i64 3 hand]] [] (.s (.b true)) [] := by
  obtain ⟨v, objs', h1, h2⟩ := KkKey.k4_ok q x hand (K := fun v objs => some (v, objs)) (r := (V.s (.b true), [])) rfl rfl (by rw [KkKey.keyNone_true q x hand hx]; rfl)
  cases h1
  exact h2

theorem keyApart_call (a b : List Int) (ha : a.length = 3) (hb : b.length = 3) : CallOK Try.prog 6 [V.agg [.arr .i64 3 a], V.agg [.arr .i64 3 b]] [] (.s (.b true)) [] := by
  obtain ⟨v, objs', h1, h2⟩ := KkKey.k6_ok a b (K := fun v objs => some (v, objs)) (r := (V.s (.b true), [])) rfl rfl (by rw [KkKey.keyApart_true a b ha hb]; rfl)
  cases h1
  exact h2

theorem tri_len {ks : List CK} {row : List Int} (hks : rowKs [SegT.arr .i64 3] = some ks) (hrow : rowOk ks row) : (row.take 3).length = 3 := by
  have hl := rowOk_length hrow
  have hks' : ks = List.replicate 3 (.i .i64) ++ [] := by
    simp only [rowKs, Option.some.injEq] at hks
    exact hks.symm
  rw [hks'] at hl
  simp at hl
  simp
  omega

set_option maxRecDepth 100000 in
theorem keyNone_lifted (os : Os) (started : os.Started) (H : Type) (enc : TypeId × Value → H) :
    ReturnsInHanded {} Try.checked os 4 .any (Rows.keyNoneSpec.pre6 enc Try.prog Try.f4 Rows.keyNoneRow.domain false) (Rows.keyNoneSpec.post enc Try.prog Try.f4 false true false false) := by
  refine returnsInHanded_of_change (C := Try.checked) Try.own3 started (by kernel_rfl) Try.func4
    (ChangeSpec.witness6 (enc := enc) (C := Try.checked) false ⟨#[], #[.int .i64 0, .int .i8 0, .agg (Array.replicate 3 (.int .i64 0))], []⟩ 8 (by kernel_rfl) (by kernel_rfl) (by kernel_rfl) (by kernel_rfl)) ?_
  intro W base args ds gs before hval0 hW hcnd _
  have hval : ∀ (j : Nat) t v, Try.f4.params[j]? = some t → args[j]? = some v → Value.okWide Try.prog W .any base t v := hval0
  obtain ⟨p, q, hA0, hV, _, _, _⟩ := id hW
  have hA : DataW.TrodAll enc Try.prog W 0 (fun _ => true) true [3, 23, 37] args.toList ds p := hA0
  obtain ⟨v0, vs1, d0, ds1, p0, p1, hargs, rfl, _, _, hA1⟩ := trodAll_cons hA
  obtain ⟨v1, vs2, d1, ds2, p2, p3, rfl, rfl, _, _, hA2⟩ := trodAll_cons hA1
  obtain ⟨v2, vs3, d2, ds3, p4, p5, rfl, rfl, _, _, hA3⟩ := trodAll_cons hA2
  obtain ⟨rfl, rfl, _⟩ := trodAll_nil hA3
  have hargs' : args = #[v0, v1, v2] := by rw [← hargs]
  subst hargs'
  obtain ⟨y, _, hy⟩ := open_sc (P := Try.prog) (t := 3) (ck := .i .i64) (by kernel_rfl) (hval 0 3 v0 rfl rfl)
  obtain ⟨z, hzc, hz⟩ := open_sc (P := Try.prog) (t := 23) (ck := .i .i8) (by kernel_rfl) (hval 1 23 v1 rfl rfl)
  obtain ⟨ks1, row1, hks1, hrow1, hseg1⟩ := open_agg (P := Try.prog) (t := 37) (ts := [.arr .i64 3]) (by kernel_rfl) (hval 2 37 v2 rfl rfl)
  have hrel1 := hseg1 _ rfl
  have hrel2 : ∀ e, All2 (RelV e) [.s (.i .i64 y), .s (.i .i8 z), V.agg [.arr .i64 3 (row1.take 3)]] (#[v0, v1, v2] : Array Value).toList :=
    fun e => ⟨hy e, hz e, hrel1 e, trivial⟩
  refine (calls_true (keyNone_call _ _ _ hzc) hrel2).mono fun en W' he => ?_
  obtain ⟨rfl, hs⟩ := he
  exact ⟨_, rfl, post_true (tb := 4) Try.laidOut3 hW rfl rfl rfl (by kernel_rfl) (by kernel_rfl) hs⟩

theorem keyNone_holds : Rows.KeyNoneSaid :=
  OpenClaim.holds_of_wide 4 Try.f4 rfl rfl rfl rfl rfl rfl rfl ⟨rfl, rfl, rfl, rfl, rfl⟩ rfl rfl rfl rfl rfl (by kernel_rfl) Try.func4 (by kernel_rfl)
    (of_decide_eq_true (by kernel_rfl)) (by unfold Func.isWrapper; first | (rw [if_pos (by decide +kernel)]; kernel_rfl) | (rw [if_neg (by decide +kernel)]; exact ⟨rfl, rfl⟩))
    (fun os started H enc _ => keyNone_lifted os started H enc)

set_option maxRecDepth 100000 in
theorem keyApart_lifted (os : Os) (started : os.Started) (H : Type) (enc : TypeId × Value → H) :
    ReturnsInHanded {} Try.checked os 6 .any (Rows.keyApartSpec.pre6 enc Try.prog Try.f6 Rows.keyApartRow.domain false) (Rows.keyApartSpec.post enc Try.prog Try.f6 false true false false) := by
  refine returnsInHanded_of_change (C := Try.checked) Try.own3 started (by kernel_rfl) Try.func6
    (ChangeSpec.witness6 (enc := enc) (C := Try.checked) false ⟨#[], #[.agg (Array.replicate 3 (.int .i64 0)), .agg (Array.replicate 3 (.int .i64 0))], []⟩ 8 (by kernel_rfl) (by kernel_rfl) (by kernel_rfl) (by kernel_rfl)) ?_
  intro W base args ds gs before hval0 hW hcnd _
  have hval : ∀ (j : Nat) t v, Try.f6.params[j]? = some t → args[j]? = some v → Value.okWide Try.prog W .any base t v := hval0
  obtain ⟨p, q, hA0, hV, _, _, _⟩ := id hW
  have hA : DataW.TrodAll enc Try.prog W 0 (fun _ => true) true [37, 37] args.toList ds p := hA0
  obtain ⟨v0, vs1, d0, ds1, p0, p1, hargs, rfl, _, _, hA1⟩ := trodAll_cons hA
  obtain ⟨v1, vs2, d1, ds2, p2, p3, rfl, rfl, _, _, hA2⟩ := trodAll_cons hA1
  obtain ⟨rfl, rfl, _⟩ := trodAll_nil hA2
  have hargs' : args = #[v0, v1] := by rw [← hargs]
  subst hargs'
  obtain ⟨ks0, row0, hks0, hrow0, hseg0⟩ := open_agg (P := Try.prog) (t := 37) (ts := [.arr .i64 3]) (by kernel_rfl) (hval 0 37 v0 rfl rfl)
  obtain ⟨ks1, row1, hks1, hrow1, hseg1⟩ := open_agg (P := Try.prog) (t := 37) (ts := [.arr .i64 3]) (by kernel_rfl) (hval 1 37 v1 rfl rfl)
  have hrel0 := hseg0 _ rfl
  have hrel1 := hseg1 _ rfl
  have hrel2 : ∀ e, All2 (RelV e) [V.agg [.arr .i64 3 (row0.take 3)], V.agg [.arr .i64 3 (row1.take 3)]] (#[v0, v1] : Array Value).toList :=
    fun e => ⟨hrel0 e, hrel1 e, trivial⟩
  refine (calls_true (keyApart_call _ _ (tri_len hks0 hrow0) (tri_len hks1 hrow1)) hrel2).mono fun en W' he => ?_
  obtain ⟨rfl, hs⟩ := he
  exact ⟨_, rfl, post_true (tb := 4) Try.laidOut3 hW rfl rfl rfl (by kernel_rfl) (by kernel_rfl) hs⟩

theorem keyApart_holds : Rows.KeyApartSaid :=
  OpenClaim.holds_of_wide 6 Try.f6 rfl rfl rfl rfl rfl rfl rfl ⟨rfl, rfl, rfl, rfl, rfl⟩ rfl rfl rfl rfl rfl (by kernel_rfl) Try.func6 (by kernel_rfl)
    (of_decide_eq_true (by kernel_rfl)) (by unfold Func.isWrapper; first | (rw [if_pos (by decide +kernel)]; kernel_rfl) | (rw [if_neg (by decide +kernel)]; exact ⟨rfl, rfl⟩))
    (fun os started H enc _ => keyApart_lifted os started H enc)

end Go.Proofs.Ytkgiegkepopcnaa
