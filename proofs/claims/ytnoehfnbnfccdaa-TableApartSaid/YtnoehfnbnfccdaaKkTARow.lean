/- The law TableApart answers true, whatever is handed to it, and what it was handed reads behind the call as it read before; no conditions. -/
import Derived.Test.YtnoehfnbnfccdaaKkU1
import Derived.Test.YtnoehfnbnfccdaaKkTA
import Derived.Test.YtnoehfnbnfccdaaKkQ
import Derived.Test.YtnoehfnbnfccdaaRows
namespace Go.Proofs.Ytnoehfnbnfccdaa
open Go.ChangeShapes Go.WideShapes Go.ChangeAt Go.RowKit Go.Kk Go.Kk.Pl
theorem Try.own3 : ownKnob Try.prog.godebug = none := by kernel_rfl
theorem Try.laidOut3 : laidOutB Try.prog = true := by kernel_rfl
theorem noFx (W : World) : FxW W := fun g k l h => by
  have e : fxAt g = none := rfl
  rw [e] at h
  cases h
theorem tableApart_call {b h : List Int} (s q x : Int) (hb : b.length = 81) (hh : h.length = 16) :
    CallOK Try.prog 3 [V.agg [.arr .i8 81 b, .arr .i8 16 h, .one [.i .i8 s]], V.s (.i .i64 q), V.s (.i .i8 x)] [] (.s (.b true)) [] := by
  obtain ⟨z, v, objs', h1, h2⟩ := KkTA.law18_TableApart_ok b h s q x (K := fun z v objs => some (z, v, objs)) (r := (false, V.s (.b true), [])) rfl rfl (by rw [tableApart_true _ _ _ _ _ hb hh]; rfl)
  cases h1
  exact h2
set_option maxRecDepth 100000 in
theorem tableApart_lifted (os : Os) (started : os.Started) (H : Type) (enc : TypeId × Value → H) :
    ReturnsInHanded {} Try.checked os 3 .any (Rows.tableApartSpec.pre6 enc Try.prog Try.f3 Rows.tableApartRow.domain false) (Rows.tableApartSpec.post enc Try.prog Try.f3 false true false false) := by
  refine returnsInHanded_of_change (C := Try.checked) Try.own3 started (by kernel_rfl) Try.func3
    (ChangeSpec.witness6 (enc := enc) (C := Try.checked) false ⟨#[], #[.agg (Array.replicate 98 (.int .i8 0)), .int .i64 0, .int .i8 0], []⟩ 8 (by kernel_rfl) (by kernel_rfl) (by kernel_rfl) (by kernel_rfl)) ?_
  intro W base args ds gs before hval0 hW hcnd _
  have hval : ∀ (j : Nat) t v, Try.f3.params[j]? = some t → args[j]? = some v → Value.okWide Try.prog W .any base t v := hval0
  obtain ⟨p, q, hA0, hV, _, _, _⟩ := id hW
  have hA : DataW.TrodAll enc Try.prog W 0 (fun _ => true) true [28, 3, 23] args.toList ds p := hA0
  obtain ⟨v0, vs1, d0, ds1, p0, p1, hargs, rfl, _, _, hA1⟩ := trodAll_cons hA
  obtain ⟨v1, vs2, d1, ds2, p2, p3, rfl, rfl, _, _, hA2⟩ := trodAll_cons hA1
  obtain ⟨v2, vs3, d2, ds3, p4, p5, rfl, rfl, _, _, hA3⟩ := trodAll_cons hA2
  obtain ⟨rfl, rfl, _⟩ := trodAll_nil hA3
  have hargs' : args = #[v0, v1, v2] := by rw [← hargs]
  subst hargs'
  obtain ⟨ks, row, hks, hrow, hseg⟩ := open_agg (P := Try.prog) (t := 28) (ts := [.arr .i8 81, .arr .i8 16, .one [.i .i8]]) (by kernel_rfl) (hval 0 28 v0 rfl rfl)
  obtain ⟨l1, l2, _⟩ := pos_fits hks hrow
  obtain ⟨x1, hx1, hrel1⟩ := open_sc (P := Try.prog) (t := 3) (ck := .i .i64) (by kernel_rfl) (hval 1 3 v1 rfl rfl)
  obtain ⟨x2, hx2, hrel2⟩ := open_sc (P := Try.prog) (t := 23) (ck := .i .i8) (by kernel_rfl) (hval 2 23 v2 rfl rfl)
  have hrel := hseg _ rfl
  have hrels : ∀ e, All2 (RelV e) [V.agg [.arr .i8 81 (row.take 81), .arr .i8 16 ((row.drop 81).take 16), .one [.i .i8 (((row.drop 81).drop 16).headD 0)]], V.s (.i .i64 x1), V.s (.i .i8 x2)] (#[v0, v1, v2] : Array Value).toList :=
    fun e => ⟨hrel e, hrel1 e, hrel2 e, trivial⟩
  refine (calls_true (tableApart_call _ _ _ l1 l2) (noFx W) hrels).mono fun en W' he => ?_
  obtain ⟨rfl, hs⟩ := he
  exact ⟨_, rfl, post_true (tb := 4) Try.laidOut3 hW rfl rfl rfl (by kernel_rfl) (by kernel_rfl) hs⟩
theorem tableApart_holds : Rows.TableApartSaid :=
  OpenClaim.holds_of_wide 3 Try.f3 rfl rfl rfl rfl rfl rfl rfl ⟨rfl, rfl, rfl, rfl, rfl⟩ rfl rfl rfl rfl rfl (by kernel_rfl) Try.func3 (by kernel_rfl)
    (of_decide_eq_true (by kernel_rfl)) (by unfold Func.isWrapper; first | (rw [if_pos (by decide +kernel)]; kernel_rfl) | (rw [if_neg (by decide +kernel)]; exact ⟨rfl, rfl⟩))
    (fun os started H enc _ => tableApart_lifted os started H enc)
end Go.Proofs.Ytnoehfnbnfccdaa
