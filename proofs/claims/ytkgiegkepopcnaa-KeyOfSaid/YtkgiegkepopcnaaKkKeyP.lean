/- The law KeyOf answers true, whatever the position handed to it, and what it was handed reads behind the call as it read before; no conditions. -/
import Derived.Test.YtkgiegkepopcnaaKkKeyOf
import Derived.Test.YtkgiegkepopcnaaKkP
import Derived.Test.YtkgiegkepopcnaaRows
namespace Go.Proofs.Ytkgiegkepopcnaa
open Go.ChangeShapes Go.WideShapes Go.ChangeAt Go.RowKit Go.Kk

theorem Try.own : ownKnob Try.prog.godebug = none := by kernel_rfl
theorem Try.laidOut : laidOutB Try.prog = true := by kernel_rfl

theorem keyOf_call (b h : List Int) (s : Int) : CallOK Try.prog 3 [V.agg [.arr .i8 81 b, .arr .i8 16 h, .one [.i .i8 s]]] [] (.s (.b true)) [] := by
  obtain ⟨v, objs', h1, h2⟩ := KkKey.k3_ok b h s (K := fun v objs => some (v, objs)) (r := (V.s (.b true), [])) rfl rfl (by rw [KkKey.keyOf_true]; rfl)
  cases h1
  exact h2

set_option maxRecDepth 100000 in
theorem keyOf_lifted (os : Os) (started : os.Started) (H : Type) (enc : TypeId × Value → H) :
    ReturnsInHanded {} Try.checked os 3 .any (Rows.keyOfSpec.pre6 enc Try.prog Try.f3 Rows.keyOfRow.domain false) (Rows.keyOfSpec.post enc Try.prog Try.f3 false true false false) := by
  refine returnsInHanded_of_change (C := Try.checked) Try.own started (by kernel_rfl) Try.func3
    (ChangeSpec.witness6 (enc := enc) (C := Try.checked) false ⟨#[], #[.agg (Array.replicate 98 (.int .i8 0))], []⟩ 8 (by kernel_rfl) (by kernel_rfl) (by kernel_rfl) (by kernel_rfl)) ?_
  intro W base args ds gs before hval0 hW hcnd _
  have hval : ∀ (j : Nat) t v, Try.f3.params[j]? = some t → args[j]? = some v → Value.okWide Try.prog W .any base t v := hval0
  obtain ⟨p, q, hA0, hV, _, _, _⟩ := id hW
  have hA : DataW.TrodAll enc Try.prog W 0 (fun _ => true) true [28] args.toList ds p := hA0
  obtain ⟨v0, vs1, d0, ds1, p0, p1, hargs, rfl, _, _, hA1⟩ := trodAll_cons hA
  obtain ⟨rfl, rfl, _⟩ := trodAll_nil hA1
  have hargs' : args = #[v0] := by rw [← hargs]
  subst hargs'
  obtain ⟨ks, row, hks, hrow, hseg⟩ := open_agg (P := Try.prog) (t := 28) (ts := [.arr .i8 81, .arr .i8 16, .one [.i .i8]]) (by kernel_rfl) (hval 0 28 v0 rfl rfl)
  have hrel := hseg _ rfl
  have hrel2 : ∀ e, All2 (RelV e) [V.agg [.arr .i8 81 (row.take 81), .arr .i8 16 ((row.drop 81).take 16), .one [.i .i8 (((row.drop 81).drop 16).headD 0)]]] (#[v0] : Array Value).toList := fun e => ⟨hrel e, trivial⟩
  refine (calls_true (keyOf_call _ _ _) hrel2).mono fun en W' he => ?_
  obtain ⟨rfl, hs⟩ := he
  exact ⟨_, rfl, post_true (tb := 4) Try.laidOut hW rfl rfl rfl (by kernel_rfl) (by kernel_rfl) hs⟩

theorem keyOf_holds : Rows.KeyOfSaid :=
  OpenClaim.holds_of_wide 3 Try.f3 rfl rfl rfl rfl rfl rfl rfl ⟨rfl, rfl, rfl, rfl, rfl⟩ rfl rfl rfl rfl rfl (by kernel_rfl) Try.func3 (by kernel_rfl)
    (of_decide_eq_true (by kernel_rfl)) (by unfold Func.isWrapper; first | (rw [if_pos (by decide +kernel)]; kernel_rfl) | (rw [if_neg (by decide +kernel)]; exact ⟨rfl, rfl⟩))
    (fun os started H enc _ => keyOf_lifted os started H enc)

end Go.Proofs.Ytkgiegkepopcnaa
