/- The law TableMany answers true, whatever the list handed to it, and what it was handed reads behind the call as it read before; no conditions. -/
import Derived.Test.YtjlgnglacdhflaaKkTabMany
import Derived.Test.YtjlgnglacdhflaaKkT4
import Derived.Test.YtjlgnglacdhflaaKkQ
import Derived.Test.YtjlgnglacdhflaaRows
namespace Go.Proofs.Ytjlgnglacdhflaa
open Go.ChangeShapes Go.WideShapes Go.ChangeAt Go.RowKit Go.Kk Go.Kk.Pl

theorem Try.own : ownKnob Try.prog.godebug = none := by kernel_rfl
theorem Try.laidOut : laidOutB Try.prog = true := by kernel_rfl

theorem kL1_length : KkT4.kL1.length = 98 := by kernel_rfl

theorem tableMany_call (xs : List (List Int)) (hm : xs.length ≤ maxLen) (hr : ∀ r ∈ xs, rowOk KkT4.kL1 r) :
    ∃ objs', CallOK Try.prog 5 [V.s (.sl 0 0 xs.length false)] [.sli 34 true (.rows KkT4.kL1 xs.length xs)] (.s (.b true)) objs' := by
  obtain ⟨p, v, objs', h1, h2⟩ := KkT4.law18_TableMany_ok (objs := [.sli 34 true (.rows KkT4.kL1 xs.length xs)]) 0 xs.length xs.length xs (K := fun p v objs => some (p, v, objs)) (r := (true, V.s (.b true), [])) rfl rfl
    (by rw [tableMany_true xs hm fun r hr' => by rw [rowOk_length (hr r hr'), kL1_length]]; rfl)
  cases h1
  obtain ⟨_, _, old, _, _, h3⟩ := h2
  exact ⟨_, h3⟩

set_option maxRecDepth 100000 in
theorem tableMany_lifted (os : Os) (started : os.Started) (H : Type) (enc : TypeId × Value → H) :
    ReturnsInHanded {} Try.checked os 5 .any (Rows.tableManySpec.pre6 enc Try.prog Try.f5 Rows.tableManyRow.domain false) (Rows.tableManySpec.post enc Try.prog Try.f5 false true false false) := by
  refine returnsInHanded_of_change (C := Try.checked) Try.own started (by kernel_rfl) Try.func5
    (ChangeSpec.witness6 (enc := enc) (C := Try.checked) false ⟨#[], #[.slice none 0 0], []⟩ 8 (by kernel_rfl) (by kernel_rfl) (by kernel_rfl) (by kernel_rfl)) ?_
  intro W base args ds gs before hval0 hW hcnd _
  have hval : ∀ (j : Nat) t v, Try.f5.params[j]? = some t → args[j]? = some v → Value.okWide Try.prog W .any base t v := hval0
  obtain ⟨p, q, hA0, hV, _, _, _⟩ := id hW
  have hA : DataW.TrodAll enc Try.prog W 0 (fun _ => true) true [22] args.toList ds p := hA0
  obtain ⟨v0, vs1, d0, ds1, p0, p1, hargs, rfl, _, hd0, hA1⟩ := trodAll_cons hA
  obtain ⟨rfl, rfl, _⟩ := trodAll_nil hA1
  have hargs' : args = #[v0] := by rw [← hargs]
  subst hargs'
  have hop := open_rows (P := Try.prog) (t := 22) (e := 34) (f := 10) (ks := KkT4.kL1) (by kernel_rfl) (by kernel_rfl) (by kernel_rfl) (hval 0 22 v0 rfl rfl) hd0
  obtain ⟨nm, xs, h1, h2, h3, h4⟩ := one_slice (T := 34) hop (by rw [kL1_length]; omega)
  obtain ⟨objs', hc⟩ := tableMany_call xs h2 h1
  refine (calls_true_ro (nm := nm) (args := #[v0]) hc ⟨h3, trivial⟩ h4 (fun o ho => by simp at ho; subst ho; rfl)).mono fun en W' he => ?_
  obtain ⟨rfl, hs⟩ := he
  exact ⟨_, rfl, post_true (tb := 4) Try.laidOut hW rfl rfl rfl (by kernel_rfl) (by kernel_rfl) hs⟩

theorem tableMany_holds : Rows.TableManySaid :=
  OpenClaim.holds_of_wide 5 Try.f5 rfl rfl rfl rfl rfl rfl rfl ⟨rfl, rfl, rfl, rfl, rfl⟩ rfl rfl rfl rfl rfl (by kernel_rfl) Try.func5 (by kernel_rfl)
    (of_decide_eq_true (by kernel_rfl)) (by unfold Func.isWrapper; first | (rw [if_pos (by decide +kernel)]; kernel_rfl) | (rw [if_neg (by decide +kernel)]; exact ⟨rfl, rfl⟩))
    (fun os started H enc _ => tableMany_lifted os started H enc)

end Go.Proofs.Ytjlgnglacdhflaa
