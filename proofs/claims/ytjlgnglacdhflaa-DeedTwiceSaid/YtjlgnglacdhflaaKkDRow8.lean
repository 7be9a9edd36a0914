/- The law DeedTwice answers true, whatever is handed to it, and what it was handed reads behind the call as it read before; no conditions. -/
import Derived.Test.YtjlgnglacdhflaaKkDTwice
import Derived.Test.YtjlgnglacdhflaaKkD8
import Derived.Test.YtjlgnglacdhflaaKkQ
import Derived.Test.YtjlgnglacdhflaaRows
namespace Go.Proofs.Ytjlgnglacdhflaa
open Go.ChangeShapes Go.WideShapes Go.ChangeAt Go.RowKit Go.Kk Go.Kk.Pl

theorem Try.own8 : ownKnob Try.prog.godebug = none := by kernel_rfl
theorem Try.laidOut8 : laidOutB Try.prog = true := by kernel_rfl

theorem deedTwice_call {b h : List Int} (s : Int) (xs : List (List Int)) (hb : b.length = 81) (hh : h.length = 16) (hf : Fits8 h) :
    ∃ objs', CallOK Try.prog 8 [V.agg [.arr .i8 81 b, .arr .i8 16 h, .one [.i .i8 s]], V.s (.sl 0 0 xs.length false)] [.sli 37 true (.rows [.i .i64, .i .i64, .i .i64, .b] xs.length xs)] (.s (.b true)) objs' := by
  obtain ⟨q, v, objs', h1, h2⟩ := KkD8.law09_DeedTwice_ok (objs := [.sli 37 true (.rows [.i .i64, .i .i64, .i .i64, .b] xs.length xs)]) b h s 0 xs.length xs.length xs (K := fun q v objs => some (q, v, objs)) (r := (true, V.s (.b true), [])) rfl rfl
    (by rw [deedTwice_true hb hf hh]; rfl)
  cases h1
  obtain ⟨_, _, old, _, _, h3⟩ := h2
  exact ⟨_, h3⟩

/-- A position's hands fit their words. -/
theorem pos_fits {ks : List CK} {row : List Int} (hks : rowKs [SegT.arr .i8 81, .arr .i8 16, .one [.i .i8]] = some ks) (hrow : rowOk ks row) :
    (row.take 81).length = 81 ∧ ((row.drop 81).take 16).length = 16 ∧ Fits8 ((row.drop 81).take 16) := by
  have hl := rowOk_length hrow
  have hks' : ks = List.replicate 81 (.i .i8) ++ (List.replicate 16 (.i .i8) ++ ([.i .i8] ++ [])) := by
    simp only [rowKs, kcks?, Kd.ck?, Option.some.injEq] at hks
    exact hks.symm
  have hn : ks.length = 98 := by rw [hks']; simp
  refine ⟨by simp; omega, by simp; omega, fun i => ?_⟩
  by_cases hi : i < 16
  · have h97 : ks[81 + i]? = some (.i .i8) := by
      rw [hks', List.getElem?_append_right (by rw [List.length_replicate]; omega), List.length_replicate, Nat.add_sub_cancel_left, List.getElem?_append_left (by rw [List.length_replicate]; exact hi), List.getElem?_replicate, if_pos hi]
    obtain ⟨x, hx, hc⟩ := All2.get (81 + i) hrow h97
    have : ((row.drop 81).take 16).getD i 0 = x := by
      rw [List.getD_eq_getElem?_getD, List.getElem?_take, if_pos hi, List.getElem?_drop, hx]
      rfl
    rw [this]
    have hc : IntKind.wrap .i8 x = x := hc
    rw [← hc]
    exact wrap8_range x
  · rw [List.getD_eq_getElem?_getD, List.getElem?_eq_none (by simp; omega)]
    simp

set_option maxRecDepth 100000 in
theorem deedTwice_lifted (os : Os) (started : os.Started) (H : Type) (enc : TypeId × Value → H) :
    ReturnsInHanded {} Try.checked os 8 .any (Rows.deedTwiceSpec.pre6 enc Try.prog Try.f8 Rows.deedTwiceRow.domain false) (Rows.deedTwiceSpec.post enc Try.prog Try.f8 false true false false) := by
  refine returnsInHanded_of_change (C := Try.checked) Try.own8 started (by kernel_rfl) Try.func8
    (ChangeSpec.witness6 (enc := enc) (C := Try.checked) false ⟨#[], #[.agg (Array.replicate 98 (.int .i8 0)), .slice none 0 0], []⟩ 8 (by kernel_rfl) (by kernel_rfl) (by kernel_rfl) (by kernel_rfl)) ?_
  intro W base args ds gs before hval0 hW hcnd _
  have hval : ∀ (j : Nat) t v, Try.f8.params[j]? = some t → args[j]? = some v → Value.okWide Try.prog W .any base t v := hval0
  obtain ⟨p, q, hA0, hV, _, _, _⟩ := id hW
  have hA : DataW.TrodAll enc Try.prog W 0 (fun _ => true) true [34, 50] args.toList ds p := hA0
  obtain ⟨v0, vs1, d0, ds1, p0, p1, hargs, rfl, _, _, hA1⟩ := trodAll_cons hA
  obtain ⟨v1, vs2, d1, ds2, p2, p3, rfl, rfl, _, hd1, hA2⟩ := trodAll_cons hA1
  obtain ⟨rfl, rfl, _⟩ := trodAll_nil hA2
  have hargs' : args = #[v0, v1] := by rw [← hargs]
  subst hargs'
  obtain ⟨ks, row, hks, hrow, hseg⟩ := open_agg (P := Try.prog) (t := 34) (ts := [.arr .i8 81, .arr .i8 16, .one [.i .i8]]) (by kernel_rfl) (hval 0 34 v0 rfl rfl)
  have hop := open_rows (P := Try.prog) (t := 50) (e := 37) (f := 10) (ks := [.i .i64, .i .i64, .i .i64, .b]) (by kernel_rfl) (by kernel_rfl) (by kernel_rfl) (hval 1 50 v1 rfl rfl) hd1
  obtain ⟨nm, xs, h1, h2, h3, h4⟩ := one_slice (T := 37) hop (by simp)
  obtain ⟨l1, l2, l3⟩ := pos_fits hks hrow
  have hrel := hseg _ rfl
  obtain ⟨objs', hc⟩ := deedTwice_call (b := row.take 81) (h := (row.drop 81).take 16) (((row.drop 81).drop 16).headD 0) xs l1 l2 l3
  refine (calls_true_ro (nm := nm) (args := #[v0, v1]) hc ⟨hrel _, h3, trivial⟩ h4 (fun o ho => by simp at ho; subst ho; rfl)).mono fun en W' he => ?_
  obtain ⟨rfl, hs⟩ := he
  exact ⟨_, rfl, post_true (tb := 4) Try.laidOut8 hW rfl rfl rfl (by kernel_rfl) (by kernel_rfl) hs⟩

theorem deedTwice_holds : Rows.DeedTwiceSaid :=
  OpenClaim.holds_of_wide 8 Try.f8 rfl rfl rfl rfl rfl rfl rfl ⟨rfl, rfl, rfl, rfl, rfl⟩ rfl rfl rfl rfl rfl (by kernel_rfl) Try.func8 (by kernel_rfl)
    (of_decide_eq_true (by kernel_rfl)) (by unfold Func.isWrapper; first | (rw [if_pos (by decide +kernel)]; kernel_rfl) | (rw [if_neg (by decide +kernel)]; exact ⟨rfl, rfl⟩))
    (fun os started H enc _ => deedTwice_lifted os started H enc)

end Go.Proofs.Ytjlgnglacdhflaa
