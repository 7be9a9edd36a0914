/- The law DeedHands answers true, whatever is handed to it, and what it was handed reads behind the call as it read before; no conditions. -/
import Derived.Test.YtjlgnglacdhflaaKkDHands
import Derived.Test.YtjlgnglacdhflaaKkD9
import Derived.Test.YtjlgnglacdhflaaKkQ
import Derived.Test.YtjlgnglacdhflaaRows
namespace Go.Proofs.Ytjlgnglacdhflaa
open Go.ChangeShapes Go.WideShapes Go.ChangeAt Go.RowKit Go.Kk Go.Kk.Pl

theorem Try.own10 : ownKnob Try.prog.godebug = none := by kernel_rfl
theorem Try.laidOut10 : laidOutB Try.prog = true := by kernel_rfl

theorem deedHands_call {b h : List Int} (s f t d : Int) (p : Bool) (hb : b.length = 81) (hf : Fits8 h) :
    CallOK Try.prog 10 [V.agg [.arr .i8 81 b, .arr .i8 16 h, .one [.i .i8 s]], V.agg [.one [.i .i64 f, .i .i64 t, .i .i64 d, .b p]]] [] (.s (.b true)) [] := by
  obtain ⟨q, v, objs', h1, h2⟩ := KkD9.law09_DeedHands_ok b h s f t d p (K := fun q v objs => some (q, v, objs)) (r := (false, V.s (.b true), [])) rfl rfl (by rw [deedHands_true hb hf]; rfl)
  cases h1
  exact h2

/-- A position's hands fit their words. -/
theorem pos_fits {ks : List CK} {row : List Int} (hks : rowKs [SegT.arr .i8 81, .arr .i8 16, .one [.i .i8]] = some ks) (hrow : rowOk ks row) :
    (row.take 81).length = 81 ∧ ((row.drop 81).take 16).length = 16 ∧ Fits8 ((row.drop 81).take 16) := by
  have hl := rowOk_length hrow
  have hks' : ks = List.replicate 81 (.i .i8) ++ (List.replicate 16 (.i .i8) ++ ([.i .i8] ++ [])) := by
    simp only [rowKs, kcks?, Kd.ck?, Option.some.injEq] at hks
    exact hks.symm
  have hn : ks.length = 98 := by rw [hks']; simp
  refine ⟨by simp; omega, by simp; omega, fun i => ?_⟩
  by_cases hi : i < 16
  · have h97 : ks[81 + i]? = some (.i .i8) := by
      rw [hks', List.getElem?_append_right (by rw [List.length_replicate]; omega), List.length_replicate, Nat.add_sub_cancel_left, List.getElem?_append_left (by rw [List.length_replicate]; exact hi), List.getElem?_replicate, if_pos hi]
    obtain ⟨x, hx, hc⟩ := All2.get (81 + i) hrow h97
    have : ((row.drop 81).take 16).getD i 0 = x := by
      rw [List.getD_eq_getElem?_getD, List.getElem?_take, if_pos hi, List.getElem?_drop, hx]
      rfl
    rw [this]
    have hc : IntKind.wrap .i8 x = x := hc
    rw [← hc]
    exact wrap8_range x
  · rw [List.getD_eq_getElem?_getD, List.getElem?_eq_none (by simp; omega)]
    simp

set_option maxRecDepth 100000 in
theorem deedHands_lifted (os : Os) (started : os.Started) (H : Type) (enc : TypeId × Value → H) :
    ReturnsInHanded {} Try.checked os 10 .any (Rows.deedHandsSpec.pre6 enc Try.prog Try.f10 Rows.deedHandsRow.domain false) (Rows.deedHandsSpec.post enc Try.prog Try.f10 false true false false) := by
  refine returnsInHanded_of_change (C := Try.checked) Try.own10 started (by kernel_rfl) Try.func10
    (ChangeSpec.witness6 (enc := enc) (C := Try.checked) false ⟨#[], #[.agg (Array.replicate 98 (.int .i8 0)), .agg #[.int .i64 0, .int .i64 0, .int .i64 0, .bool false]], []⟩ 8 (by kernel_rfl) (by kernel_rfl) (by kernel_rfl) (by kernel_rfl)) ?_
  intro W base args ds gs before hval0 hW hcnd _
  have hval : ∀ (j : Nat) t v, Try.f10.params[j]? = some t → args[j]? = some v → Value.okWide Try.prog W .any base t v := hval0
  obtain ⟨p, q, hA0, hV, _, _, _⟩ := id hW
  have hA : DataW.TrodAll enc Try.prog W 0 (fun _ => true) true [34, 37] args.toList ds p := hA0
  obtain ⟨v0, vs1, d0, ds1, p0, p1, hargs, rfl, _, _, hA1⟩ := trodAll_cons hA
  obtain ⟨v1, vs2, d1, ds2, p2, p3, rfl, rfl, _, _, hA2⟩ := trodAll_cons hA1
  obtain ⟨rfl, rfl, _⟩ := trodAll_nil hA2
  have hargs' : args = #[v0, v1] := by rw [← hargs]
  subst hargs'
  obtain ⟨ks, row, hks, hrow, hseg⟩ := open_agg (P := Try.prog) (t := 34) (ts := [.arr .i8 81, .arr .i8 16, .one [.i .i8]]) (by kernel_rfl) (hval 0 34 v0 rfl rfl)
  obtain ⟨ks1, row1, hks1, hrow1, hseg1⟩ := open_agg (P := Try.prog) (t := 37) (ts := [.one [.i .i64, .i .i64, .i .i64, .b]]) (by kernel_rfl) (hval 1 37 v1 rfl rfl)
  obtain ⟨l1, l2, l3⟩ := pos_fits hks hrow
  have hrel := hseg _ rfl
  have hrel1 := hseg1 _ rfl
  have hrel2 : ∀ e, All2 (RelV e) [V.agg [.arr .i8 81 (row.take 81), .arr .i8 16 ((row.drop 81).take 16), .one [.i .i8 (((row.drop 81).drop 16).headD 0)]],
      V.agg [.one [.i .i64 (row1.headD 0), .i .i64 (row1.tail.headD 0), .i .i64 (row1.tail.tail.headD 0), .b (row1.tail.tail.tail.headD 0 != 0)]]] (#[v0, v1] : Array Value).toList :=
    fun e => ⟨hrel e, hrel1 e, trivial⟩
  refine (calls_true (deedHands_call _ _ _ _ _ l1 l3) hrel2).mono fun en W' he => ?_
  obtain ⟨rfl, hs⟩ := he
  exact ⟨_, rfl, post_true (tb := 4) Try.laidOut10 hW rfl rfl rfl (by kernel_rfl) (by kernel_rfl) hs⟩

theorem deedHands_holds : Rows.DeedHandsSaid :=
  OpenClaim.holds_of_wide 10 Try.f10 rfl rfl rfl rfl rfl rfl rfl ⟨rfl, rfl, rfl, rfl, rfl⟩ rfl rfl rfl rfl rfl (by kernel_rfl) Try.func10 (by kernel_rfl)
    (of_decide_eq_true (by kernel_rfl)) (by unfold Func.isWrapper; first | (rw [if_pos (by decide +kernel)]; kernel_rfl) | (rw [if_neg (by decide +kernel)]; exact ⟨rfl, rfl⟩))
    (fun os started H enc _ => deedHands_lifted os started H enc)

end Go.Proofs.Ytjlgnglacdhflaa
