/- The law KeyTwice answers true, whatever is handed to it, and what it was handed reads behind the call as it read before; no conditions. -/
import Derived.Test.YtkgiegkepopcnaaKkKeyTwice
import Derived.Test.YtkgiegkepopcnaaKkP
import Derived.Test.YtkgiegkepopcnaaRows
namespace Go.Proofs.Ytkgiegkepopcnaa
open Go.ChangeShapes Go.WideShapes Go.ChangeAt Go.RowKit Go.Kk

theorem Try.own4 : ownKnob Try.prog.godebug = none := by kernel_rfl
theorem Try.laidOut4 : laidOutB Try.prog = true := by kernel_rfl

theorem keyTwice_call (b h : List Int) (s q x : Int) (hb : b.length = 81) :
    CallOK Try.prog 8 [V.agg [.arr .i8 81 b, .arr .i8 16 h, .one [.i .i8 s]], .s (.i .i64 q), .s (.i .i64 x)] [] (.s (.b true)) [] := by
  obtain ⟨v, objs', h1, h2⟩ := KkKey.k8_ok b h s q x (K := fun v objs => some (v, objs)) (r := (V.s (.b true), [])) rfl rfl (by rw [KkKey.keyTwice_true b h s q x hb]; rfl)
  cases h1
  exact h2

/-- A position's pieces. -/
theorem pos_len4 {ks : List CK} {row : List Int} (hks : rowKs [SegT.arr .i8 81, .arr .i8 16, .one [.i .i8]] = some ks) (hrow : rowOk ks row) :
    (row.take 81).length = 81 ∧ ((row.drop 81).take 16).length = 16 ∧ IntKind.wrap .i8 (((row.drop 81).drop 16).headD 0) = ((row.drop 81).drop 16).headD 0 := by
  have hl := rowOk_length hrow
  have hks' : ks = List.replicate 81 (.i .i8) ++ (List.replicate 16 (.i .i8) ++ ([.i .i8] ++ [])) := by
    simp only [rowKs, kcks?, Kd.ck?, Option.some.injEq] at hks
    exact hks.symm
  have hn : ks.length = 98 := by rw [hks']; simp
  refine ⟨by simp; omega, by simp; omega, ?_⟩
  have h97 : ks[97]? = some (.i .i8) := by rw [hks']; rfl
  obtain ⟨x, hx, hc⟩ := All2.get 97 hrow h97
  have : ((row.drop 81).drop 16).headD 0 = x := by
    rw [List.drop_drop, List.headD_eq_head?_getD, List.head?_drop]
    show (row[97]?).getD 0 = x
    rw [hx]; rfl
  rw [this]
  exact hc

set_option maxRecDepth 100000 in
theorem keyTwice_lifted (os : Os) (started : os.Started) (H : Type) (enc : TypeId × Value → H) :
    ReturnsInHanded {} Try.checked os 8 .any (Rows.keyTwiceSpec.pre6 enc Try.prog Try.f8 Rows.keyTwiceRow.domain false) (Rows.keyTwiceSpec.post enc Try.prog Try.f8 false true false false) := by
  refine returnsInHanded_of_change (C := Try.checked) Try.own4 started (by kernel_rfl) Try.func8
    (ChangeSpec.witness6 (enc := enc) (C := Try.checked) false ⟨#[], #[.agg (Array.replicate 98 (.int .i8 0)), .int .i64 0, .int .i64 0], []⟩ 8 (by kernel_rfl) (by kernel_rfl) (by kernel_rfl) (by kernel_rfl)) ?_
  intro W base args ds gs before hval0 hW hcnd _
  have hval : ∀ (j : Nat) t v, Try.f8.params[j]? = some t → args[j]? = some v → Value.okWide Try.prog W .any base t v := hval0
  obtain ⟨p, q, hA0, hV, _, _, _⟩ := id hW
  have hA : DataW.TrodAll enc Try.prog W 0 (fun _ => true) true [28, 3, 3] args.toList ds p := hA0
  obtain ⟨v0, vs1, d0, ds1, p0, p1, hargs, rfl, _, _, hA1⟩ := trodAll_cons hA
  obtain ⟨v1, vs2, d1, ds2, p2, p3, rfl, rfl, _, _, hA2⟩ := trodAll_cons hA1
  obtain ⟨v2, vs3, d2, ds3, p4, p5, rfl, rfl, _, _, hA3⟩ := trodAll_cons hA2
  obtain ⟨rfl, rfl, _⟩ := trodAll_nil hA3
  have hargs' : args = #[v0, v1, v2] := by rw [← hargs]
  subst hargs'
  obtain ⟨ks, row, hks, hrow, hseg⟩ := open_agg (P := Try.prog) (t := 28) (ts := [.arr .i8 81, .arr .i8 16, .one [.i .i8]]) (by kernel_rfl) (hval 0 28 v0 rfl rfl)
  obtain ⟨y, _, hy⟩ := open_sc (P := Try.prog) (t := 3) (ck := .i .i64) (by kernel_rfl) (hval 1 3 v1 rfl rfl)
  obtain ⟨z, _, hz⟩ := open_sc (P := Try.prog) (t := 3) (ck := .i .i64) (by kernel_rfl) (hval 2 3 v2 rfl rfl)
  obtain ⟨l1, l2, l3⟩ := pos_len4 hks hrow
  have hrel := hseg _ rfl
  have hrel2 : ∀ e, All2 (RelV e) [V.agg [.arr .i8 81 (row.take 81), .arr .i8 16 ((row.drop 81).take 16), .one [.i .i8 (((row.drop 81).drop 16).headD 0)]], .s (.i .i64 y), .s (.i .i64 z)] (#[v0, v1, v2] : Array Value).toList :=
    fun e => ⟨hrel e, hy e, hz e, trivial⟩
  refine (calls_true (keyTwice_call _ _ _ _ _ l1) hrel2).mono fun en W' he => ?_
  obtain ⟨rfl, hs⟩ := he
  exact ⟨_, rfl, post_true (tb := 4) Try.laidOut4 hW rfl rfl rfl (by kernel_rfl) (by kernel_rfl) hs⟩

theorem keyTwice_holds : Rows.KeyTwiceSaid :=
  OpenClaim.holds_of_wide 8 Try.f8 rfl rfl rfl rfl rfl rfl rfl ⟨rfl, rfl, rfl, rfl, rfl⟩ rfl rfl rfl rfl rfl (by kernel_rfl) Try.func8 (by kernel_rfl)
    (of_decide_eq_true (by kernel_rfl)) (by unfold Func.isWrapper; first | (rw [if_pos (by decide +kernel)]; kernel_rfl) | (rw [if_neg (by decide +kernel)]; exact ⟨rfl, rfl⟩))
    (fun os started H enc _ => keyTwice_lifted os started H enc)

end Go.Proofs.Ytkgiegkepopcnaa
