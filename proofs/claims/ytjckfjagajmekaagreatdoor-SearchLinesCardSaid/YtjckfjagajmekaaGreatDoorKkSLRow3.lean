/- The law SearchLines answers true, whatever is handed to it, and what it was handed reads behind the call as it read before; its one listed variable is tied to the program's text by the given tie. -/
import Derived.Test.YtjckfjagajmekaaGreatDoorKkU4
import Derived.Test.YtjckfjagajmekaaGreatDoorKkSLe
import Derived.Test.YtjckfjagajmekaaGreatDoorKkQ
import Derived.Test.YtjckfjagajmekaaGreatDoorCards
import Derived.Test.YtjckfjagajmekaaGreatDoorTie
import Derived.Deep.DeepHandedRow
import Derived.Lib.LaidTab
namespace Go.Proofs.YtjckfjagajmekaaGreatDoor.searchLines
open Go.ChangeShapes Go.WideShapes Go.ChangeAt Go.RowKit Go.Kk Go.Kk.Pl
theorem own : ownKnob Tryz.prog.godebug = none := by kernel_rfl
theorem laidOut : laidOutB Tryz.prog = true := by kernel_rfl
theorem gTab : Tryz.prog.globalNamed "math/bits.deBruijn64tab" = some 0 := by kernel_rfl
theorem gTabType : (Tryz.prog.globals[0]?).map (·.type) = some 151 := by kernel_rfl
theorem undT : Tryz.prog.underlying 151 = some (.array 64 5) := by kernel_rfl
theorem undE : Tryz.prog.underlying 5 = some (.int .u8) := by kernel_rfl
theorem cellsT : Tryz.prog.cellsOf 151 = 64 := by kernel_rfl
theorem cellsE : Tryz.prog.cellsOf 5 = 1 := by kernel_rfl
theorem fxW {W : World} (h : laidMetH Tryz.prog Rows.searchLinesRow.laid W) : FxW W :=
  qhB (l := [0, 1, 56, 2, 57, 49, 28, 3, 61, 58, 42, 50, 38, 29, 17, 4, 62, 47, 59, 36, 45, 43, 51, 22, 53, 39, 33, 30, 24, 18, 12, 5, 63, 55, 48, 27, 60, 41, 37, 16, 46, 35, 44, 21, 52, 32, 23, 11, 54, 26, 40, 15, 34, 20, 31, 10, 25, 14, 19, 9, 13, 8, 7, 6]) rfl gTab (Lib.tabIs_of_head (rest := []) gTab gTabType undT undE cellsE cellsT h)
/-- A question's cells. -/
theorem ask_ok {row : List Int} (hrow : qo (List.replicate 98 (.i .i8) ++ List.replicate 2 (.i .i64)) row) : qFs row := by
  refine ⟨by have := qDD hrow; simpa using this, fun i hi => ?_⟩
  obtain ⟨x, hx, hc⟩ := qB.get (m := row) i hrow (by rw [List.getElem?_append_left (by simpa using hi), List.getElem?_replicate, if_pos hi])
  have hc : IntKind.wrap .i8 x = x := hc
  rw [List.getD_eq_getElem?_getD, hx]
  show -128 ≤ x ∧ x ≤ 127
  rw [← hc]
  simp only [IntKind.wrap, IntKind.signed, IntKind.bits]
  simp
  omega
theorem ask_fits {ks : List CK} {row : List Int} (hks : qAM [SegT.arr .i8 81, .arr .i8 16, .one [.i .i8], .one [.i .i64, .i .i64]] = some ks) (hrow : qo ks row) :
    (row.take 81).length = 81 ∧ ((row.drop 81).take 16).length = 16 ∧ qAl ((row.drop 81).take 16) := by
  have hks' : ks = (List.replicate 98 (.i .i8) ++ List.replicate 2 (.i .i64)) := by
    simp only [qAM, kcks?, Kd.ck?, Option.some.injEq] at hks
    rw [← hks]; rfl
  subst hks'
  have h := ask_ok hrow
  have e : List.take 100 row = row := List.take_of_length_le (by have := h.1; omega)
  have := h.parts
  unfold aB aH at this
  rw [e] at this
  exact this
theorem call {b0 h0 : List Int} (xs : List (List Int)) (hx : ∀ r ∈ xs, qo (List.replicate 98 (.i .i8) ++ List.replicate 2 (.i .i64)) r) (s0 x1 x2 : Int) (hb0 : b0.length = 81) (hh0 : h0.length = 16) (hf0 : qAl h0) :
    ∃ objs', qCx Tryz.prog 3 [V.s (.sl 0 0 xs.length false), V.agg [.arr .i8 81 b0, .arr .i8 16 h0, .one [.i .i8 s0], .one [.i .i64 x1, .i .i64 x2]]] [Obj.sli 31 true (.rows (List.replicate 98 (.i .i8) ++ List.replicate 2 (.i .i64)) xs.length xs)] (.s (.b true)) objs' := by
  have hx' : ∀ i, i < xs.length → qFs (xs.getD (0 + i) []) := by
    intro i hi
    rw [Nat.zero_add, List.getD_eq_getElem?_getD, List.getElem?_eq_getElem hi]
    exact ask_ok (hx _ (List.getElem_mem hi))
  obtain ⟨q, v, objs', h1, h2⟩ := KkSL.qiX (objs := [Obj.sli 31 true (.rows (List.replicate 98 (.i .i8) ++ List.replicate 2 (.i .i64)) xs.length xs)]) 0 xs.length xs.length xs b0 h0 s0 x1 x2 (K := fun q v objs => some (q, v, objs)) (r := (true, V.s (.b true), [])) rfl rfl (by rw [qob 0 xs.length xs.length xs hx' s0 x1 x2 hb0 hf0 hh0]; rfl)
  cases h1
  obtain ⟨_, _, old, _, _, h3⟩ := h2
  exact ⟨_, h3⟩
set_option maxRecDepth 1000000 in
theorem contract (H : Type) (enc : TypeId × Value → H) (W : World) (base : Nat) (args : Array Value) (ds gs : List (DataW H)) (before : List MemPlace)
    (hval : ∀ (j : Nat) t v, Tryz.f3.params[j]? = some t → args[j]? = some v → Value.okWide Tryz.prog W .any base t v)
    (hW : DataW.Whole enc Tryz.prog Tryz.f3.params.toList Rows.searchLinesSpec.vars false W args.toList ds gs before) (hL : laidMetH Tryz.prog Rows.searchLinesRow.laid W) :
    Calls Tryz.prog 3 args W fun e W' => ∃ v, e = .returned v ∧ Rows.searchLinesSpec.post enc Tryz.prog Tryz.f3 false true false false W args v W' := by
  obtain ⟨p, q, hA0, hV, _, _, _⟩ := id hW
  have hA : DataW.TrodAll enc Tryz.prog W 0 (fun _ => true) true [22, 31] args.toList ds p := hA0
  obtain ⟨v0, vs0, d0, ds0, p0, q0, hargs, rfl, _, hd0, hA1⟩ := trodAll_cons hA
  obtain ⟨v1, vs1, d1, ds1, p1, q1, rfl, rfl, _, _, hA2⟩ := trodAll_cons hA1
  obtain ⟨rfl, rfl, _⟩ := trodAll_nil hA2
  have hargs' : args = #[v0, v1] := by rw [← hargs]
  subst hargs'
  obtain ⟨ks1, row1, hks1, hrow1, hseg1⟩ := qkr (P := Tryz.prog) (t := 31) (ts := [.arr .i8 81, .arr .i8 16, .one [.i .i8], .one [.i .i64, .i .i64]]) (by kernel_rfl) (hval 1 31 v1 (by kernel_rfl) rfl)
  obtain ⟨l1, l2, l3⟩ := ask_fits hks1 hrow1
  have hrel1 := hseg1 _ rfl
  have hop := qks (P := Tryz.prog) (t := 22) (e := 31) (f := 10) (ks := (List.replicate 98 (.i .i8) ++ List.replicate 2 (.i .i64))) (by kernel_rfl) (by kernel_rfl) (by kernel_rfl) (hval 0 22 v0 (by kernel_rfl) rfl) hd0
  obtain ⟨nm, xs, g1, g2, g3, g4⟩ := qkl (T := 31) hop (by simp) (fxW hL)
  obtain ⟨objs', hc⟩ := call xs g1 _ _ _ l1 l2 l3
  refine (qfg (nm := nm) (args := #[v0, v1]) hc ⟨g3, hrel1 _, trivial⟩ g4 (fun o ho => by simp at ho; subst ho; rfl)).mono fun en W' he => ?_
  obtain ⟨rfl, hs⟩ := he
  exact ⟨_, rfl, qlP (tb := 4) laidOut hW rfl rfl rfl (by kernel_rfl) (by kernel_rfl) hs⟩
/-- A question for the witness. -/
def wit1 : Value := .agg (Array.replicate 98 (.int .i8 0) ++ #[.int .i64 0, .int .i64 0])
/-- A world for the witness: the table holds what its initialiser lays. -/
noncomputable def laidWorld (os : Os) : World :=
  { World.holding Tryz.prog os ⟨#[], #[], []⟩ with heap := (World.holding Tryz.prog os ⟨#[], #[], []⟩).heap.modify 0 fun
      | .cells _ t frozen => .cells (([0, 1, 56, 2, 57, 49, 28, 3, 61, 58, 42, 50, 38, 29, 17, 4, 62, 47, 59, 36, 45, 43, 51, 22, 53, 39, 33, 30, 24, 18, 12, 5, 63, 55, 48, 27, 60, 41, 37, 16, 46, 35, 44, 21, 52, 32, 23, 11, 54, 26, 40, 15, 34, 20, 31, 10, 25, 14, 19, 9, 13, 8, 7, 6] : List Int).map (Value.int .u8)).toArray t frozen
      | o => o }
theorem laid_met (os : Os) : laidMet Tryz.prog Rows.searchLinesRow.laid ((laidWorld os).forCall (fun _ _ => 0) ⟨#[], #[.slice none 0 0, wit1], []⟩).memory :=
  laidMet_of_run' 8 (by kernel_rfl) (by kernel_rfl)
theorem reads (os : Os) {H : Type} (enc : TypeId × Value → H) : ∃ x, DataW.whole enc Tryz.prog ((laidWorld os).forCall (fun _ _ => 0) ⟨#[], #[.slice none 0 0, wit1], []⟩).memory Tryz.f3.params.toList Rows.searchLinesSpec.vars false (#[.slice none 0 0, wit1] : Array Value).toList 8 = some x :=
  Option.isSome_iff_exists.1 (by kernel_rfl)
set_option maxRecDepth 100000 in
theorem lifted (os : Os) (started : os.Started) (H : Type) (enc : TypeId × Value → H) (F : Stop.Interp) :
    ReturnsInHanded {} Tryz.checked os 3 .any ((OpenSpec.ofChange Rows.searchLinesSpec).preRow enc Tryz.prog Tryz.f3 Rows.searchLinesRow.domain false Rows.searchLinesRow.laid) (((OpenSpec.ofChange Rows.searchLinesSpec).at F).post enc Tryz.prog Tryz.f3 false true false false) := by
  obtain ⟨x, hx⟩ := reads os enc
  refine returnsInHanded_of_row (C := Tryz.checked) (s := OpenSpec.ofChange Rows.searchLinesSpec) own started (by kernel_rfl) Tryz.func3
    (witness_row_at (enc := enc) (C := Tryz.checked) false (laidWorld os) #[.slice none 0 0, wit1] rfl (by kernel_rfl) (by kernel_rfl) (by kernel_rfl)
      (OpenSpec.preRow_of_cond 8 hx (by rfl) (fun k hk => by cases hk) (by kernel_rfl) (laid_met os))) ?_
  intro W base args ds gs before hval hW _ _ _ hL _ _
  exact contract H enc W base args ds gs before hval hW hL
theorem said : Rows.SearchLinesSaid :=
  OpenClaim.holds_of_cond 3 Tryz.f3 rfl rfl rfl rfl rfl rfl rfl ⟨rfl, rfl, rfl, rfl, rfl⟩ rfl rfl rfl rfl rfl (by kernel_rfl) Tryz.func3 (by kernel_rfl)
    (of_decide_eq_true (by kernel_rfl)) (by unfold Func.isWrapper; first | (rw [if_pos (by decide +kernel)]; kernel_rfl) | (rw [if_neg (by decide +kernel)]; exact ⟨rfl, rfl⟩))
    (fun os started H enc _ F => by rw [OpenClaim.pre_eq_preRow]; exact lifted os started H enc F)
theorem plain (f : FuncId) (fn : Func) (hf : Tryz.pinned.checked.prog.funcNamed "kakugyo/kakugyolaw19.SearchLines" = some f) (hfn : Tryz.pinned.checked.prog.funcs[f]? = some fn) :
    false = Tryz.pinned.checked.prog.looks [] ∧ ∀ (j : Nat) t, fn.params[j]? = some t → Tryz.pinned.checked.prog.wantsStandIn t = false := by
  obtain rfl : f = 3 := Option.some.inj ((show Tryz.prog.funcNamed "kakugyo/kakugyolaw19.SearchLines" = some 3 by kernel_rfl).symm.trans hf) |>.symm
  obtain rfl : fn = Tryz.f3 := (Option.some.inj (Tryz.func3.symm.trans hfn)).symm
  refine ⟨by kernel_rfl, fun j t ht => ?_⟩
  have all : Tryz.f3.params.toList.all (fun t => !Tryz.prog.wantsStandIn t) = true := by kernel_rfl
  rw [List.all_eq_true] at all
  have := all t (by simpa using Array.mem_of_getElem? ht)
  exact (show Tryz.prog.wantsStandIn t = false by simpa using this)
end Go.Proofs.YtjckfjagajmekaaGreatDoor.searchLines
namespace Go.Proofs.YtjckfjagajmekaaGreatDoor
open Go
theorem searchLines_card : Rows.SearchLinesCardSaid :=
  Claim7.holds_tied_plain_at .later [] _ _ _ _ searchLines.said (fun _ h => by cases h) (by kernel_rfl) (fun _ h => by cases h) searchLines_row_tie rfl ⟨rfl, rfl⟩ (by kernel_rfl) rfl searchLines.plain (by kernel_rfl)
end Go.Proofs.YtjckfjagajmekaaGreatDoor
