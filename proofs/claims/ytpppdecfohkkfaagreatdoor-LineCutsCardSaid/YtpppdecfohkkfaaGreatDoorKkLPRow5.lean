/- The law LineCuts answers true, whatever is handed to it, and what it was handed reads behind the call as it read before; its listed variables are tied to the program's text by the given tie. -/
import Derived.Test.YtpppdecfohkkfaaGreatDoorKkU4
import Derived.Test.YtpppdecfohkkfaaGreatDoorKkLPe
import Derived.Test.YtpppdecfohkkfaaGreatDoorKkQl
import Derived.Test.YtpppdecfohkkfaaGreatDoorCards
import Derived.Test.YtpppdecfohkkfaaGreatDoorTie
import Derived.Deep.DeepHandedRow
import Derived.Lib.LaidTab
namespace Go.Proofs.YtpppdecfohkkfaaGreatDoor.lineCuts
open Go.ChangeShapes Go.WideShapes Go.ChangeAt Go.RowKit Go.Kk Go.Kk.Pl
theorem own : ownKnob Tryz.prog.godebug = none := by kernel_rfl
theorem laidOut : laidOutB Tryz.prog = true := by kernel_rfl
theorem gTab : Tryz.prog.globalNamed "math/bits.deBruijn64tab" = some 1 := by kernel_rfl
theorem gTabType : (Tryz.prog.globals[1]?).map (·.type) = some 169 := by kernel_rfl
theorem undT : Tryz.prog.underlying 169 = some (.array 64 5) := by kernel_rfl
theorem undE : Tryz.prog.underlying 5 = some (.int .u8) := by kernel_rfl
theorem cellsT : Tryz.prog.cellsOf 169 = 64 := by kernel_rfl
theorem cellsE : Tryz.prog.cellsOf 5 = 1 := by kernel_rfl
theorem fxW {W : World} (h : laidMetH Tryz.prog Rows.lineCutsRow.laid W) : FxW W :=
  qkB (l := [0, 1, 56, 2, 57, 49, 28, 3, 61, 58, 42, 50, 38, 29, 17, 4, 62, 47, 59, 36, 45, 43, 51, 22, 53, 39, 33, 30, 24, 18, 12, 5, 63, 55, 48, 27, 60, 41, 37, 16, 46, 35, 44, 21, 52, 32, 23, 11, 54, 26, 40, 15, 34, 20, 31, 10, 25, 14, 19, 9, 13, 8, 7, 6]) rfl gTab (Lib.tabIs_of_head (rest := [("unicode/utf8.acceptRanges", Rows.laid_unicode_utf8_acceptRanges), ("unicode/utf8.first", Rows.laid_unicode_utf8_first)]) gTab gTabType undT undE cellsE cellsT h)
theorem call {b0 h0 : List Int} (s0 : Int) (xs : List (List Int)) (f2 t2 d2 : Int) (p2 : Bool) (hb0 : b0.length = 81) (_hh0 : h0.length = 16) (_hf0 : qAZ h0) (_hg0 : qAZ b0) (_hs0 : -128 ≤ s0 ∧ s0 ≤ 127) :
    ∃ objs', qCO Tryz.prog 5 [V.agg [.arr .i8 81 b0, .arr .i8 16 h0, .one [.i .i8 s0]], V.s (.sl 0 0 xs.length false), V.agg [.one [.i .i64 f2, .i .i64 t2, .i .i64 d2, .b p2]]] [Obj.sli 3 true (.arr .i64 xs.length (qBe xs))] (.s (.b true)) objs' := by
  obtain ⟨q, v, objs', h1, h2⟩ := KkLP.qlW (objs := [Obj.sli 3 true (.arr .i64 xs.length (qBe xs))]) b0 h0 s0 0 xs.length xs.length (qBe xs) f2 t2 d2 p2 (K := fun q v objs => some (q, v, objs)) (r := (true, V.s (.b true), [])) rfl rfl (by rw [ql7 _ hb0 _hf0 _hh0 _ _ _ _ _ _ _ _]; rfl)
  cases h1
  obtain ⟨_, _, old, _, _, h3⟩ := h2
  exact ⟨_, h3⟩
set_option maxRecDepth 1000000 in
theorem contract (H : Type) (enc : TypeId × Value → H) (W : World) (base : Nat) (args : Array Value) (ds gs : List (DataW H)) (before : List MemPlace)
    (hval : ∀ (j : Nat) t v, Tryz.f5.params[j]? = some t → args[j]? = some v → Value.okWide Tryz.prog W .any base t v)
    (hW : DataW.Whole enc Tryz.prog Tryz.f5.params.toList Rows.lineCutsSpec.vars false W args.toList ds gs before) (hL : laidMetH Tryz.prog Rows.lineCutsRow.laid W) :
    Calls Tryz.prog 5 args W fun e W' => ∃ v, e = .returned v ∧ Rows.lineCutsSpec.post enc Tryz.prog Tryz.f5 false true false false W args v W' := by
  obtain ⟨p, q, hA0, hV, _, _, _⟩ := id hW
  have hA : DataW.TrodAll enc Tryz.prog W 0 (fun _ => true) true [28, 48, 37] args.toList ds p := hA0
  obtain ⟨v0, vs0, d0, ds0, p0, q0, hargs, rfl, _, _, hA1⟩ := trodAll_cons hA
  obtain ⟨v1, vs1, d1, ds1, p1, q1, rfl, rfl, _, hd1, hA2⟩ := trodAll_cons hA1
  obtain ⟨v2, vs2, d2, ds2, p2, q2, rfl, rfl, _, _, hA3⟩ := trodAll_cons hA2
  obtain ⟨rfl, rfl, _⟩ := trodAll_nil hA3
  have hargs' : args = #[v0, v1, v2] := by rw [← hargs]
  subst hargs'
  obtain ⟨ks0, row0, hks0, hrow0, hseg0⟩ := qZW (P := Tryz.prog) (t := 28) (ts := [.arr .i8 81, .arr .i8 16, .one [.i .i8]]) (by kernel_rfl) (hval 0 28 v0 (by kernel_rfl) rfl)
  obtain ⟨l01, l02, l03, l04, l05, l06⟩ := qoo hks0 hrow0
  have hrel0 := hseg0 _ rfl
  have hop := qn8 (P := Tryz.prog) (t := 48) (e := 3) (f := 10) (ks := [.i .i64]) (by kernel_rfl) (by kernel_rfl) (by kernel_rfl) (hval 1 48 v1 (by kernel_rfl) rfl) hd1
  obtain ⟨nm, xs, g1, g2, g3, g4⟩ := qn2 (T := 3) hop (fxW hL)
  obtain ⟨ks2, row2, hks2, hrow2, hseg2⟩ := qZW (P := Tryz.prog) (t := 37) (ts := [.one [.i .i64, .i .i64, .i .i64, .b]]) (by kernel_rfl) (hval 2 37 v2 (by kernel_rfl) rfl)
  have hrel2 := hseg2 _ rfl
  obtain ⟨objs', hc⟩ := call _ xs (row2.headD 0) (row2.tail.headD 0) (row2.tail.tail.headD 0) (row2.tail.tail.tail.headD 0 != 0) l01 l02 l03 l04 ⟨l05, l06⟩
  refine (qiW (nm := nm) (args := #[v0, v1, v2]) hc ⟨hrel0 _, g3, hrel2 _, trivial⟩ g4 (fun o ho => by simp at ho; subst ho; rfl)).mono fun en W' he => ?_
  obtain ⟨rfl, hs⟩ := he
  exact ⟨_, rfl, qop (tb := 4) laidOut hW rfl rfl rfl (by kernel_rfl) (by kernel_rfl) hs⟩
/-- For the witness: an object that holds what an initialiser lays. -/
noncomputable def lay (l : List Value) : Go.Obj → Go.Obj := fun
  | .cells _ t frozen => .cells l.toArray t frozen
  | o => o
noncomputable def laidWorld (os : Os) : World :=
  { World.holding Tryz.prog os ⟨#[], #[], []⟩ with heap := (((World.holding Tryz.prog os ⟨#[], #[], []⟩).heap.modify 1 (lay (([0, 1, 56, 2, 57, 49, 28, 3, 61, 58, 42, 50, 38, 29, 17, 4, 62, 47, 59, 36, 45, 43, 51, 22, 53, 39, 33, 30, 24, 18, 12, 5, 63, 55, 48, 27, 60, 41, 37, 16, 46, 35, 44, 21, 52, 32, 23, 11, 54, 26, 40, 15, 34, 20, 31, 10, 25, 14, 19, 9, 13, 8, 7, 6] : List Int).map (Value.int .u8)))).modify 2 (lay (Go.Pinned.utf8FirstZ.map fun (z : Nat) => Value.int .u8 (z : Int)))).modify 3 (lay (([128, 191, 160, 191, 128, 159, 144, 191, 128, 143, 0, 0, 0, 0, 0, 0, 0, 0, 0, 0, 0, 0, 0, 0, 0, 0, 0, 0, 0, 0, 0, 0] : List Int).map (Value.int .u8))) }
theorem laid_met (os : Os) : laidMet Tryz.prog Rows.lineCutsRow.laid ((laidWorld os).forCall (fun _ _ => 0) ⟨#[], #[.agg (Array.replicate 98 (.int .i8 0)), .slice none 0 0, .agg #[.int .i64 0, .int .i64 0, .int .i64 0, .bool false]], []⟩).memory :=
  laidMet_of_run' 8 (by kernel_rfl) (by kernel_rfl)
theorem reads (os : Os) {H : Type} (enc : TypeId × Value → H) : ∃ x, DataW.whole enc Tryz.prog ((laidWorld os).forCall (fun _ _ => 0) ⟨#[], #[.agg (Array.replicate 98 (.int .i8 0)), .slice none 0 0, .agg #[.int .i64 0, .int .i64 0, .int .i64 0, .bool false]], []⟩).memory Tryz.f5.params.toList Rows.lineCutsSpec.vars false (#[.agg (Array.replicate 98 (.int .i8 0)), .slice none 0 0, .agg #[.int .i64 0, .int .i64 0, .int .i64 0, .bool false]] : Array Value).toList 8 = some x :=
  Option.isSome_iff_exists.1 (by kernel_rfl)
set_option maxRecDepth 100000 in
theorem lifted (os : Os) (started : os.Started) (H : Type) (enc : TypeId × Value → H) (F : Stop.Interp) :
    ReturnsInHanded {} Tryz.checked os 5 .any ((OpenSpec.ofChange Rows.lineCutsSpec).preRow enc Tryz.prog Tryz.f5 Rows.lineCutsRow.domain false Rows.lineCutsRow.laid) (((OpenSpec.ofChange Rows.lineCutsSpec).at F).post enc Tryz.prog Tryz.f5 false true false false) := by
  obtain ⟨x, hx⟩ := reads os enc
  refine returnsInHanded_of_row (C := Tryz.checked) (s := OpenSpec.ofChange Rows.lineCutsSpec) own started (by kernel_rfl) Tryz.func5
    (witness_row_at (enc := enc) (C := Tryz.checked) false (laidWorld os) #[.agg (Array.replicate 98 (.int .i8 0)), .slice none 0 0, .agg #[.int .i64 0, .int .i64 0, .int .i64 0, .bool false]] rfl (by kernel_rfl) (by kernel_rfl) (by kernel_rfl)
      (OpenSpec.preRow_of_cond 8 hx (by rfl) (fun k hk => by cases hk) (by kernel_rfl) (laid_met os))) ?_
  intro W base args ds gs before hval hW _ _ _ hL _ _
  exact contract H enc W base args ds gs before hval hW hL
theorem said : Rows.LineCutsSaid :=
  OpenClaim.holds_of_cond 5 Tryz.f5 rfl rfl rfl rfl rfl rfl rfl ⟨rfl, rfl, rfl, rfl, rfl⟩ rfl rfl rfl rfl rfl (by kernel_rfl) Tryz.func5 (by kernel_rfl)
    (of_decide_eq_true (by kernel_rfl)) (by unfold Func.isWrapper; first | (rw [if_pos (by decide +kernel)]; kernel_rfl) | (rw [if_neg (by decide +kernel)]; exact ⟨rfl, rfl⟩))
    (fun os started H enc _ F => by rw [OpenClaim.pre_eq_preRow]; exact lifted os started H enc F)
theorem plain (f : FuncId) (fn : Func) (hf : Tryz.pinned.checked.prog.funcNamed "kakugyo/kakugyolaw21.LineCuts" = some f) (hfn : Tryz.pinned.checked.prog.funcs[f]? = some fn) :
    false = Tryz.pinned.checked.prog.looks [] ∧ ∀ (j : Nat) t, fn.params[j]? = some t → Tryz.pinned.checked.prog.wantsStandIn t = false := by
  obtain rfl : f = 5 := Option.some.inj ((show Tryz.prog.funcNamed "kakugyo/kakugyolaw21.LineCuts" = some 5 by kernel_rfl).symm.trans hf) |>.symm
  obtain rfl : fn = Tryz.f5 := (Option.some.inj (Tryz.func5.symm.trans hfn)).symm
  refine ⟨by kernel_rfl, fun j t ht => ?_⟩
  have all : Tryz.f5.params.toList.all (fun t => !Tryz.prog.wantsStandIn t) = true := by kernel_rfl
  rw [List.all_eq_true] at all
  have := all t (by simpa using Array.mem_of_getElem? ht)
  exact (show Tryz.prog.wantsStandIn t = false by simpa using this)
end Go.Proofs.YtpppdecfohkkfaaGreatDoor.lineCuts
namespace Go.Proofs.YtpppdecfohkkfaaGreatDoor
open Go
theorem lineCuts_card : Rows.LineCutsCardSaid :=
  Claim7.holds_tied_plain_at .later [] _ _ _ _ lineCuts.said (fun _ h => by cases h) (by kernel_rfl) (fun _ h => by cases h) lineCuts_row_tie rfl ⟨rfl, rfl⟩ (by kernel_rfl) rfl lineCuts.plain (by kernel_rfl)
end Go.Proofs.YtpppdecfohkkfaaGreatDoor
