/- The law GameStates answers true, whatever is handed to it, and what it was handed reads behind the call as it read before; its one listed variable is tied to the program's text by the given tie. -/
import Derived.Test.YthklalefbhbhmaaGreatDoorKkU4
import Derived.Test.YthklalefbhbhmaaGreatDoorKkGTg
import Derived.Test.YthklalefbhbhmaaGreatDoorKkQi
import Derived.Test.YthklalefbhbhmaaGreatDoorCards
import Derived.Test.YthklalefbhbhmaaGreatDoorTie
import Derived.Deep.DeepHandedRow
import Derived.Lib.LaidTab
namespace Go.Proofs.YthklalefbhbhmaaGreatDoor.gameStates
open Go.ChangeShapes Go.WideShapes Go.ChangeAt Go.RowKit Go.Kk Go.Kk.Pl
theorem own : ownKnob Tryz.prog.godebug = none := by kernel_rfl
theorem laidOut : laidOutB Tryz.prog = true := by kernel_rfl
theorem gTab : Tryz.prog.globalNamed "math/bits.deBruijn64tab" = some 0 := by kernel_rfl
theorem gTabType : (Tryz.prog.globals[0]?).map (·.type) = some 152 := by kernel_rfl
theorem undT : Tryz.prog.underlying 152 = some (.array 64 5) := by kernel_rfl
theorem undE : Tryz.prog.underlying 5 = some (.int .u8) := by kernel_rfl
theorem cellsT : Tryz.prog.cellsOf 152 = 64 := by kernel_rfl
theorem cellsE : Tryz.prog.cellsOf 5 = 1 := by kernel_rfl
theorem fxW {W : World} (h : laidMetH Tryz.prog Rows.gameStatesRow.laid W) : FxW W :=
  qhW (l := [0, 1, 56, 2, 57, 49, 28, 3, 61, 58, 42, 50, 38, 29, 17, 4, 62, 47, 59, 36, 45, 43, 51, 22, 53, 39, 33, 30, 24, 18, 12, 5, 63, 55, 48, 27, 60, 41, 37, 16, 46, 35, 44, 21, 52, 32, 23, 11, 54, 26, 40, 15, 34, 20, 31, 10, 25, 14, 19, 9, 13, 8, 7, 6]) rfl gTab (Lib.tabIs_of_head (rest := []) gTab gTabType undT undE cellsE cellsT h)
theorem call {b0 h0 : List Int} (s0 : Int) (xs : List (List Int)) (hb0 : b0.length = 81) (hh0 : h0.length = 16) (hf0 : qAe h0) (_hg0 : qAe b0) (_hs0 : -128 ≤ s0 ∧ s0 ≤ 127) :
    ∃ objs', qD8 Tryz.prog 4 [V.agg [.arr .i8 81 b0, .arr .i8 16 h0, .one [.i .i8 s0]], V.s (.sl 0 0 xs.length false)] [Obj.sli 3 true (.arr .i64 xs.length (qBq xs))] (.s (.b true)) objs' := by
  obtain ⟨q, v, objs', h1, h2⟩ := KkGT.qjP (objs := [Obj.sli 3 true (.arr .i64 xs.length (qBq xs))]) b0 h0 s0 0 xs.length xs.length (qBq xs) (K := fun q v objs => some (q, v, objs)) (r := (true, V.s (.b true), [])) rfl rfl (by rw [qhZ _ hb0 hf0 hh0 _ _ _ _]; rfl)
  cases h1
  obtain ⟨_, _, old, _, _, h3⟩ := h2
  exact ⟨_, h3⟩
set_option maxRecDepth 1000000 in
theorem contract (H : Type) (enc : TypeId × Value → H) (W : World) (base : Nat) (args : Array Value) (ds gs : List (DataW H)) (before : List MemPlace)
    (hval : ∀ (j : Nat) t v, Tryz.f4.params[j]? = some t → args[j]? = some v → Value.okWide Tryz.prog W .any base t v)
    (hW : DataW.Whole enc Tryz.prog Tryz.f4.params.toList Rows.gameStatesSpec.vars false W args.toList ds gs before) (hL : laidMetH Tryz.prog Rows.gameStatesRow.laid W) :
    Calls Tryz.prog 4 args W fun e W' => ∃ v, e = .returned v ∧ Rows.gameStatesSpec.post enc Tryz.prog Tryz.f4 false true false false W args v W' := by
  obtain ⟨p, q, hA0, hV, _, _, _⟩ := id hW
  have hA : DataW.TrodAll enc Tryz.prog W 0 (fun _ => true) true [28, 51] args.toList ds p := hA0
  obtain ⟨v0, vs0, d0, ds0, p0, q0, hargs, rfl, _, _, hA1⟩ := trodAll_cons hA
  obtain ⟨v1, vs1, d1, ds1, p1, q1, rfl, rfl, _, hd1, hA2⟩ := trodAll_cons hA1
  obtain ⟨rfl, rfl, _⟩ := trodAll_nil hA2
  have hargs' : args = #[v0, v1] := by rw [← hargs]
  subst hargs'
  obtain ⟨ks0, row0, hks0, hrow0, hseg0⟩ := qlc (P := Tryz.prog) (t := 28) (ts := [.arr .i8 81, .arr .i8 16, .one [.i .i8]]) (by kernel_rfl) (hval 0 28 v0 (by kernel_rfl) rfl)
  obtain ⟨l01, l02, l03, l04, l05, l06⟩ := qmG hks0 hrow0
  have hrel0 := hseg0 _ rfl
  have hop := qld (P := Tryz.prog) (t := 51) (e := 3) (f := 10) (ks := [.i .i64]) (by kernel_rfl) (by kernel_rfl) (by kernel_rfl) (hval 1 51 v1 (by kernel_rfl) rfl) hd1
  obtain ⟨nm, xs, g1, g2, g3, g4⟩ := qlV (T := 3) hop (fxW hL)
  obtain ⟨objs', hc⟩ := call _ xs l01 l02 l03 l04 ⟨l05, l06⟩
  refine (qfo (nm := nm) (args := #[v0, v1]) hc ⟨hrel0 _, g3, trivial⟩ g4 (fun o ho => by simp at ho; subst ho; rfl)).mono fun en W' he => ?_
  obtain ⟨rfl, hs⟩ := he
  exact ⟨_, rfl, qmH (tb := 4) laidOut hW rfl rfl rfl (by kernel_rfl) (by kernel_rfl) hs⟩
/-- A world for the witness: the table holds what its initialiser lays. -/
noncomputable def laidWorld (os : Os) : World :=
  { World.holding Tryz.prog os ⟨#[], #[], []⟩ with heap := (World.holding Tryz.prog os ⟨#[], #[], []⟩).heap.modify 0 fun
      | .cells _ t frozen => .cells (([0, 1, 56, 2, 57, 49, 28, 3, 61, 58, 42, 50, 38, 29, 17, 4, 62, 47, 59, 36, 45, 43, 51, 22, 53, 39, 33, 30, 24, 18, 12, 5, 63, 55, 48, 27, 60, 41, 37, 16, 46, 35, 44, 21, 52, 32, 23, 11, 54, 26, 40, 15, 34, 20, 31, 10, 25, 14, 19, 9, 13, 8, 7, 6] : List Int).map (Value.int .u8)).toArray t frozen
      | o => o }
theorem laid_met (os : Os) : laidMet Tryz.prog Rows.gameStatesRow.laid ((laidWorld os).forCall (fun _ _ => 0) ⟨#[], #[.agg (Array.replicate 98 (.int .i8 0)), .slice none 0 0], []⟩).memory :=
  laidMet_of_run' 8 (by kernel_rfl) (by kernel_rfl)
theorem reads (os : Os) {H : Type} (enc : TypeId × Value → H) : ∃ x, DataW.whole enc Tryz.prog ((laidWorld os).forCall (fun _ _ => 0) ⟨#[], #[.agg (Array.replicate 98 (.int .i8 0)), .slice none 0 0], []⟩).memory Tryz.f4.params.toList Rows.gameStatesSpec.vars false (#[.agg (Array.replicate 98 (.int .i8 0)), .slice none 0 0] : Array Value).toList 8 = some x :=
  Option.isSome_iff_exists.1 (by kernel_rfl)
set_option maxRecDepth 100000 in
theorem lifted (os : Os) (started : os.Started) (H : Type) (enc : TypeId × Value → H) (F : Stop.Interp) :
    ReturnsInHanded {} Tryz.checked os 4 .any ((OpenSpec.ofChange Rows.gameStatesSpec).preRow enc Tryz.prog Tryz.f4 Rows.gameStatesRow.domain false Rows.gameStatesRow.laid) (((OpenSpec.ofChange Rows.gameStatesSpec).at F).post enc Tryz.prog Tryz.f4 false true false false) := by
  obtain ⟨x, hx⟩ := reads os enc
  refine returnsInHanded_of_row (C := Tryz.checked) (s := OpenSpec.ofChange Rows.gameStatesSpec) own started (by kernel_rfl) Tryz.func4
    (witness_row_at (enc := enc) (C := Tryz.checked) false (laidWorld os) #[.agg (Array.replicate 98 (.int .i8 0)), .slice none 0 0] rfl (by kernel_rfl) (by kernel_rfl) (by kernel_rfl)
      (OpenSpec.preRow_of_cond 8 hx (by rfl) (fun k hk => by cases hk) (by kernel_rfl) (laid_met os))) ?_
  intro W base args ds gs before hval hW _ _ _ hL _ _
  exact contract H enc W base args ds gs before hval hW hL
theorem said : Rows.GameStatesSaid :=
  OpenClaim.holds_of_cond 4 Tryz.f4 rfl rfl rfl rfl rfl rfl rfl ⟨rfl, rfl, rfl, rfl, rfl⟩ rfl rfl rfl rfl rfl (by kernel_rfl) Tryz.func4 (by kernel_rfl)
    (of_decide_eq_true (by kernel_rfl)) (by unfold Func.isWrapper; first | (rw [if_pos (by decide +kernel)]; kernel_rfl) | (rw [if_neg (by decide +kernel)]; exact ⟨rfl, rfl⟩))
    (fun os started H enc _ F => by rw [OpenClaim.pre_eq_preRow]; exact lifted os started H enc F)
theorem plain (f : FuncId) (fn : Func) (hf : Tryz.pinned.checked.prog.funcNamed "kakugyo/kakugyolaw14.GameStates" = some f) (hfn : Tryz.pinned.checked.prog.funcs[f]? = some fn) :
    false = Tryz.pinned.checked.prog.looks [] ∧ ∀ (j : Nat) t, fn.params[j]? = some t → Tryz.pinned.checked.prog.wantsStandIn t = false := by
  obtain rfl : f = 4 := Option.some.inj ((show Tryz.prog.funcNamed "kakugyo/kakugyolaw14.GameStates" = some 4 by kernel_rfl).symm.trans hf) |>.symm
  obtain rfl : fn = Tryz.f4 := (Option.some.inj (Tryz.func4.symm.trans hfn)).symm
  refine ⟨by kernel_rfl, fun j t ht => ?_⟩
  have all : Tryz.f4.params.toList.all (fun t => !Tryz.prog.wantsStandIn t) = true := by kernel_rfl
  rw [List.all_eq_true] at all
  have := all t (by simpa using Array.mem_of_getElem? ht)
  exact (show Tryz.prog.wantsStandIn t = false by simpa using this)
end Go.Proofs.YthklalefbhbhmaaGreatDoor.gameStates
namespace Go.Proofs.YthklalefbhbhmaaGreatDoor
open Go
theorem gameStates_card : Rows.GameStatesCardSaid :=
  Claim7.holds_tied_plain_at .later [] _ _ _ _ gameStates.said (fun _ h => by cases h) (by kernel_rfl) (fun _ h => by cases h) gameStates_row_tie rfl ⟨rfl, rfl⟩ (by kernel_rfl) rfl gameStates.plain (by kernel_rfl)
end Go.Proofs.YthklalefbhbhmaaGreatDoor
