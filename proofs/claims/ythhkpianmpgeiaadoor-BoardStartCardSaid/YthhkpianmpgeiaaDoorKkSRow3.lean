/- The law BoardStart answers true, whatever is handed to it, and what it was handed reads behind the call as it read before; its one listed variable is tied to the program's text by the given tie. -/
import Derived.Test.YthhkpianmpgeiaaDoorKkU1
import Derived.Test.YthhkpianmpgeiaaDoorKkBSb
import Derived.Test.YthhkpianmpgeiaaDoorKkQ
import Derived.Test.YthhkpianmpgeiaaDoorCards
import Derived.Test.YthhkpianmpgeiaaDoorTie
import Derived.Deep.DeepHandedRow
import Derived.Lib.LaidTab
namespace Go.Proofs.YthhkpianmpgeiaaDoor.boardStart
open Go.ChangeShapes Go.WideShapes Go.ChangeAt Go.RowKit Go.Kk Go.Kk.Pl
theorem own : ownKnob Tryd.prog.godebug = none := by kernel_rfl
theorem laidOut : laidOutB Tryd.prog = true := by kernel_rfl
theorem gTab : Tryd.prog.globalNamed "math/bits.deBruijn64tab" = some 0 := by kernel_rfl
theorem gTabType : (Tryd.prog.globals[0]?).map (·.type) = some 66 := by kernel_rfl
theorem undT : Tryd.prog.underlying 66 = some (.array 64 5) := by kernel_rfl
theorem undE : Tryd.prog.underlying 5 = some (.int .u8) := by kernel_rfl
theorem cellsT : Tryd.prog.cellsOf 66 = 64 := by kernel_rfl
theorem cellsE : Tryd.prog.cellsOf 5 = 1 := by kernel_rfl
theorem fxW {W : World} (h : laidMetH Tryd.prog Rows.boardStartRow.laid W) : FxW W :=
  fxW_one (l := [0, 1, 56, 2, 57, 49, 28, 3, 61, 58, 42, 50, 38, 29, 17, 4, 62, 47, 59, 36, 45, 43, 51, 22, 53, 39, 33, 30, 24, 18, 12, 5, 63, 55, 48, 27, 60, 41, 37, 16, 46, 35, 44, 21, 52, 32, 23, 11, 54, 26, 40, 15, 34, 20, 31, 10, 25, 14, 19, 9, 13, 8, 7, 6]) rfl gTab (Lib.tabIs_of_head (rest := []) gTab gTabType undT undE cellsE cellsT h)
theorem call (x0 : Int) (x1 : Int) (hx0 : IntKind.wrap .i64 x0 = x0) (hx1 : IntKind.wrap .i8 x1 = x1) :
    CallOK Tryd.prog 3 [V.s (.i .i64 x0), V.s (.i .i8 x1)] [] (.s (.b true)) [] := by
  obtain ⟨q, v, objs', h1, h2⟩ := KkBS.law05_BoardStart_ok x0 x1 (K := fun q v objs => some (q, v, objs)) (r := (false, V.s (.b true), [])) rfl rfl (by rw [boardStart_true _ _]; rfl)
  cases h1
  exact h2
set_option maxRecDepth 1000000 in
theorem contract (H : Type) (enc : TypeId × Value → H) (W : World) (base : Nat) (args : Array Value) (ds gs : List (DataW H)) (before : List MemPlace)
    (hval : ∀ (j : Nat) t v, Tryd.f3.params[j]? = some t → args[j]? = some v → Value.okWide Tryd.prog W .any base t v)
    (hW : DataW.Whole enc Tryd.prog Tryd.f3.params.toList Rows.boardStartSpec.vars false W args.toList ds gs before) (hL : laidMetH Tryd.prog Rows.boardStartRow.laid W) :
    Calls Tryd.prog 3 args W fun e W' => ∃ v, e = .returned v ∧ Rows.boardStartSpec.post enc Tryd.prog Tryd.f3 false true false false W args v W' := by
  obtain ⟨p, q, hA0, hV, _, _, _⟩ := id hW
  have hA : DataW.TrodAll enc Tryd.prog W 0 (fun _ => true) true [3, 23] args.toList ds p := hA0
  obtain ⟨v0, vs0, d0, ds0, p0, q0, hargs, rfl, _, _, hA1⟩ := trodAll_cons hA
  obtain ⟨v1, vs1, d1, ds1, p1, q1, rfl, rfl, _, _, hA2⟩ := trodAll_cons hA1
  obtain ⟨rfl, rfl, _⟩ := trodAll_nil hA2
  have hargs' : args = #[v0, v1] := by rw [← hargs]
  subst hargs'
  obtain ⟨x0, hx0, hrel0⟩ := open_sc (P := Tryd.prog) (t := 3) (ck := .i .i64) (by kernel_rfl) (hval 0 3 v0 (by kernel_rfl) rfl)
  obtain ⟨x1, hx1, hrel1⟩ := open_sc (P := Tryd.prog) (t := 23) (ck := .i .i8) (by kernel_rfl) (hval 1 23 v1 (by kernel_rfl) rfl)
  have hrels : ∀ e, All2 (RelV e) [V.s (.i .i64 x0), V.s (.i .i8 x1)] (#[v0, v1] : Array Value).toList := fun e => ⟨hrel0 e, hrel1 e, trivial⟩
  refine (calls_true (call _ _ hx0 hx1) (fxW hL) hrels).mono fun en W' he => ?_
  obtain ⟨rfl, hs⟩ := he
  exact ⟨_, rfl, post_true (tb := 4) laidOut hW rfl rfl rfl (by kernel_rfl) (by kernel_rfl) hs⟩
/-- A world for the witness: the table holds what its initialiser lays. -/
noncomputable def laidWorld (os : Os) : World :=
  { World.holding Tryd.prog os ⟨#[], #[], []⟩ with heap := (World.holding Tryd.prog os ⟨#[], #[], []⟩).heap.modify 0 fun
      | .cells _ t frozen => .cells (([0, 1, 56, 2, 57, 49, 28, 3, 61, 58, 42, 50, 38, 29, 17, 4, 62, 47, 59, 36, 45, 43, 51, 22, 53, 39, 33, 30, 24, 18, 12, 5, 63, 55, 48, 27, 60, 41, 37, 16, 46, 35, 44, 21, 52, 32, 23, 11, 54, 26, 40, 15, 34, 20, 31, 10, 25, 14, 19, 9, 13, 8, 7, 6] : List Int).map (Value.int .u8)).toArray t frozen
      | o => o }
theorem laid_met (os : Os) : laidMet Tryd.prog Rows.boardStartRow.laid ((laidWorld os).forCall (fun _ _ => 0) ⟨#[], #[.int .i64 0, .int .i8 0], []⟩).memory :=
  laidMet_of_run' 8 (by kernel_rfl) (by kernel_rfl)
theorem reads (os : Os) {H : Type} (enc : TypeId × Value → H) : ∃ x, DataW.whole enc Tryd.prog ((laidWorld os).forCall (fun _ _ => 0) ⟨#[], #[.int .i64 0, .int .i8 0], []⟩).memory Tryd.f3.params.toList Rows.boardStartSpec.vars false (#[.int .i64 0, .int .i8 0] : Array Value).toList 8 = some x :=
  Option.isSome_iff_exists.1 (by kernel_rfl)
set_option maxRecDepth 100000 in
theorem lifted (os : Os) (started : os.Started) (H : Type) (enc : TypeId × Value → H) (F : Stop.Interp) :
    ReturnsInHanded {} Tryd.checked os 3 .any ((OpenSpec.ofChange Rows.boardStartSpec).preRow enc Tryd.prog Tryd.f3 Rows.boardStartRow.domain false Rows.boardStartRow.laid) (((OpenSpec.ofChange Rows.boardStartSpec).at F).post enc Tryd.prog Tryd.f3 false true false false) := by
  obtain ⟨x, hx⟩ := reads os enc
  refine returnsInHanded_of_row (C := Tryd.checked) (s := OpenSpec.ofChange Rows.boardStartSpec) own started (by kernel_rfl) Tryd.func3
    (witness_row_at (enc := enc) (C := Tryd.checked) false (laidWorld os) #[.int .i64 0, .int .i8 0] rfl (by kernel_rfl) (by kernel_rfl) (by kernel_rfl)
      (OpenSpec.preRow_of_cond 8 hx (by rfl) (fun k hk => by cases hk) (by kernel_rfl) (laid_met os))) ?_
  intro W base args ds gs before hval hW _ _ _ hL _ _
  exact contract H enc W base args ds gs before hval hW hL
theorem said : Rows.BoardStartSaid :=
  OpenClaim.holds_of_cond 3 Tryd.f3 rfl rfl rfl rfl rfl rfl rfl ⟨rfl, rfl, rfl, rfl, rfl⟩ rfl rfl rfl rfl rfl (by kernel_rfl) Tryd.func3 (by kernel_rfl)
    (of_decide_eq_true (by kernel_rfl)) (by unfold Func.isWrapper; first | (rw [if_pos (by decide +kernel)]; kernel_rfl) | (rw [if_neg (by decide +kernel)]; exact ⟨rfl, rfl⟩))
    (fun os started H enc _ F => by rw [OpenClaim.pre_eq_preRow]; exact lifted os started H enc F)
theorem plain (f : FuncId) (fn : Func) (hf : Tryd.pinned.checked.prog.funcNamed "kakugyo/kakugyolaw05.BoardStart" = some f) (hfn : Tryd.pinned.checked.prog.funcs[f]? = some fn) :
    false = Tryd.pinned.checked.prog.looks [] ∧ ∀ (j : Nat) t, fn.params[j]? = some t → Tryd.pinned.checked.prog.wantsStandIn t = false := by
  obtain rfl : f = 3 := Option.some.inj ((show Tryd.prog.funcNamed "kakugyo/kakugyolaw05.BoardStart" = some 3 by kernel_rfl).symm.trans hf) |>.symm
  obtain rfl : fn = Tryd.f3 := (Option.some.inj (Tryd.func3.symm.trans hfn)).symm
  refine ⟨by kernel_rfl, fun j t ht => ?_⟩
  have all : Tryd.f3.params.toList.all (fun t => !Tryd.prog.wantsStandIn t) = true := by kernel_rfl
  rw [List.all_eq_true] at all
  have := all t (by simpa using Array.mem_of_getElem? ht)
  exact (show Tryd.prog.wantsStandIn t = false by simpa using this)
end Go.Proofs.YthhkpianmpgeiaaDoor.boardStart
namespace Go.Proofs.YthhkpianmpgeiaaDoor
open Go
theorem boardStart_card : Rows.BoardStartCardSaid :=
  Claim7.holds_tied_plain_at .later [] _ _ _ _ boardStart.said (fun _ h => by cases h) (by kernel_rfl) (fun _ h => by cases h) boardStart_row_tie rfl ⟨rfl, rfl⟩ (by kernel_rfl) rfl boardStart.plain (by kernel_rfl)
end Go.Proofs.YthhkpianmpgeiaaDoor
