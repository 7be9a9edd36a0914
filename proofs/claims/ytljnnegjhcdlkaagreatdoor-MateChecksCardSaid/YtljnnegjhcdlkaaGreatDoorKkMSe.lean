/- Printed by a tool of this project (KkGen): the program's functions come to the plain ones. -/
import Derived.Test.YtljnnegjhcdlkaaGreatDoorKkMSd
namespace Go.Kk.KkMS
noncomputable section
open Go.Proofs Go.Kk.Pl
set_option maxRecDepth 100000
set_option maxHeartbeats 4000000
def qG2 : Ex → List V → List Obj → Option ((Bool × Int × Int × Int × Bool) ⊕ (Int × Int × Int × Bool)) := fun e vs objs => match e, vs, objs with
 | .ret, [.s (.ptr 0 0 none 0), .s (.b y0)], [.cells 39 [.one [.i .i64 y1, .i .i64 y2, .i .i64 y3, .b y4]]] => some (.inl (y0, y1, y2, y3, y4))
 | .exit 0, [.s (.ptr 0 0 none 0), .s .bad], [.cells 39 [.one [.i .i64 y0, .i .i64 y1, .i .i64 y2, .b y3]]] => some (.inr (y0, y1, y2, y3))
 | _, _, _ => none
def qG4 {R : Type} (vs : List V) (objs : List Obj) (K : Ex → List V → List Obj → Option R) : Option R := match vs, objs with
 | [.s (.ptr 0 0 none 0), .s (.ptr 1 0 none 0), .s (.sl 2 0 x0 true), .s (.i .i64 x1)], [.cells 28 [.arr .i8 81 x2, .arr .i8 16 x3, .one [.i .i8 x4]], .cells 39 [.one [.i .i64 x5, .i .i64 x6, .i .i64 x7, .b x8]], .sli 39 false (.rows [.i .i64, .i .i64, .i .i64, .b] x9 x10)] => ob (qA6 many x0 x1 x2 x3 x4 x5 x6 x7 x8 x9 x10) fun t0 => sw t0 (fun z => K (.ret) ([.s (.ptr 0 0 none 0), .s (.b (z.1))]) ([.cells 39 [.one [.i .i64 (z.2.1), .i .i64 (z.2.2.1), .i .i64 (z.2.2.2.1), .b (z.2.2.2.2)]]])) (fun z => K (.exit 0) ([.s (.ptr 0 0 none 0), .s .bad]) ([.cells 39 [.one [.i .i64 (z.1), .i .i64 (z.2.1), .i .i64 (z.2.2.1), .b (z.2.2.2)]]]))
 | _, _ => none
def qTr : {R : Type} → Nat → List V → List Obj → (Ex → List V → List Obj → Option R) → Option R := fun q vs objs K => bif Nat.beq q 3 then qG4 vs objs K else none
def qDx : Ctx := mkC 26 ((qNW (qC1 (qG0 oNil)))) [(3, [1, 2, 4, 5], [2, 3])] qTr
theorem qNP : CtxOK Tryz.prog qDx := mkC_ok ((qTw _ (qDs _ (qNN _ oNil_ok))))
def qG3 (f : Nat) (x0 : Nat) (x1 : Int) (x2 x3 : List Int) (x4 x5 : Int) (x6 x7 : Int) (x8 : Bool) (x9 : Nat) (x10 : List (List Int)) : Option ((Bool × Int × Int × Int × Bool) ⊕ (Int × Int × Int × Bool)) := lrun qDx 0 [1, 2, 4, 5] [2, 3] (loopOf Tryz.f18 3) f ([.s (.ptr 0 0 none 0), .s (.ptr 1 0 none 0), .s (.sl 2 0 x0 true), .s (.i .i64 x1)]) ([.cells 28 [.arr .i8 81 x2, .arr .i8 16 x3, .one [.i .i8 x4]], .cells 39 [.one [.i .i64 x5, .i .i64 x6, .i .i64 x7, .b x8]], .sli 39 false (.rows [.i .i64, .i .i64, .i .i64, .b] x9 x10)]) qG2
theorem qTq (f : Nat) (x0 : Nat) (x1 : Int) (x2 x3 : List Int) (x4 x5 : Int) (x6 x7 : Int) (x8 : Bool) (x9 : Nat) (x10 : List (List Int)) : qG3 (f + 1) x0 x1 x2 x3 x4 x5 x6 x7 x8 x9 x10 = qCW (qG3 f) x0 x1 x2 x3 x4 x5 x6 x7 x8 x9 x10 := by kernel_rfl
theorem qNR : ∀ f, qG3 f = qA6 f
 | 0 => rfl
 | f + 1 => by funext x0 x1 x2 x3 x4 x5 x6 x7 x8 x9 x10; rw [qTq, qNR f]; rfl
theorem qTt : LoopSound Tryz.prog qDx 0 (loopOf Tryz.f18 3) :=
 loopSound_by mixed qNP (AllP.of (l' := []) (by kernel_rfl) trivial) (q := 3) (kin := [1, 2, 4, 5]) (kout := [2, 3]) (by kernel_rfl) (by kernel_rfl) fun vs objs K r h => by
  replace h : qG4 vs objs K = some r := h
  unfold qG4 at h
  split at h
  ·skip
   obtain ⟨t, h1, h2⟩ := ob_ok h
   rw [← qNR] at h1
   refine ⟨_, qG2, t, many, h1, fun e vs' objs' hd => ?_⟩
   unfold qG2 at hd
   split at hd
   ·skip
    cases hd
    exact h2
   ·skip
    cases hd
    exact h2
   ·cases hd
  ·cases h
def qNQ : V → List Obj → Option (Int × Int × Int × Bool × Bool) := fun v objs => match v, objs with
 | .tup [W.agg [.one [.i .i64 y0, .i .i64 y1, .i .i64 y2, .b y3]], W.s (.b y4)], [] => some (y0, y1, y2, y3, y4)
 | _, _ => none
theorem qTp (x0 x1 : List Int) (x2 : Int) : fnE qDx Tryz.f18 ([.agg [.arr .i8 81 x0, .arr .i8 16 x1, .one [.i .i8 x2]]]) ([]) qNQ = qC9 x0 x1 x2 := by kernel_rfl
def qNO {R : Type} (o : Orc) (vs : List V) (objs : List Obj) (K : Bool → V → List Obj → Option R) : Option R := match vs, objs with
 | [.agg [.arr .i8 81 x0, .arr .i8 16 x1, .one [.i .i8 x2]]], [] => ob (qC9 x0 x1 x2) fun z => K false (.tup [W.agg [.one [.i .i64 (z.1), .i .i64 (z.2.1), .i .i64 (z.2.2.1), .b (z.2.2.2.1)]], W.s (.b (z.2.2.2.2))]) ([])
 | _, _ => o 18 vs objs K
def qNS (o : Orc) : Orc := hook 18 (qNO o) o
theorem qTs (o : Orc) (ho : OSound Tryz.prog o) : OSound Tryz.prog (qNS o) := hook_ok ho fun vs objs K r h => by
 unfold qNO at h
 split at h
 ·skip
  obtain ⟨t, h1, h2⟩ := ob_ok h
  refine anyOK_of mixed qNP (fn := Tryz.f18) (b := (Tryz.f18).body.getD .skip) (by kernel_rfl) (by kernel_rfl) (by kernel_rfl) ((qTp _ _ _).trans h1) (m := 0) rfl (AllP.of (l' := [loopOf Tryz.f18 3]) (by kernel_rfl) ⟨qTt, trivial⟩) fun v objs' hd => ?_
  unfold qNQ at hd
  split at hd
  ·skip
   cases hd
   exact h2
  ·cases hd
 ·exact ho _ _ _ _ _ h
def qJc : Ctx := mkC 36 ((qNS (qFU (qM0 (qG0 (qDY (qMM (qJh oNil)))))))) [] lpNil
theorem qJd : CtxOK Tryz.prog qJc := mkC_ok ((qTs _ (qKC _ (qTV _ (qNN _ (qFQ _ (qSu _ (qQj _ oNil_ok))))))))
def qFA : V → List Obj → Option (Bool) := fun v objs => match v, objs with
 | .s (.b y0), [] => some (y0)
 | _, _ => none
theorem qJa (x0 x1 : List Int) (x2 : Int) : fnE qJc Tryz.f4 ([.agg [.arr .i8 81 x0, .arr .i8 16 x1, .one [.i .i8 x2]]]) ([]) qFA = qCq x0 x1 x2 := by kernel_rfl
def qJb {R : Type} (o : Orc) (vs : List V) (objs : List Obj) (K : Bool → V → List Obj → Option R) : Option R := match vs, objs with
 | [.agg [.arr .i8 81 x0, .arr .i8 16 x1, .one [.i .i8 x2]]], [] => ob (qCq x0 x1 x2) fun y0 => K false (.s (.b y0)) ([])
 | _, _ => o 4 vs objs K
def qQg (o : Orc) : Orc := hook 4 (qJb o) o
theorem qQf {vs : List V} {objs : List Obj} (x0 x1 : List Int) (x2 : Int) {R : Type} {K : Bool → V → List Obj → Option R} {r : R} (hv : vs = [.agg [.arr .i8 81 x0, .arr .i8 16 x1, .one [.i .i8 x2]]]) (ho : objs = []) (h : ob (qCq x0 x1 x2) (fun y0 => K false (.s (.b y0)) ([])) = some r) :
  ∃ p v objs', K p v objs' = some r ∧ AnyOK Tryz.prog 4 vs objs p v objs' := by
 subst hv
 subst ho
 obtain ⟨t, h1, h2⟩ := ob_ok h
 refine anyOK_of mixed qJd (fn := Tryz.f4) (b := (Tryz.f4).body.getD .skip) (by kernel_rfl) (by kernel_rfl) (by kernel_rfl) ((qJa _ _ _).trans h1) (m := 0) rfl (AllP.of (l' := []) (by kernel_rfl) trivial) fun v objs' hd => ?_
 unfold qFA at hd
 split at hd
 ·skip
  cases hd
  exact h2
 ·cases hd
theorem qU6 (o : Orc) (ho : OSound Tryz.prog o) : OSound Tryz.prog (qQg o) := hook_ok ho fun vs objs K r h => by
 unfold qJb at h
 split at h
 ·skip
  obtain ⟨t, h1, h2⟩ := ob_ok h
  refine anyOK_of mixed qJd (fn := Tryz.f4) (b := (Tryz.f4).body.getD .skip) (by kernel_rfl) (by kernel_rfl) (by kernel_rfl) ((qJa _ _ _).trans h1) (m := 0) rfl (AllP.of (l' := []) (by kernel_rfl) trivial) fun v objs' hd => ?_
  unfold qFA at hd
  split at hd
  ·skip
   cases hd
   exact h2
  ·cases hd
 ·exact ho _ _ _ _ _ h
end
end Go.Kk.KkMS
