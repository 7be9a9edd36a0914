/- Printed by a tool of this project (KkGen): the program's functions come to the plain ones. -/
import Derived.Test.YtljnnegjhcdlkaaGreatDoorKkMS
namespace Go.Kk.KkMS
noncomputable section
open Go.Proofs Go.Kk.Pl
set_option maxRecDepth 100000
set_option maxHeartbeats 4000000
def qFe : Ex → List V → List Obj → Option (Int × Int × Int × Int) := fun e vs objs => match e, vs, objs with
 | .exit 0, [.s (.ptr 0 0 none 0), .s (.ptr 1 0 none 0)], [.cells 52 [.one [.i .u64 y0, .i .u64 y1]], .cells 52 [.one [.i .u64 y2, .i .u64 y3]]] => some (y0, y1, y2, y3)
 | _, _, _ => none
def qFh {R : Type} (vs : List V) (objs : List Obj) (K : Ex → List V → List Obj → Option R) : Option R := match vs, objs with
 | [.s (.i .i8 x0), .s (.i .i64 x1), .s (.ptr 0 0 none 0), .s (.ptr 1 0 none 0), .s (.ptr 2 0 none 0), .s (.sl 3 0 x2 true), .s (.i .i64 x3), .s (.i .i64 x4)], [.cells 52 [.one [.i .u64 x5, .i .u64 x6]], .cells 52 [.one [.i .u64 x7, .i .u64 x8]], .cells 52 [.one [.i .u64 x9, .i .u64 x10]], .sli 120 false (.rows [.i .i64, .i .i64] x11 x12)] => ob (qAo many x0 x1 x2 x3 x4 x5 x6 x7 x8 x9 x10 x11 x12) fun z => K (.exit 0) ([.s (.ptr 0 0 none 0), .s (.ptr 1 0 none 0)]) ([.cells 52 [.one [.i .u64 (z.1), .i .u64 (z.2.1)]], .cells 52 [.one [.i .u64 (z.2.2.1), .i .u64 (z.2.2.2)]]])
 | _, _ => none
def qRa : {R : Type} → Nat → List V → List Obj → (Ex → List V → List Obj → Option R) → Option R := fun q vs objs K => bif Nat.beq q 3 then qFh vs objs K else none
def qDc : Ctx := mkC 32 ((qBX (qFk (qHQ (qBO (qFd (qi (qOx oNil)))))))) [(3, [0, 1, 5, 6, 7, 15, 16, 17], [6, 7])] qRa
theorem qKp : CtxOK Tryz.prog qDc := mkC_ok ((qCe _ (qKw _ (qOm _ (qB4 _ (qKn _ (qz _ (qUz _ oNil_ok))))))))
def qFf (f : Nat) (x0 x1 : Int) (x2 : Nat) (x3 x4 : Int) (x5 x6 : Int) (x7 x8 : Int) (x9 x10 : Int) (x11 : Nat) (x12 : List (List Int)) : Option (Int × Int × Int × Int) := lrun qDc 0 [0, 1, 5, 6, 7, 15, 16, 17] [6, 7] (loopOf Tryz.f89 3) f ([.s (.i .i8 x0), .s (.i .i64 x1), .s (.ptr 0 0 none 0), .s (.ptr 1 0 none 0), .s (.ptr 2 0 none 0), .s (.sl 3 0 x2 true), .s (.i .i64 x3), .s (.i .i64 x4)]) ([.cells 52 [.one [.i .u64 x5, .i .u64 x6]], .cells 52 [.one [.i .u64 x7, .i .u64 x8]], .cells 52 [.one [.i .u64 x9, .i .u64 x10]], .sli 120 false (.rows [.i .i64, .i .i64] x11 x12)]) qFe
theorem qRZ (f : Nat) (x0 x1 : Int) (x2 : Nat) (x3 x4 : Int) (x5 x6 : Int) (x7 x8 : Int) (x9 x10 : Int) (x11 : Nat) (x12 : List (List Int)) : qFf (f + 1) x0 x1 x2 x3 x4 x5 x6 x7 x8 x9 x10 x11 x12 = qB7 (qFf f) x0 x1 x2 x3 x4 x5 x6 x7 x8 x9 x10 x11 x12 := by kernel_rfl
theorem qKr : ∀ f, qFf f = qAo f
 | 0 => rfl
 | f + 1 => by funext x0 x1 x2 x3 x4 x5 x6 x7 x8 x9 x10 x11 x12; rw [qRZ, qKr f]; rfl
theorem qRb : LoopSound Tryz.prog qDc 0 (loopOf Tryz.f89 3) :=
 loopSound_by mixed qKp (AllP.of (l' := []) (by kernel_rfl) trivial) (q := 3) (kin := [0, 1, 5, 6, 7, 15, 16, 17]) (kout := [6, 7]) (by kernel_rfl) (by kernel_rfl) fun vs objs K r h => by
  replace h : qFh vs objs K = some r := h
  unfold qFh at h
  split at h
  ·skip
   obtain ⟨t, h1, h2⟩ := ob_ok h
   rw [← qKr] at h1
   refine ⟨_, qFe, t, many, h1, fun e vs' objs' hd => ?_⟩
   unfold qFe at hd
   split at hd
   ·skip
    cases hd
    exact h2
   ·cases hd
  ·cases h
def qKq : V → List Obj → Option (Int × Int) := fun v objs => match v, objs with
 | .agg [.one [.i .u64 y0, .i .u64 y1]], [] => some (y0, y1)
 | _, _ => none
theorem qRY (x0 x1 : Int) (x2 x3 : Int) : fnE qDc Tryz.f89 ([.s (.i .i8 x0), .s (.i .i64 x1), .agg [.one [.i .u64 x2, .i .u64 x3]]]) ([]) qKq = qAn x0 x1 x2 x3 := by kernel_rfl
def qKo {R : Type} (o : Orc) (vs : List V) (objs : List Obj) (K : Bool → V → List Obj → Option R) : Option R := match vs, objs with
 | [.s (.i .i8 x0), .s (.i .i64 x1), .agg [.one [.i .u64 x2, .i .u64 x3]]], [] => ob (qAn x0 x1 x2 x3) fun z => K false (.agg [.one [.i .u64 (z.1), .i .u64 (z.2)]]) ([])
 | _, _ => o 89 vs objs K
def qDd (o : Orc) : Orc := hook 89 (qKo o) o
theorem qFg (o : Orc) (ho : OSound Tryz.prog o) : OSound Tryz.prog (qDd o) := hook_ok ho fun vs objs K r h => by
 unfold qKo at h
 split at h
 ·skip
  obtain ⟨t, h1, h2⟩ := ob_ok h
  refine anyOK_of mixed qKp (fn := Tryz.f89) (b := (Tryz.f89).body.getD .skip) (by kernel_rfl) (by kernel_rfl) (by kernel_rfl) ((qRY _ _ _ _).trans h1) (m := 0) rfl (AllP.of (l' := [loopOf Tryz.f89 3]) (by kernel_rfl) ⟨qRb, trivial⟩) fun v objs' hd => ?_
  unfold qKq at hd
  split at hd
  ·skip
   cases hd
   exact h2
  ·cases hd
 ·exact ho _ _ _ _ _ h
def qEK : Ex → List V → List Obj → Option (Int × Int × Nat × Int × Int × List Int × List Int × Int × List (List Int) × List (List Int) × List (List Int × List Int) × Nat × List Int) := fun e vs objs => match e, vs, objs with
 | .exit 2, [.s (.ptr 0 0 none 0), .s (.i .i64 y0), .s (.mp 1), .s (.i .i64 y1), .s (.sl 2 0 y2 true), .s (.i .i64 y3), .s (.i .i64 y4)], [.rcells 56 [.arr .i8 81 y5, .arr .i8 16 y6, .one [.i .i8 y7], .rows [.i .u64, .i .u64] 32 y8, .rows [.i .u64, .i .u64] 2 y9], .map false true [.i .i64] [.i .u64, .i .u64] y10, .sli 3 false (.arr .i64 y11 y12)] => some (y0, y1, y2, y3, y4, y5, y6, y7, y8, y9, y10, y11, y12)
 | _, _, _ => none
def qEI : Ex → List V → List Obj → Option (List Int × List Int × Int × List (List Int) × List (List Int) × List (List Int × List Int)) := fun e vs objs => match e, vs, objs with
 | .exit 0, [.s (.mp 1)], [.rcells 56 [.arr .i8 81 y0, .arr .i8 16 y1, .one [.i .i8 y2], .rows [.i .u64, .i .u64] 32 y3, .rows [.i .u64, .i .u64] 2 y4], .map false true [.i .i64] [.i .u64, .i .u64] y5] => some (y0, y1, y2, y3, y4, y5)
 | _, _, _ => none
def qEN {R : Type} (vs : List V) (objs : List Obj) (K : Ex → List V → List Obj → Option R) : Option R := match vs, objs with
 | [.s (.ptr 0 0 none 0), .s (.i .i64 x0), .s (.mp 1), .s (.i .i64 x1), .s (.sl 2 0 x2 true), .s (.i .i64 x3), .s (.i .i64 x4), .s (.sl 3 0 x5 true), .s (.i .i64 x6), .s (.i .i64 x7)], [.rcells 56 [.arr .i8 81 x8, .arr .i8 16 x9, .one [.i .i8 x10], .rows [.i .u64, .i .u64] 32 x11, .rows [.i .u64, .i .u64] 2 x12], .map false true [.i .i64] [.i .u64, .i .u64] x13, .sli 3 false (.arr .i64 x14 x15), .sli 3 false (.arr .i64 x16 x17)] => ob (qAb many x0 x1 x2 x3 x4 x5 x6 x7 x8 x9 x10 x11 x12 x13 x14 x15 x16 x17) fun z => K (.exit 2) ([.s (.ptr 0 0 none 0), .s (.i .i64 (z.1)), .s (.mp 1), .s (.i .i64 (z.2.1)), .s (.sl 2 0 (z.2.2.1) true), .s (.i .i64 (z.2.2.2.1)), .s (.i .i64 (z.2.2.2.2.1))]) ([.rcells 56 [.arr .i8 81 (z.2.2.2.2.2.1), .arr .i8 16 (z.2.2.2.2.2.2.1), .one [.i .i8 (z.2.2.2.2.2.2.2.1)], .rows [.i .u64, .i .u64] 32 (z.2.2.2.2.2.2.2.2.1), .rows [.i .u64, .i .u64] 2 (z.2.2.2.2.2.2.2.2.2.1)], .map false true [.i .i64] [.i .u64, .i .u64] (z.2.2.2.2.2.2.2.2.2.2.1), .sli 3 false (.arr .i64 (z.2.2.2.2.2.2.2.2.2.2.2.1) (z.2.2.2.2.2.2.2.2.2.2.2.2))])
 | _, _ => none
def qEM {R : Type} (vs : List V) (objs : List Obj) (K : Ex → List V → List Obj → Option R) : Option R := match vs, objs with
 | [.s (.ptr 0 0 none 0), .s (.i .i64 x0), .s (.mp 1), .s (.i .i64 x1), .s (.sl 2 0 x2 true), .s (.i .i64 x3), .s (.i .i64 x4)], [.rcells 56 [.arr .i8 81 x5, .arr .i8 16 x6, .one [.i .i8 x7], .rows [.i .u64, .i .u64] 32 x8, .rows [.i .u64, .i .u64] 2 x9], .map false true [.i .i64] [.i .u64, .i .u64] x10, .sli 3 false (.arr .i64 x11 x12)] => ob (qAa many x0 x1 x2 x3 x4 x5 x6 x7 x8 x9 x10 x11 x12) fun z => K (.exit 0) ([.s (.mp 1)]) ([.rcells 56 [.arr .i8 81 (z.1), .arr .i8 16 (z.2.1), .one [.i .i8 (z.2.2.1)], .rows [.i .u64, .i .u64] 32 (z.2.2.2.1), .rows [.i .u64, .i .u64] 2 (z.2.2.2.2.1)], .map false true [.i .i64] [.i .u64, .i .u64] (z.2.2.2.2.2)])
 | _, _ => none
def qPF : {R : Type} → Nat → List V → List Obj → (Ex → List V → List Obj → Option R) → Option R := fun q vs objs K => bif Nat.beq q 9 then qEN vs objs K else bif Nat.beq q 6 then qEM vs objs K else none
def qBf : Ctx := mkC 89 ((qAY (qBW (qDd (qDH (qBG (qDz (qCZ (qEY (qG5 (qBU (qBj (qFb (qDG (qBi (qDO oNil)))))))))))))))) [(6, [0, 1, 5, 6, 21, 22, 23], [5]), (9, [0, 1, 5, 6, 21, 22, 23, 32, 33, 34], [0, 1, 5, 6, 21, 22, 23])] qPF
theorem qEH : CtxOK Tryz.prog qBf := mkC_ok ((qA8 _ (qCb _ (qFg _ (qD7 _ (qBh _ (qG7 _ (qDD _ (qIJ _ (qNk _ (qCX _ (qCl _ (qKj _ (qD6 _ (qCk _ (qET _ oNil_ok))))))))))))))))
def qEL (f : Nat) (x0 x1 : Int) (x2 : Nat) (x3 x4 : Int) (x5 : Nat) (x6 x7 : Int) (x8 x9 : List Int) (x10 : Int) (x11 x12 : List (List Int)) (x13 : List (List Int × List Int)) (x14 : Nat) (x15 : List Int) (x16 : Nat) (x17 : List Int) : Option (Int × Int × Nat × Int × Int × List Int × List Int × Int × List (List Int) × List (List Int) × List (List Int × List Int) × Nat × List Int) := lrun qBf 1 [0, 1, 5, 6, 21, 22, 23, 32, 33, 34] [0, 1, 5, 6, 21, 22, 23] (loopOf Tryz.f81 9) f ([.s (.ptr 0 0 none 0), .s (.i .i64 x0), .s (.mp 1), .s (.i .i64 x1), .s (.sl 2 0 x2 true), .s (.i .i64 x3), .s (.i .i64 x4), .s (.sl 3 0 x5 true), .s (.i .i64 x6), .s (.i .i64 x7)]) ([.rcells 56 [.arr .i8 81 x8, .arr .i8 16 x9, .one [.i .i8 x10], .rows [.i .u64, .i .u64] 32 x11, .rows [.i .u64, .i .u64] 2 x12], .map false true [.i .i64] [.i .u64, .i .u64] x13, .sli 3 false (.arr .i64 x14 x15), .sli 3 false (.arr .i64 x16 x17)]) qEK
theorem qPE (f : Nat) (x0 x1 : Int) (x2 : Nat) (x3 x4 : Int) (x5 : Nat) (x6 x7 : Int) (x8 x9 : List Int) (x10 : Int) (x11 x12 : List (List Int)) (x13 : List (List Int × List Int)) (x14 : Nat) (x15 : List Int) (x16 : Nat) (x17 : List Int) : qEL (f + 1) x0 x1 x2 x3 x4 x5 x6 x7 x8 x9 x10 x11 x12 x13 x14 x15 x16 x17 = qBE (qEL f) x0 x1 x2 x3 x4 x5 x6 x7 x8 x9 x10 x11 x12 x13 x14 x15 x16 x17 := by kernel_rfl
theorem qHo : ∀ f, qEL f = qAb f
 | 0 => rfl
 | f + 1 => by funext x0 x1 x2 x3 x4 x5 x6 x7 x8 x9 x10 x11 x12 x13 x14 x15 x16 x17; rw [qPE, qHo f]; rfl
def qEJ (f : Nat) (x0 x1 : Int) (x2 : Nat) (x3 x4 : Int) (x5 x6 : List Int) (x7 : Int) (x8 x9 : List (List Int)) (x10 : List (List Int × List Int)) (x11 : Nat) (x12 : List Int) : Option (List Int × List Int × Int × List (List Int) × List (List Int) × List (List Int × List Int)) := lrun qBf 1 [0, 1, 5, 6, 21, 22, 23] [5] (loopOf Tryz.f81 6) f ([.s (.ptr 0 0 none 0), .s (.i .i64 x0), .s (.mp 1), .s (.i .i64 x1), .s (.sl 2 0 x2 true), .s (.i .i64 x3), .s (.i .i64 x4)]) ([.rcells 56 [.arr .i8 81 x5, .arr .i8 16 x6, .one [.i .i8 x7], .rows [.i .u64, .i .u64] 32 x8, .rows [.i .u64, .i .u64] 2 x9], .map false true [.i .i64] [.i .u64, .i .u64] x10, .sli 3 false (.arr .i64 x11 x12)]) qEI
theorem qPD (f : Nat) (x0 x1 : Int) (x2 : Nat) (x3 x4 : Int) (x5 x6 : List Int) (x7 : Int) (x8 x9 : List (List Int)) (x10 : List (List Int × List Int)) (x11 : Nat) (x12 : List Int) : qEJ (f + 1) x0 x1 x2 x3 x4 x5 x6 x7 x8 x9 x10 x11 x12 = qBg (qEJ f) x0 x1 x2 x3 x4 x5 x6 x7 x8 x9 x10 x11 x12 := by kernel_rfl
theorem qHn : ∀ f, qEJ f = qAa f
 | 0 => rfl
 | f + 1 => by funext x0 x1 x2 x3 x4 x5 x6 x7 x8 x9 x10 x11 x12; rw [qPD, qHn f]; rfl
theorem qPI : LoopSound Tryz.prog qBf 1 (loopOf Tryz.f81 9) :=
 loopSound_by mixed qEH (AllP.of (l' := []) (by kernel_rfl) trivial) (q := 9) (kin := [0, 1, 5, 6, 21, 22, 23, 32, 33, 34]) (kout := [0, 1, 5, 6, 21, 22, 23]) (by kernel_rfl) (by kernel_rfl) fun vs objs K r h => by
  replace h : qEN vs objs K = some r := h
  unfold qEN at h
  split at h
  ·skip
   obtain ⟨t, h1, h2⟩ := ob_ok h
   rw [← qHo] at h1
   refine ⟨_, qEK, t, many, h1, fun e vs' objs' hd => ?_⟩
   unfold qEK at hd
   split at hd
   ·skip
    cases hd
    exact h2
   ·cases hd
  ·cases h
theorem qPH : LoopSound Tryz.prog qBf 1 (loopOf Tryz.f81 6) :=
 loopSound_by mixed qEH (AllP.of (l' := [loopOf Tryz.f81 9]) (by kernel_rfl) ⟨qPI, trivial⟩) (q := 6) (kin := [0, 1, 5, 6, 21, 22, 23]) (kout := [5]) (by kernel_rfl) (by kernel_rfl) fun vs objs K r h => by
  replace h : qEM vs objs K = some r := h
  unfold qEM at h
  split at h
  ·skip
   obtain ⟨t, h1, h2⟩ := ob_ok h
   rw [← qHn] at h1
   refine ⟨_, qEI, t, many, h1, fun e vs' objs' hd => ?_⟩
   unfold qEI at hd
   split at hd
   ·skip
    cases hd
    exact h2
   ·cases hd
  ·cases h
def qHm : V → List Obj → Option (List (List Int × List Int)) := fun v objs => match v, objs with
 | .s (.mp 1), [.map false true [.i .i64] [.i .u64, .i .u64] y0] => some (y0)
 | _, _ => none
theorem qPC (x0 : Int) (x1 x2 : List Int) (x3 : Int) (x4 x5 : List (List Int)) : fnE qBf Tryz.f81 ([.s (.ptr 0 0 none 0), .s (.i .i64 x0)]) ([.rcells 56 [.arr .i8 81 x1, .arr .i8 16 x2, .one [.i .i8 x3], .rows [.i .u64, .i .u64] 32 x4, .rows [.i .u64, .i .u64] 2 x5]]) (pureD 1 qHm) = qBe x0 x1 x2 x3 x4 x5 := by kernel_rfl
def qHl {R : Type} (o : Orc) (vs : List V) (objs : List Obj) (K : Bool → V → List Obj → Option R) : Option R := match vs, List.map Obj.toRO objs with
 | [.s (.ptr 0 0 none 0), .s (.i .i64 x0)], [.rcells 56 [.arr .i8 81 x1, .arr .i8 16 x2, .one [.i .i8 x3], .rows [.i .u64, .i .u64] 32 x4, .rows [.i .u64, .i .u64] 2 x5]] => ob (qBe x0 x1 x2 x3 x4 x5) fun y0 => K true (.s (.mp 1)) ([.map false true [.i .i64] [.i .u64, .i .u64] y0])
 | _, _ => o 81 vs objs K
def qHp (o : Orc) : Orc := hook 81 (qHl o) o
theorem qPG (o : Orc) (ho : OSound Tryz.prog o) : OSound Tryz.prog (qHp o) := hook_ok ho fun vs objs K r h => by
 unfold qHl at h
 split at h
 ·skip
  have hq : List.map Obj.toRO objs = _ := (by rename_i hq; first | exact hq | assumption)
  obtain ⟨t, h1, h2⟩ := ob_ok h
  refine purOK_by mixed qEH (m := 1) (fn := Tryz.f81) (b := (Tryz.f81).body.getD .skip) (by kernel_rfl) (by kernel_rfl) (by kernel_rfl) hq (by kernel_rfl) (by kernel_rfl) (AllP.of (l' := [loopOf Tryz.f81 6]) (by kernel_rfl) ⟨qPH, trivial⟩) ((qPC _ _ _ _ _ _).trans h1) fun v objs' hd => ?_
  unfold qHm at hd
  split at hd
  ·skip
   cases hd
   exact h2
  ·cases hd
 ·exact ho _ _ _ _ _ h
def qED : Ex → List V → List Obj → Option (List Int × List Int × Int × List (List Int) × List (List Int) × Int × Int × Int × Int) := fun e vs objs => match e, vs, objs with
 | .exit 0, [.s (.ptr 1 0 none 0), .s (.ptr 2 0 none 0)], [.rcells 56 [.arr .i8 81 y0, .arr .i8 16 y1, .one [.i .i8 y2], .rows [.i .u64, .i .u64] 32 y3, .rows [.i .u64, .i .u64] 2 y4], .cells 52 [.one [.i .u64 y5, .i .u64 y6]], .cells 52 [.one [.i .u64 y7, .i .u64 y8]]] => some (y0, y1, y2, y3, y4, y5, y6, y7, y8)
 | _, _, _ => none
def qEG {R : Type} (vs : List V) (objs : List Obj) (K : Ex → List V → List Obj → Option R) : Option R := match vs, objs with
 | [.s (.ptr 0 0 none 0), .s (.i .i64 x0), .s (.i .i64 x1), .s (.ptr 1 0 none 0), .s (.ptr 2 0 none 0), .s (.ptr 3 0 none 0), .s (.i .i64 x2)], [.rcells 56 [.arr .i8 81 x3, .arr .i8 16 x4, .one [.i .i8 x5], .rows [.i .u64, .i .u64] 32 x6, .rows [.i .u64, .i .u64] 2 x7], .cells 52 [.one [.i .u64 x8, .i .u64 x9]], .cells 52 [.one [.i .u64 x10, .i .u64 x11]], .cells 52 [.one [.i .u64 x12, .i .u64 x13]]] => ob (qAL many x0 x1 x2 x3 x4 x5 x6 x7 x8 x9 x10 x11 x12 x13) fun z => K (.exit 0) ([.s (.ptr 1 0 none 0), .s (.ptr 2 0 none 0)]) ([.rcells 56 [.arr .i8 81 (z.1), .arr .i8 16 (z.2.1), .one [.i .i8 (z.2.2.1)], .rows [.i .u64, .i .u64] 32 (z.2.2.2.1), .rows [.i .u64, .i .u64] 2 (z.2.2.2.2.1)], .cells 52 [.one [.i .u64 (z.2.2.2.2.2.1), .i .u64 (z.2.2.2.2.2.2.1)]], .cells 52 [.one [.i .u64 (z.2.2.2.2.2.2.2.1), .i .u64 (z.2.2.2.2.2.2.2.2)]]])
 | _, _ => none
def qPA : {R : Type} → Nat → List V → List Obj → (Ex → List V → List Obj → Option R) → Option R := fun q vs objs K => bif Nat.beq q 5 then qEG vs objs K else none
def qDL : Ctx := mkC 49 ((qBX (qBU (qBi (qDd (qBN oNil)))))) [(5, [0, 1, 2, 7, 8, 9, 10], [8, 9])] qPA
theorem qHh : CtxOK Tryz.prog qDL := mkC_ok ((qCe _ (qCX _ (qCk _ (qFg _ (qB3 _ oNil_ok))))))
def qEE (f : Nat) (x0 x1 x2 : Int) (x3 x4 : List Int) (x5 : Int) (x6 x7 : List (List Int)) (x8 x9 : Int) (x10 x11 : Int) (x12 x13 : Int) : Option (List Int × List Int × Int × List (List Int) × List (List Int) × Int × Int × Int × Int) := lrun qDL 1 [0, 1, 2, 7, 8, 9, 10] [8, 9] (loopOf Tryz.f94 5) f ([.s (.ptr 0 0 none 0), .s (.i .i64 x0), .s (.i .i64 x1), .s (.ptr 1 0 none 0), .s (.ptr 2 0 none 0), .s (.ptr 3 0 none 0), .s (.i .i64 x2)]) ([.rcells 56 [.arr .i8 81 x3, .arr .i8 16 x4, .one [.i .i8 x5], .rows [.i .u64, .i .u64] 32 x6, .rows [.i .u64, .i .u64] 2 x7], .cells 52 [.one [.i .u64 x8, .i .u64 x9]], .cells 52 [.one [.i .u64 x10, .i .u64 x11]], .cells 52 [.one [.i .u64 x12, .i .u64 x13]]]) qED
theorem qO9 (f : Nat) (x0 x1 x2 : Int) (x3 x4 : List Int) (x5 : Int) (x6 x7 : List (List Int)) (x8 x9 : Int) (x10 x11 : Int) (x12 x13 : Int) : qEE (f + 1) x0 x1 x2 x3 x4 x5 x6 x7 x8 x9 x10 x11 x12 x13 = qBd (qEE f) x0 x1 x2 x3 x4 x5 x6 x7 x8 x9 x10 x11 x12 x13 := by kernel_rfl
theorem qHj : ∀ f, qEE f = qAL f
 | 0 => rfl
 | f + 1 => by funext x0 x1 x2 x3 x4 x5 x6 x7 x8 x9 x10 x11 x12 x13; rw [qO9, qHj f]; rfl
theorem qPB : LoopSound Tryz.prog qDL 1 (loopOf Tryz.f94 5) :=
 loopSound_by mixed qHh (AllP.of (l' := []) (by kernel_rfl) trivial) (q := 5) (kin := [0, 1, 2, 7, 8, 9, 10]) (kout := [8, 9]) (by kernel_rfl) (by kernel_rfl) fun vs objs K r h => by
  replace h : qEG vs objs K = some r := h
  unfold qEG at h
  split at h
  ·skip
   obtain ⟨t, h1, h2⟩ := ob_ok h
   rw [← qHj] at h1
   refine ⟨_, qED, t, many, h1, fun e vs' objs' hd => ?_⟩
   unfold qED at hd
   split at hd
   ·skip
    cases hd
    exact h2
   ·cases hd
  ·cases h
def qHi : V → List Obj → Option (Int × Int) := fun v objs => match v, objs with
 | .agg [.one [.i .u64 y0, .i .u64 y1]], [] => some (y0, y1)
 | _, _ => none
theorem qO8 (x0 x1 : Int) (x2 x3 : Int) (x4 x5 : List Int) (x6 : Int) (x7 x8 : List (List Int)) : fnE qDL Tryz.f94 ([.s (.ptr 0 0 none 0), .s (.i .i64 x0), .s (.i .i64 x1), .agg [.one [.i .u64 x2, .i .u64 x3]]]) ([.rcells 56 [.arr .i8 81 x4, .arr .i8 16 x5, .one [.i .i8 x6], .rows [.i .u64, .i .u64] 32 x7, .rows [.i .u64, .i .u64] 2 x8]]) (pureD 1 qHi) = qBc x0 x1 x2 x3 x4 x5 x6 x7 x8 := by kernel_rfl
def qHg {R : Type} (o : Orc) (vs : List V) (objs : List Obj) (K : Bool → V → List Obj → Option R) : Option R := match vs, List.map Obj.toRO objs with
 | [.s (.ptr 0 0 none 0), .s (.i .i64 x0), .s (.i .i64 x1), .agg [.one [.i .u64 x2, .i .u64 x3]]], [.rcells 56 [.arr .i8 81 x4, .arr .i8 16 x5, .one [.i .i8 x6], .rows [.i .u64, .i .u64] 32 x7, .rows [.i .u64, .i .u64] 2 x8]] => ob (qBc x0 x1 x2 x3 x4 x5 x6 x7 x8) fun z => K true (.agg [.one [.i .u64 (z.1), .i .u64 (z.2)]]) ([])
 | _, _ => o 94 vs objs K
def qEF (o : Orc) : Orc := hook 94 (qHg o) o
theorem qHk (o : Orc) (ho : OSound Tryz.prog o) : OSound Tryz.prog (qEF o) := hook_ok ho fun vs objs K r h => by
 unfold qHg at h
 split at h
 ·skip
  have hq : List.map Obj.toRO objs = _ := (by rename_i hq; first | exact hq | assumption)
  obtain ⟨t, h1, h2⟩ := ob_ok h
  refine purOK_by mixed qHh (m := 1) (fn := Tryz.f94) (b := (Tryz.f94).body.getD .skip) (by kernel_rfl) (by kernel_rfl) (by kernel_rfl) hq (by kernel_rfl) (by kernel_rfl) (AllP.of (l' := [loopOf Tryz.f94 5]) (by kernel_rfl) ⟨qPB, trivial⟩) ((qO8 _ _ _ _ _ _ _ _ _).trans h1) fun v objs' hd => ?_
  unfold qHi at hd
  split at hd
  ·skip
   cases hd
   exact h2
  ·cases hd
 ·exact ho _ _ _ _ _ h
def qHa : Ctx := mkC 14 ((qEF (qBj (qDO oNil)))) [] lpNil
theorem qO5 : CtxOK Tryz.prog qHa := mkC_ok ((qHk _ (qCl _ (qET _ oNil_ok))))
def qHb : V → List Obj → Option (Int × Int) := fun v objs => match v, objs with
 | .agg [.one [.i .u64 y0, .i .u64 y1]], [] => some (y0, y1)
 | _, _ => none
theorem qO4 (x0 : Int) (x1 x2 : List Int) (x3 : Int) (x4 x5 : List (List Int)) : fnE qHa Tryz.f61 ([.s (.ptr 0 0 none 0), .s (.i .i64 x0)]) ([.rcells 56 [.arr .i8 81 x1, .arr .i8 16 x2, .one [.i .i8 x3], .rows [.i .u64, .i .u64] 32 x4, .rows [.i .u64, .i .u64] 2 x5]]) (pureD 1 qHb) = qBC x0 x1 x2 x3 x4 x5 := by kernel_rfl
def qHZ {R : Type} (o : Orc) (vs : List V) (objs : List Obj) (K : Bool → V → List Obj → Option R) : Option R := match vs, List.map Obj.toRO objs with
 | [.s (.ptr 0 0 none 0), .s (.i .i64 x0)], [.rcells 56 [.arr .i8 81 x1, .arr .i8 16 x2, .one [.i .i8 x3], .rows [.i .u64, .i .u64] 32 x4, .rows [.i .u64, .i .u64] 2 x5]] => ob (qBC x0 x1 x2 x3 x4 x5) fun z => K true (.agg [.one [.i .u64 (z.1), .i .u64 (z.2)]]) ([])
 | _, _ => o 61 vs objs K
def qDK (o : Orc) : Orc := hook 61 (qHZ o) o
theorem qEB (o : Orc) (ho : OSound Tryz.prog o) : OSound Tryz.prog (qDK o) := hook_ok ho fun vs objs K r h => by
 unfold qHZ at h
 split at h
 ·skip
  have hq : List.map Obj.toRO objs = _ := (by rename_i hq; first | exact hq | assumption)
  obtain ⟨t, h1, h2⟩ := ob_ok h
  refine purOK_by mixed qO5 (m := 1) (fn := Tryz.f61) (b := (Tryz.f61).body.getD .skip) (by kernel_rfl) (by kernel_rfl) (by kernel_rfl) hq (by kernel_rfl) (by kernel_rfl) (AllP.of (l' := []) (by kernel_rfl) trivial) ((qO4 _ _ _ _ _ _).trans h1) fun v objs' hd => ?_
  unfold qHb at hd
  split at hd
  ·skip
   cases hd
   exact h2
  ·cases hd
 ·exact ho _ _ _ _ _ h
def qJt : Ctx := mkC 44 ((qBX (qFb (qDz (qG5 (qDK (qHp (qDC (qDO oNil))))))))) [] lpNil
theorem qQw : CtxOK Tryz.prog qJt := mkC_ok ((qCe _ (qKj _ (qG7 _ (qNk _ (qEB _ (qPG _ (qDy _ (qET _ oNil_ok)))))))))
def qJu : V → List Obj → Option (Int × Int × Int × Int × Bool × List (List Int × List Int)) := fun v objs => match v, objs with
 | .agg [.one [.ptr 0 0 none 0, .i .i64 y0, .i .i64 y1, .i .u64 y2, .i .u64 y3, .mp 1, .b y4]], [.map false true [.i .i64] [.i .u64, .i .u64] y5] => some (y0, y1, y2, y3, y4, y5)
 | _, _ => none
theorem qQv (x0 x1 : List Int) (x2 : Int) (x3 x4 : List (List Int)) : fnE qJt Tryz.f42 ([.s (.ptr 0 0 none 0)]) ([.rcells 56 [.arr .i8 81 x0, .arr .i8 16 x1, .one [.i .i8 x2], .rows [.i .u64, .i .u64] 32 x3, .rows [.i .u64, .i .u64] 2 x4]]) (pureD 1 qJu) = qBx x0 x1 x2 x3 x4 := by kernel_rfl
def qJs {R : Type} (o : Orc) (vs : List V) (objs : List Obj) (K : Bool → V → List Obj → Option R) : Option R := match vs, List.map Obj.toRO objs with
 | [.s (.ptr 0 0 none 0)], [.rcells 56 [.arr .i8 81 x0, .arr .i8 16 x1, .one [.i .i8 x2], .rows [.i .u64, .i .u64] 32 x3, .rows [.i .u64, .i .u64] 2 x4]] => ob (qBx x0 x1 x2 x3 x4) fun z => K true (.agg [.one [.ptr 0 0 none 0, .i .i64 (z.1), .i .i64 (z.2.1), .i .u64 (z.2.2.1), .i .u64 (z.2.2.2.1), .mp 1, .b (z.2.2.2.2.1)]]) ([.map false true [.i .i64] [.i .u64, .i .u64] (z.2.2.2.2.2)])
 | _, _ => o 42 vs objs K
def qFM (o : Orc) : Orc := hook 42 (qJs o) o
theorem qJv (o : Orc) (ho : OSound Tryz.prog o) : OSound Tryz.prog (qFM o) := hook_ok ho fun vs objs K r h => by
 unfold qJs at h
 split at h
 ·skip
  have hq : List.map Obj.toRO objs = _ := (by rename_i hq; first | exact hq | assumption)
  obtain ⟨t, h1, h2⟩ := ob_ok h
  refine purOK_by mixed qQw (m := 1) (fn := Tryz.f42) (b := (Tryz.f42).body.getD .skip) (by kernel_rfl) (by kernel_rfl) (by kernel_rfl) hq (by kernel_rfl) (by kernel_rfl) (AllP.of (l' := []) (by kernel_rfl) trivial) ((qQv _ _ _ _ _).trans h1) fun v objs' hd => ?_
  unfold qJu at hd
  split at hd
  ·skip
   cases hd
   exact h2
  ·cases hd
 ·exact ho _ _ _ _ _ h
def qKd : Ctx := mkC 13 (oNil) [] lpNil
theorem qRR : CtxOK Tryz.prog qKd := mkC_ok (oNil_ok)
def qKe : V → List Obj → Option (Int) := fun v objs => match v, objs with
 | .s (.i .i64 y0), [] => some (y0)
 | _, _ => none
theorem qRQ (x0 : Int) : fnE qKd Tryz.f72 ([.s (.i .i64 x0)]) ([]) qKe = qf x0 := by kernel_rfl
def qKc {R : Type} (o : Orc) (vs : List V) (objs : List Obj) (K : Bool → V → List Obj → Option R) : Option R := match vs, objs with
 | [.s (.i .i64 x0)], [] => ob (qf x0) fun y0 => K false (.s (.i .i64 y0)) ([])
 | _, _ => o 72 vs objs K
def qDa (o : Orc) : Orc := hook 72 (qKc o) o
theorem qFY (o : Orc) (ho : OSound Tryz.prog o) : OSound Tryz.prog (qDa o) := hook_ok ho fun vs objs K r h => by
 unfold qKc at h
 split at h
 ·skip
  obtain ⟨t, h1, h2⟩ := ob_ok h
  refine anyOK_of mixed qRR (fn := Tryz.f72) (b := (Tryz.f72).body.getD .skip) (by kernel_rfl) (by kernel_rfl) (by kernel_rfl) ((qRQ _).trans h1) (m := 0) rfl (AllP.of (l' := []) (by kernel_rfl) trivial) fun v objs' hd => ?_
  unfold qKe at hd
  split at hd
  ·skip
   cases hd
   exact h2
  ·cases hd
 ·exact ho _ _ _ _ _ h
def qOq : Ctx := mkC 23 ((qHF oNil)) [] lpNil
theorem qUv : CtxOK Tryz.prog qOq := mkC_ok ((qOM _ oNil_ok))
def qOr : V → List Obj → Option (Int) := fun v objs => match v, objs with
 | .s (.i .i64 y0), [] => some (y0)
 | _, _ => none
theorem qUu (x0 x1 : Int) : fnE qOq Tryz.f128 ([.s (.i .i64 x0), .s (.i .i64 x1)]) ([]) qOr = qBA x0 x1 := by kernel_rfl
def qOp {R : Type} (o : Orc) (vs : List V) (objs : List Obj) (K : Bool → V → List Obj → Option R) : Option R := match vs, objs with
 | [.s (.i .i64 x0), .s (.i .i64 x1)], [] => ob (qBA x0 x1) fun y0 => K false (.s (.i .i64 y0)) ([])
 | _, _ => o 128 vs objs K
def qHS (o : Orc) : Orc := hook 128 (qOp o) o
theorem qOs (o : Orc) (ho : OSound Tryz.prog o) : OSound Tryz.prog (qHS o) := hook_ok ho fun vs objs K r h => by
 unfold qOp at h
 split at h
 ·skip
  obtain ⟨t, h1, h2⟩ := ob_ok h
  refine anyOK_of mixed qUv (fn := Tryz.f128) (b := (Tryz.f128).body.getD .skip) (by kernel_rfl) (by kernel_rfl) (by kernel_rfl) ((qUu _ _).trans h1) (m := 0) rfl (AllP.of (l' := []) (by kernel_rfl) trivial) fun v objs' hd => ?_
  unfold qOr at hd
  split at hd
  ·skip
   cases hd
   exact h2
  ·cases hd
 ·exact ho _ _ _ _ _ h
def qHW : Ex → List V → List Obj → Option (Int × Int × Int × Int) := fun e vs objs => match e, vs, objs with
 | .exit 0, [.s (.ptr 0 0 none 0), .s (.ptr 1 0 none 0)], [.cells 52 [.one [.i .u64 y0, .i .u64 y1]], .cells 52 [.one [.i .u64 y2, .i .u64 y3]]] => some (y0, y1, y2, y3)
 | _, _, _ => none
def qHY {R : Type} (vs : List V) (objs : List Obj) (K : Ex → List V → List Obj → Option R) : Option R := match vs, objs with
 | [.s (.i .i64 x0), .s (.ptr 0 0 none 0), .s (.ptr 1 0 none 0), .s (.i .i64 x1)], [.cells 52 [.one [.i .u64 x2, .i .u64 x3]], .cells 52 [.one [.i .u64 x4, .i .u64 x5]]] => ob (qEA many x0 x1 x2 x3 x4 x5) fun z => K (.exit 0) ([.s (.ptr 0 0 none 0), .s (.ptr 1 0 none 0)]) ([.cells 52 [.one [.i .u64 (z.1), .i .u64 (z.2.1)]], .cells 52 [.one [.i .u64 (z.2.2.1), .i .u64 (z.2.2.2)]]])
 | _, _ => none
def qU3 : {R : Type} → Nat → List V → List Obj → (Ex → List V → List Obj → Option R) → Option R := fun q vs objs K => bif Nat.beq q 3 then qHY vs objs K else none
def qD9 : Ctx := mkC 23 ((qAY (qHS oNil))) [(3, [0, 2, 3, 6], [2, 3])] qU3
theorem qOz : CtxOK Tryz.prog qD9 := mkC_ok ((qA8 _ (qOs _ oNil_ok)))
def qHX (f : Nat) (x0 x1 : Int) (x2 x3 : Int) (x4 x5 : Int) : Option (Int × Int × Int × Int) := lrun qD9 0 [0, 2, 3, 6] [2, 3] (loopOf Tryz.f117 3) f ([.s (.i .i64 x0), .s (.ptr 0 0 none 0), .s (.ptr 1 0 none 0), .s (.i .i64 x1)]) ([.cells 52 [.one [.i .u64 x2, .i .u64 x3]], .cells 52 [.one [.i .u64 x4, .i .u64 x5]]]) qHW
theorem qU2 (f : Nat) (x0 x1 : Int) (x2 x3 : Int) (x4 x5 : Int) : qHX (f + 1) x0 x1 x2 x3 x4 x5 = qO2 (qHX f) x0 x1 x2 x3 x4 x5 := by kernel_rfl
theorem qO1 : ∀ f, qHX f = qEA f
 | 0 => rfl
 | f + 1 => by funext x0 x1 x2 x3 x4 x5; rw [qU2, qO1 f]; rfl
theorem qU5 : LoopSound Tryz.prog qD9 0 (loopOf Tryz.f117 3) :=
 loopSound_by mixed qOz (AllP.of (l' := []) (by kernel_rfl) trivial) (q := 3) (kin := [0, 2, 3, 6]) (kout := [2, 3]) (by kernel_rfl) (by kernel_rfl) fun vs objs K r h => by
  replace h : qHY vs objs K = some r := h
  unfold qHY at h
  split at h
  ·skip
   obtain ⟨t, h1, h2⟩ := ob_ok h
   rw [← qO1] at h1
   refine ⟨_, qHW, t, many, h1, fun e vs' objs' hd => ?_⟩
   unfold qHW at hd
   split at hd
   ·skip
    cases hd
    exact h2
   ·cases hd
  ·cases h
def qO0 : V → List Obj → Option (Int × Int) := fun v objs => match v, objs with
 | .agg [.one [.i .u64 y0, .i .u64 y1]], [] => some (y0, y1)
 | _, _ => none
theorem qU1 (x0 : Int) : fnE qD9 Tryz.f117 ([.s (.i .i64 x0)]) ([]) qO0 = qDJ x0 := by kernel_rfl
def qOy {R : Type} (o : Orc) (vs : List V) (objs : List Obj) (K : Bool → V → List Obj → Option R) : Option R := match vs, objs with
 | [.s (.i .i64 x0)], [] => ob (qDJ x0) fun z => K false (.agg [.one [.i .u64 (z.1), .i .u64 (z.2)]]) ([])
 | _, _ => o 117 vs objs K
def qO3 (o : Orc) : Orc := hook 117 (qOy o) o
theorem qU4 (o : Orc) (ho : OSound Tryz.prog o) : OSound Tryz.prog (qO3 o) := hook_ok ho fun vs objs K r h => by
 unfold qOy at h
 split at h
 ·skip
  obtain ⟨t, h1, h2⟩ := ob_ok h
  refine anyOK_of mixed qOz (fn := Tryz.f117) (b := (Tryz.f117).body.getD .skip) (by kernel_rfl) (by kernel_rfl) (by kernel_rfl) ((qU1 _).trans h1) (m := 0) rfl (AllP.of (l' := [loopOf Tryz.f117 3]) (by kernel_rfl) ⟨qU5, trivial⟩) fun v objs' hd => ?_
  unfold qO0 at hd
  split at hd
  ·skip
   cases hd
   exact h2
  ·cases hd
 ·exact ho _ _ _ _ _ h
def qOc : Ctx := mkC 25 ((qi (qHS (qBO oNil)))) [] lpNil
theorem qUk : CtxOK Tryz.prog qOc := mkC_ok ((qz _ (qOs _ (qB4 _ oNil_ok))))
def qOd : V → List Obj → Option (Bool) := fun v objs => match v, objs with
 | .s (.b y0), [] => some (y0)
 | _, _ => none
theorem qUj (x0 x1 : Int) : fnE qOc Tryz.f118 ([.s (.i .i8 x0), .s (.i .i64 x1)]) ([]) qOd = qAZ x0 x1 := by kernel_rfl
def qOb {R : Type} (o : Orc) (vs : List V) (objs : List Obj) (K : Bool → V → List Obj → Option R) : Option R := match vs, objs with
 | [.s (.i .i8 x0), .s (.i .i64 x1)], [] => ob (qAZ x0 x1) fun y0 => K false (.s (.b y0)) ([])
 | _, _ => o 118 vs objs K
def qHO (o : Orc) : Orc := hook 118 (qOb o) o
theorem qOe (o : Orc) (ho : OSound Tryz.prog o) : OSound Tryz.prog (qHO o) := hook_ok ho fun vs objs K r h => by
 unfold qOb at h
 split at h
 ·skip
  obtain ⟨t, h1, h2⟩ := ob_ok h
  refine anyOK_of mixed qUk (fn := Tryz.f118) (b := (Tryz.f118).body.getD .skip) (by kernel_rfl) (by kernel_rfl) (by kernel_rfl) ((qUj _ _).trans h1) (m := 0) rfl (AllP.of (l' := []) (by kernel_rfl) trivial) fun v objs' hd => ?_
  unfold qOd at hd
  split at hd
  ·skip
   cases hd
   exact h2
  ·cases hd
 ·exact ho _ _ _ _ _ h
def qJC : Ctx := mkC 27 ((qHO (qBW (qO3 (qBO (qDa (qi oNil))))))) [] lpNil
theorem qQM : CtxOK Tryz.prog qJC := mkC_ok ((qOe _ (qCb _ (qU4 _ (qB4 _ (qFY _ (qz _ oNil_ok)))))))
def qJD : V → List Obj → Option (Bool × Bool) := fun v objs => match v, objs with
 | .tup [W.s (.b y0), W.s (.b y1)], [] => some (y0, y1)
 | _, _ => none
theorem qQL (x0 x1 x2 : Int) : fnE qJC Tryz.f93 ([.s (.i .i8 x0), .s (.i .i64 x1), .s (.i .i64 x2)]) ([]) qJD = qCp x0 x1 x2 := by kernel_rfl
def qJB {R : Type} (o : Orc) (vs : List V) (objs : List Obj) (K : Bool → V → List Obj → Option R) : Option R := match vs, objs with
 | [.s (.i .i8 x0), .s (.i .i64 x1), .s (.i .i64 x2)], [] => ob (qCp x0 x1 x2) fun z => K false (.tup [W.s (.b (z.1)), W.s (.b (z.2))]) ([])
 | _, _ => o 93 vs objs K
def qJE (o : Orc) : Orc := hook 93 (qJB o) o
theorem qQN (o : Orc) (ho : OSound Tryz.prog o) : OSound Tryz.prog (qJE o) := hook_ok ho fun vs objs K r h => by
 unfold qJB at h
 split at h
 ·skip
  obtain ⟨t, h1, h2⟩ := ob_ok h
  refine anyOK_of mixed qQM (fn := Tryz.f93) (b := (Tryz.f93).body.getD .skip) (by kernel_rfl) (by kernel_rfl) (by kernel_rfl) ((qQL _ _ _).trans h1) (m := 0) rfl (AllP.of (l' := []) (by kernel_rfl) trivial) fun v objs' hd => ?_
  unfold qJD at hd
  split at hd
  ·skip
   cases hd
   exact h2
  ·cases hd
 ·exact ho _ _ _ _ _ h
def qEi : Ex → List V → List Obj → Option (Nat × Int × Nat × Int × Int × List Int × List Int × Int × List (List Int) × List (List Int) × Int × Int × Nat × List (List Int) × Int × Int × Nat × List Int) := fun e vs objs => match e, vs, objs with
 | .exit 2, [.s (.ptr 0 0 none 0), .s (.ptr 1 0 none 0), .s (.sl 2 0 y0 true), .s (.i .i64 y1), .s (.ptr 3 0 none 0), .s (.sl 4 0 y2 true), .s (.i .i64 y3), .s (.i .i64 y4)], [.rcells 56 [.arr .i8 81 y5, .arr .i8 16 y6, .one [.i .i8 y7], .rows [.i .u64, .i .u64] 32 y8, .rows [.i .u64, .i .u64] 2 y9], .cells 52 [.one [.i .u64 y10, .i .u64 y11]], .sli 39 false (.rows [.i .i64, .i .i64, .i .i64, .b] y12 y13), .cells 52 [.one [.i .u64 y14, .i .u64 y15]], .sli 3 false (.arr .i64 y16 y17)] => some (y0, y1, y2, y3, y4, y5, y6, y7, y8, y9, y10, y11, y12, y13, y14, y15, y16, y17)
 | _, _, _ => none
def qEg : Ex → List V → List Obj → Option (Nat × List Int × List Int × Int × List (List Int) × List (List Int) × Nat × List (List Int)) := fun e vs objs => match e, vs, objs with
 | .exit 0, [.s (.sl 1 0 y0 true)], [.rcells 56 [.arr .i8 81 y1, .arr .i8 16 y2, .one [.i .i8 y3], .rows [.i .u64, .i .u64] 32 y4, .rows [.i .u64, .i .u64] 2 y5], .sli 39 false (.rows [.i .i64, .i .i64, .i .i64, .b] y6 y7)] => some (y0, y1, y2, y3, y4, y5, y6, y7)
 | _, _, _ => none
def qEm {R : Type} (vs : List V) (objs : List Obj) (K : Ex → List V → List Obj → Option R) : Option R := match vs, objs with
 | [.s (.ptr 0 0 none 0), .s (.ptr 1 0 none 0), .s (.sl 2 0 x0 true), .s (.i .i64 x1), .s (.ptr 3 0 none 0), .s (.i .i64 x2), .s (.i .i8 x3), .s (.sl 4 0 x4 true), .s (.i .i64 x5), .s (.i .i64 x6), .s (.sl 5 0 x7 true), .s (.i .i64 x8), .s (.i .i64 x9)], [.rcells 56 [.arr .i8 81 x10, .arr .i8 16 x11, .one [.i .i8 x12], .rows [.i .u64, .i .u64] 32 x13, .rows [.i .u64, .i .u64] 2 x14], .cells 52 [.one [.i .u64 x15, .i .u64 x16]], .sli 39 false (.rows [.i .i64, .i .i64, .i .i64, .b] x17 x18), .cells 52 [.one [.i .u64 x19, .i .u64 x20]], .sli 3 false (.arr .i64 x21 x22), .sli 3 false (.arr .i64 x23 x24)] => ob (qAf many x0 x1 x2 x3 x4 x5 x6 x7 x8 x9 x10 x11 x12 x13 x14 x15 x16 x17 x18 x19 x20 x21 x22 x23 x24) fun z => K (.exit 2) ([.s (.ptr 0 0 none 0), .s (.ptr 1 0 none 0), .s (.sl 2 0 (z.1) true), .s (.i .i64 (z.2.1)), .s (.ptr 3 0 none 0), .s (.sl 4 0 (z.2.2.1) true), .s (.i .i64 (z.2.2.2.1)), .s (.i .i64 (z.2.2.2.2.1))]) ([.rcells 56 [.arr .i8 81 (z.2.2.2.2.2.1), .arr .i8 16 (z.2.2.2.2.2.2.1), .one [.i .i8 (z.2.2.2.2.2.2.2.1)], .rows [.i .u64, .i .u64] 32 (z.2.2.2.2.2.2.2.2.1), .rows [.i .u64, .i .u64] 2 (z.2.2.2.2.2.2.2.2.2.1)], .cells 52 [.one [.i .u64 (z.2.2.2.2.2.2.2.2.2.2.1), .i .u64 (z.2.2.2.2.2.2.2.2.2.2.2.1)]], .sli 39 false (.rows [.i .i64, .i .i64, .i .i64, .b] (z.2.2.2.2.2.2.2.2.2.2.2.2.1) (z.2.2.2.2.2.2.2.2.2.2.2.2.2.1)), .cells 52 [.one [.i .u64 (z.2.2.2.2.2.2.2.2.2.2.2.2.2.2.1), .i .u64 (z.2.2.2.2.2.2.2.2.2.2.2.2.2.2.2.1)]], .sli 3 false (.arr .i64 (z.2.2.2.2.2.2.2.2.2.2.2.2.2.2.2.2.1) (z.2.2.2.2.2.2.2.2.2.2.2.2.2.2.2.2.2))])
 | _, _ => none
def qEl {R : Type} (vs : List V) (objs : List Obj) (K : Ex → List V → List Obj → Option R) : Option R := match vs, objs with
 | [.s (.ptr 0 0 none 0), .s (.ptr 1 0 none 0), .s (.sl 2 0 x0 true), .s (.i .i64 x1), .s (.ptr 3 0 none 0), .s (.sl 4 0 x2 true), .s (.i .i64 x3), .s (.i .i64 x4)], [.rcells 56 [.arr .i8 81 x5, .arr .i8 16 x6, .one [.i .i8 x7], .rows [.i .u64, .i .u64] 32 x8, .rows [.i .u64, .i .u64] 2 x9], .cells 52 [.one [.i .u64 x10, .i .u64 x11]], .sli 39 false (.rows [.i .i64, .i .i64, .i .i64, .b] x12 x13), .cells 52 [.one [.i .u64 x14, .i .u64 x15]], .sli 3 false (.arr .i64 x16 x17)] => ob (qAe many x0 x1 x2 x3 x4 x5 x6 x7 x8 x9 x10 x11 x12 x13 x14 x15 x16 x17) fun z => K (.exit 0) ([.s (.sl 1 0 (z.1) true)]) ([.rcells 56 [.arr .i8 81 (z.2.1), .arr .i8 16 (z.2.2.1), .one [.i .i8 (z.2.2.2.1)], .rows [.i .u64, .i .u64] 32 (z.2.2.2.2.1), .rows [.i .u64, .i .u64] 2 (z.2.2.2.2.2.1)], .sli 39 false (.rows [.i .i64, .i .i64, .i .i64, .b] (z.2.2.2.2.2.2.1) (z.2.2.2.2.2.2.2))])
 | _, _ => none
def qP6 : {R : Type} → Nat → List V → List Obj → (Ex → List V → List Obj → Option R) → Option R := fun q vs objs K => bif Nat.beq q 9 then qEm vs objs K else bif Nat.beq q 5 then qEl vs objs K else none
def qBm : Ctx := mkC 82 ((qJE (qBU (qD2 (qDd (qBj (qBG (qDG (qEY (qBX (qBi oNil))))))))))) [(5, [0, 3, 5, 6, 7, 29, 30, 31], [5]), (9, [0, 3, 5, 6, 7, 9, 10, 29, 30, 31, 51, 52, 53], [0, 3, 5, 6, 7, 29, 30, 31])] qP6
theorem qEf : CtxOK Tryz.prog qBm := mkC_ok ((qQN _ (qCX _ (qHB _ (qFg _ (qCl _ (qBh _ (qD6 _ (qIJ _ (qCe _ (qCk _ oNil_ok)))))))))))
def qEj (f : Nat) (x0 : Nat) (x1 x2 x3 : Int) (x4 : Nat) (x5 x6 : Int) (x7 : Nat) (x8 x9 : Int) (x10 x11 : List Int) (x12 : Int) (x13 x14 : List (List Int)) (x15 x16 : Int) (x17 : Nat) (x18 : List (List Int)) (x19 x20 : Int) (x21 : Nat) (x22 : List Int) (x23 : Nat) (x24 : List Int) : Option (Nat × Int × Nat × Int × Int × List Int × List Int × Int × List (List Int) × List (List Int) × Int × Int × Nat × List (List Int) × Int × Int × Nat × List Int) := lrun qBm 1 [0, 3, 5, 6, 7, 9, 10, 29, 30, 31, 51, 52, 53] [0, 3, 5, 6, 7, 29, 30, 31] (loopOf Tryz.f43 9) f ([.s (.ptr 0 0 none 0), .s (.ptr 1 0 none 0), .s (.sl 2 0 x0 true), .s (.i .i64 x1), .s (.ptr 3 0 none 0), .s (.i .i64 x2), .s (.i .i8 x3), .s (.sl 4 0 x4 true), .s (.i .i64 x5), .s (.i .i64 x6), .s (.sl 5 0 x7 true), .s (.i .i64 x8), .s (.i .i64 x9)]) ([.rcells 56 [.arr .i8 81 x10, .arr .i8 16 x11, .one [.i .i8 x12], .rows [.i .u64, .i .u64] 32 x13, .rows [.i .u64, .i .u64] 2 x14], .cells 52 [.one [.i .u64 x15, .i .u64 x16]], .sli 39 false (.rows [.i .i64, .i .i64, .i .i64, .b] x17 x18), .cells 52 [.one [.i .u64 x19, .i .u64 x20]], .sli 3 false (.arr .i64 x21 x22), .sli 3 false (.arr .i64 x23 x24)]) qEi
theorem qP5 (f : Nat) (x0 : Nat) (x1 x2 x3 : Int) (x4 : Nat) (x5 x6 : Int) (x7 : Nat) (x8 x9 : Int) (x10 x11 : List Int) (x12 : Int) (x13 x14 : List (List Int)) (x15 x16 : Int) (x17 : Nat) (x18 : List (List Int)) (x19 x20 : Int) (x21 : Nat) (x22 : List Int) (x23 : Nat) (x24 : List Int) : qEj (f + 1) x0 x1 x2 x3 x4 x5 x6 x7 x8 x9 x10 x11 x12 x13 x14 x15 x16 x17 x18 x19 x20 x21 x22 x23 x24 = qBo (qEj f) x0 x1 x2 x3 x4 x5 x6 x7 x8 x9 x10 x11 x12 x13 x14 x15 x16 x17 x18 x19 x20 x21 x22 x23 x24 := by kernel_rfl
theorem qIz : ∀ f, qEj f = qAf f
 | 0 => rfl
 | f + 1 => by funext x0 x1 x2 x3 x4 x5 x6 x7 x8 x9 x10 x11 x12 x13 x14 x15 x16 x17 x18 x19 x20 x21 x22 x23 x24; rw [qP5, qIz f]; rfl
def qEh (f : Nat) (x0 : Nat) (x1 : Int) (x2 : Nat) (x3 x4 : Int) (x5 x6 : List Int) (x7 : Int) (x8 x9 : List (List Int)) (x10 x11 : Int) (x12 : Nat) (x13 : List (List Int)) (x14 x15 : Int) (x16 : Nat) (x17 : List Int) : Option (Nat × List Int × List Int × Int × List (List Int) × List (List Int) × Nat × List (List Int)) := lrun qBm 1 [0, 3, 5, 6, 7, 29, 30, 31] [5] (loopOf Tryz.f43 5) f ([.s (.ptr 0 0 none 0), .s (.ptr 1 0 none 0), .s (.sl 2 0 x0 true), .s (.i .i64 x1), .s (.ptr 3 0 none 0), .s (.sl 4 0 x2 true), .s (.i .i64 x3), .s (.i .i64 x4)]) ([.rcells 56 [.arr .i8 81 x5, .arr .i8 16 x6, .one [.i .i8 x7], .rows [.i .u64, .i .u64] 32 x8, .rows [.i .u64, .i .u64] 2 x9], .cells 52 [.one [.i .u64 x10, .i .u64 x11]], .sli 39 false (.rows [.i .i64, .i .i64, .i .i64, .b] x12 x13), .cells 52 [.one [.i .u64 x14, .i .u64 x15]], .sli 3 false (.arr .i64 x16 x17)]) qEg
theorem qP4 (f : Nat) (x0 : Nat) (x1 : Int) (x2 : Nat) (x3 x4 : Int) (x5 x6 : List Int) (x7 : Int) (x8 x9 : List (List Int)) (x10 x11 : Int) (x12 : Nat) (x13 : List (List Int)) (x14 x15 : Int) (x16 : Nat) (x17 : List Int) : qEh (f + 1) x0 x1 x2 x3 x4 x5 x6 x7 x8 x9 x10 x11 x12 x13 x14 x15 x16 x17 = qBn (qEh f) x0 x1 x2 x3 x4 x5 x6 x7 x8 x9 x10 x11 x12 x13 x14 x15 x16 x17 := by kernel_rfl
theorem qIy : ∀ f, qEh f = qAe f
 | 0 => rfl
 | f + 1 => by funext x0 x1 x2 x3 x4 x5 x6 x7 x8 x9 x10 x11 x12 x13 x14 x15 x16 x17; rw [qP4, qIy f]; rfl
theorem qP8 : LoopSound Tryz.prog qBm 1 (loopOf Tryz.f43 9) :=
 loopSound_by mixed qEf (AllP.of (l' := []) (by kernel_rfl) trivial) (q := 9) (kin := [0, 3, 5, 6, 7, 9, 10, 29, 30, 31, 51, 52, 53]) (kout := [0, 3, 5, 6, 7, 29, 30, 31]) (by kernel_rfl) (by kernel_rfl) fun vs objs K r h => by
  replace h : qEm vs objs K = some r := h
  unfold qEm at h
  split at h
  ·skip
   obtain ⟨t, h1, h2⟩ := ob_ok h
   rw [← qIz] at h1
   refine ⟨_, qEi, t, many, h1, fun e vs' objs' hd => ?_⟩
   unfold qEi at hd
   split at hd
   ·skip
    cases hd
    exact h2
   ·cases hd
  ·cases h
theorem qP7 : LoopSound Tryz.prog qBm 1 (loopOf Tryz.f43 5) :=
 loopSound_by mixed qEf (AllP.of (l' := [loopOf Tryz.f43 9]) (by kernel_rfl) ⟨qP8, trivial⟩) (q := 5) (kin := [0, 3, 5, 6, 7, 29, 30, 31]) (kout := [5]) (by kernel_rfl) (by kernel_rfl) fun vs objs K r h => by
  replace h : qEl vs objs K = some r := h
  unfold qEl at h
  split at h
  ·skip
   obtain ⟨t, h1, h2⟩ := ob_ok h
   rw [← qIy] at h1
   refine ⟨_, qEg, t, many, h1, fun e vs' objs' hd => ?_⟩
   unfold qEg at hd
   split at hd
   ·skip
    cases hd
    exact h2
   ·cases hd
  ·cases h
def qIx : V → List Obj → Option (Nat × Nat × List (List Int)) := fun v objs => match v, objs with
 | .s (.sl 1 0 y0 true), [.sli 39 false (.rows [.i .i64, .i .i64, .i .i64, .b] y1 y2)] => some (y0, y1, y2)
 | _, _ => none
theorem qP3 (x0 x1 : Int) (x2 x3 : List Int) (x4 : Int) (x5 x6 : List (List Int)) : fnE qBm Tryz.f43 ([.s (.ptr 0 0 none 0), .agg [.one [.i .u64 x0, .i .u64 x1]]]) ([.rcells 56 [.arr .i8 81 x2, .arr .i8 16 x3, .one [.i .i8 x4], .rows [.i .u64, .i .u64] 32 x5, .rows [.i .u64, .i .u64] 2 x6]]) (pureD 1 qIx) = qBl x0 x1 x2 x3 x4 x5 x6 := by kernel_rfl
def qIw {R : Type} (o : Orc) (vs : List V) (objs : List Obj) (K : Bool → V → List Obj → Option R) : Option R := match vs, List.map Obj.toRO objs with
 | [.s (.ptr 0 0 none 0), .agg [.one [.i .u64 x0, .i .u64 x1]]], [.rcells 56 [.arr .i8 81 x2, .arr .i8 16 x3, .one [.i .i8 x4], .rows [.i .u64, .i .u64] 32 x5, .rows [.i .u64, .i .u64] 2 x6]] => ob (qBl x0 x1 x2 x3 x4 x5 x6) fun z => K true (.s (.sl 1 0 (z.1) true)) ([.sli 39 false (.rows [.i .i64, .i .i64, .i .i64, .b] (z.2.1) (z.2.2))])
 | _, _ => o 43 vs objs K
def qEk (o : Orc) : Orc := hook 43 (qIw o) o
theorem qI0 (o : Orc) (ho : OSound Tryz.prog o) : OSound Tryz.prog (qEk o) := hook_ok ho fun vs objs K r h => by
 unfold qIw at h
 split at h
 ·skip
  have hq : List.map Obj.toRO objs = _ := (by rename_i hq; first | exact hq | assumption)
  obtain ⟨t, h1, h2⟩ := ob_ok h
  refine purOK_by mixed qEf (m := 1) (fn := Tryz.f43) (b := (Tryz.f43).body.getD .skip) (by kernel_rfl) (by kernel_rfl) (by kernel_rfl) hq (by kernel_rfl) (by kernel_rfl) (AllP.of (l' := [loopOf Tryz.f43 5]) (by kernel_rfl) ⟨qP7, trivial⟩) ((qP3 _ _ _ _ _ _ _).trans h1) fun v objs' hd => ?_
  unfold qIx at hd
  split at hd
  ·skip
   cases hd
   exact h2
  ·cases hd
 ·exact ho _ _ _ _ _ h
def qJx : Ctx := mkC 49 ((qBW (qCZ (qEF (qDH (qBj oNil)))))) [] lpNil
theorem qQy : CtxOK Tryz.prog qJx := mkC_ok ((qCb _ (qDD _ (qHk _ (qD7 _ (qCl _ oNil_ok))))))
def qJy : V → List Obj → Option (Bool × List Int × List Int × Int × List (List Int) × List (List Int) × List (List Int × List Int)) := fun v objs => match v, objs with
 | .s (.b y0), [.cells 56 [.arr .i8 81 y1, .arr .i8 16 y2, .one [.i .i8 y3], .rows [.i .u64, .i .u64] 32 y4, .rows [.i .u64, .i .u64] 2 y5], .map false true [.i .i64] [.i .u64, .i .u64] y6] => some (y0, y1, y2, y3, y4, y5, y6)
 | _, _ => none
theorem qQx (x0 x1 : Int) (x2 x3 : Int) (x4 : Bool) (x5 x6 x7 : Int) (x8 : Bool) (x9 x10 : List Int) (x11 : Int) (x12 x13 : List (List Int)) (x14 : List (List Int × List Int)) : fnE qJx Tryz.f45 ([.agg [.one [.ptr 0 0 none 0, .i .i64 x0, .i .i64 x1, .i .u64 x2, .i .u64 x3, .mp 1, .b x4]], .agg [.one [.i .i64 x5, .i .i64 x6, .i .i64 x7, .b x8]]]) ([.cells 56 [.arr .i8 81 x9, .arr .i8 16 x10, .one [.i .i8 x11], .rows [.i .u64, .i .u64] 32 x12, .rows [.i .u64, .i .u64] 2 x13], .map false true [.i .i64] [.i .u64, .i .u64] x14]) qJy = qBy x0 x1 x2 x3 x4 x5 x6 x7 x8 x9 x10 x11 x12 x13 x14 := by kernel_rfl
def qJw {R : Type} (o : Orc) (vs : List V) (objs : List Obj) (K : Bool → V → List Obj → Option R) : Option R := match vs, objs with
 | [.agg [.one [.ptr 0 0 none 0, .i .i64 x0, .i .i64 x1, .i .u64 x2, .i .u64 x3, .mp 1, .b x4]], .agg [.one [.i .i64 x5, .i .i64 x6, .i .i64 x7, .b x8]]], [.cells 56 [.arr .i8 81 x9, .arr .i8 16 x10, .one [.i .i8 x11], .rows [.i .u64, .i .u64] 32 x12, .rows [.i .u64, .i .u64] 2 x13], .map false true [.i .i64] [.i .u64, .i .u64] x14] => ob (qBy x0 x1 x2 x3 x4 x5 x6 x7 x8 x9 x10 x11 x12 x13 x14) fun z => K false (.s (.b (z.1))) ([.cells 56 [.arr .i8 81 (z.2.1), .arr .i8 16 (z.2.2.1), .one [.i .i8 (z.2.2.2.1)], .rows [.i .u64, .i .u64] 32 (z.2.2.2.2.1), .rows [.i .u64, .i .u64] 2 (z.2.2.2.2.2.1)], .map false true [.i .i64] [.i .u64, .i .u64] (z.2.2.2.2.2.2)])
 | _, _ => o 45 vs objs K
def qFN (o : Orc) : Orc := hook 45 (qJw o) o
theorem qJz (o : Orc) (ho : OSound Tryz.prog o) : OSound Tryz.prog (qFN o) := hook_ok ho fun vs objs K r h => by
 unfold qJw at h
 split at h
 ·skip
  obtain ⟨t, h1, h2⟩ := ob_ok h
  refine anyOK_of mixed qQy (fn := Tryz.f45) (b := (Tryz.f45).body.getD .skip) (by kernel_rfl) (by kernel_rfl) (by kernel_rfl) ((qQx _ _ _ _ _ _ _ _ _ _ _ _ _ _ _).trans h1) (m := 2) rfl (AllP.of (l' := []) (by kernel_rfl) trivial) fun v objs' hd => ?_
  unfold qJy at hd
  split at hd
  ·skip
   cases hd
   exact h2
  ·cases hd
 ·exact ho _ _ _ _ _ h
def qH4 : Ctx := mkC 31 (oNil) [] lpNil
theorem qPV : CtxOK Tryz.prog qH4 := mkC_ok (oNil_ok)
def qH5 : V → List Obj → Option (Int) := fun v objs => match v, objs with
 | .s (.i .i64 y0), [] => some (y0)
 | _, _ => none
theorem qPU (x0 x1 : Int) (x2 x3 : List Int) (x4 : Int) (x5 x6 : List (List Int)) : fnE qH4 Tryz.f96 ([.s (.ptr 0 0 none 0), .s (.i .i64 x0), .s (.i .i64 x1)]) ([.rcells 56 [.arr .i8 81 x2, .arr .i8 16 x3, .one [.i .i8 x4], .rows [.i .u64, .i .u64] 32 x5, .rows [.i .u64, .i .u64] 2 x6]]) (pureD 1 qH5) = qZ x0 x1 x2 x3 x4 x5 x6 := by kernel_rfl
def qH3 {R : Type} (o : Orc) (vs : List V) (objs : List Obj) (K : Bool → V → List Obj → Option R) : Option R := match vs, List.map Obj.toRO objs with
 | [.s (.ptr 0 0 none 0), .s (.i .i64 x0), .s (.i .i64 x1)], [.rcells 56 [.arr .i8 81 x2, .arr .i8 16 x3, .one [.i .i8 x4], .rows [.i .u64, .i .u64] 32 x5, .rows [.i .u64, .i .u64] 2 x6]] => ob (qZ x0 x1 x2 x3 x4 x5 x6) fun y0 => K true (.s (.i .i64 y0)) ([])
 | _, _ => o 96 vs objs K
def qDN (o : Orc) : Orc := hook 96 (qH3 o) o
theorem qES (o : Orc) (ho : OSound Tryz.prog o) : OSound Tryz.prog (qDN o) := hook_ok ho fun vs objs K r h => by
 unfold qH3 at h
 split at h
 ·skip
  have hq : List.map Obj.toRO objs = _ := (by rename_i hq; first | exact hq | assumption)
  obtain ⟨t, h1, h2⟩ := ob_ok h
  refine purOK_by mixed qPV (m := 1) (fn := Tryz.f96) (b := (Tryz.f96).body.getD .skip) (by kernel_rfl) (by kernel_rfl) (by kernel_rfl) hq (by kernel_rfl) (by kernel_rfl) (AllP.of (l' := []) (by kernel_rfl) trivial) ((qPU _ _ _ _ _ _ _).trans h1) fun v objs' hd => ?_
  unfold qH5 at hd
  split at hd
  ·skip
   cases hd
   exact h2
  ·cases hd
 ·exact ho _ _ _ _ _ h
def qN8 : Ctx := mkC 6 ((qD2 (qDC oNil))) [] lpNil
theorem qUM : CtxOK Tryz.prog qN8 := mkC_ok ((qHB _ (qDy _ oNil_ok)))
def qN9 : V → List Obj → Option (Int × Int) := fun v objs => match v, objs with
 | .agg [.one [.i .u64 y0, .i .u64 y1]], [] => some (y0, y1)
 | _, _ => none
theorem qUL (x0 x1 : Int) : fnE qN8 Tryz.f119 ([.agg [.one [.i .u64 x0, .i .u64 x1]]]) ([]) qN9 = qDF x0 x1 := by kernel_rfl
def qN7 {R : Type} (o : Orc) (vs : List V) (objs : List Obj) (K : Bool → V → List Obj → Option R) : Option R := match vs, objs with
 | [.agg [.one [.i .u64 x0, .i .u64 x1]]], [] => ob (qDF x0 x1) fun z => K false (.agg [.one [.i .u64 (z.1), .i .u64 (z.2)]]) ([])
 | _, _ => o 119 vs objs K
def qOA (o : Orc) : Orc := hook 119 (qN7 o) o
theorem qUN (o : Orc) (ho : OSound Tryz.prog o) : OSound Tryz.prog (qOA o) := hook_ok ho fun vs objs K r h => by
 unfold qN7 at h
 split at h
 ·skip
  obtain ⟨t, h1, h2⟩ := ob_ok h
  refine anyOK_of mixed qUM (fn := Tryz.f119) (b := (Tryz.f119).body.getD .skip) (by kernel_rfl) (by kernel_rfl) (by kernel_rfl) ((qUL _ _).trans h1) (m := 0) rfl (AllP.of (l' := []) (by kernel_rfl) trivial) fun v objs' hd => ?_
  unfold qN9 at hd
  split at hd
  ·skip
   cases hd
   exact h2
  ·cases hd
 ·exact ho _ _ _ _ _ h
def qG8 : Ex → List V → List Obj → Option (Int × Int × Int × Int) := fun e vs objs => match e, vs, objs with
 | .exit 0, [.s (.ptr 0 0 none 0), .s (.ptr 1 0 none 0)], [.cells 52 [.one [.i .u64 y0, .i .u64 y1]], .cells 52 [.one [.i .u64 y2, .i .u64 y3]]] => some (y0, y1, y2, y3)
 | _, _, _ => none
def qHA {R : Type} (vs : List V) (objs : List Obj) (K : Ex → List V → List Obj → Option R) : Option R := match vs, objs with
 | [.s (.i .i64 x0), .s (.ptr 0 0 none 0), .s (.ptr 1 0 none 0), .s (.i .i64 x1)], [.cells 52 [.one [.i .u64 x2, .i .u64 x3]], .cells 52 [.one [.i .u64 x4, .i .u64 x5]]] => ob (qD1 many x0 x1 x2 x3 x4 x5) fun z => K (.exit 0) ([.s (.ptr 0 0 none 0), .s (.ptr 1 0 none 0)]) ([.cells 52 [.one [.i .u64 (z.1), .i .u64 (z.2.1)]], .cells 52 [.one [.i .u64 (z.2.2.1), .i .u64 (z.2.2.2)]]])
 | _, _ => none
def qUG : {R : Type} → Nat → List V → List Obj → (Ex → List V → List Obj → Option R) → Option R := fun q vs objs K => bif Nat.beq q 3 then qHA vs objs K else none
def qD0 : Ctx := mkC 15 ((qAY (qHG oNil))) [(3, [0, 2, 3, 5], [2, 3])] qUG
theorem qNz : CtxOK Tryz.prog qD0 := mkC_ok ((qA8 _ (qOQ _ oNil_ok)))
def qG9 (f : Nat) (x0 x1 : Int) (x2 x3 : Int) (x4 x5 : Int) : Option (Int × Int × Int × Int) := lrun qD0 0 [0, 2, 3, 5] [2, 3] (loopOf Tryz.f120 3) f ([.s (.i .i64 x0), .s (.ptr 0 0 none 0), .s (.ptr 1 0 none 0), .s (.i .i64 x1)]) ([.cells 52 [.one [.i .u64 x2, .i .u64 x3]], .cells 52 [.one [.i .u64 x4, .i .u64 x5]]]) qG8
theorem qUF (f : Nat) (x0 x1 : Int) (x2 x3 : Int) (x4 x5 : Int) : qG9 (f + 1) x0 x1 x2 x3 x4 x5 = qN2 (qG9 f) x0 x1 x2 x3 x4 x5 := by kernel_rfl
theorem qN1 : ∀ f, qG9 f = qD1 f
 | 0 => rfl
 | f + 1 => by funext x0 x1 x2 x3 x4 x5; rw [qUF, qN1 f]; rfl
theorem qUI : LoopSound Tryz.prog qD0 0 (loopOf Tryz.f120 3) :=
 loopSound_by mixed qNz (AllP.of (l' := []) (by kernel_rfl) trivial) (q := 3) (kin := [0, 2, 3, 5]) (kout := [2, 3]) (by kernel_rfl) (by kernel_rfl) fun vs objs K r h => by
  replace h : qHA vs objs K = some r := h
  unfold qHA at h
  split at h
  ·skip
   obtain ⟨t, h1, h2⟩ := ob_ok h
   rw [← qN1] at h1
   refine ⟨_, qG8, t, many, h1, fun e vs' objs' hd => ?_⟩
   unfold qG8 at hd
   split at hd
   ·skip
    cases hd
    exact h2
   ·cases hd
  ·cases h
def qN0 : V → List Obj → Option (Int × Int) := fun v objs => match v, objs with
 | .agg [.one [.i .u64 y0, .i .u64 y1]], [] => some (y0, y1)
 | _, _ => none
theorem qUE (x0 : Int) : fnE qD0 Tryz.f120 ([.s (.i .i64 x0)]) ([]) qN0 = qDE x0 := by kernel_rfl
def qNy {R : Type} (o : Orc) (vs : List V) (objs : List Obj) (K : Bool → V → List Obj → Option R) : Option R := match vs, objs with
 | [.s (.i .i64 x0)], [] => ob (qDE x0) fun z => K false (.agg [.one [.i .u64 (z.1), .i .u64 (z.2)]]) ([])
 | _, _ => o 120 vs objs K
def qN3 (o : Orc) : Orc := hook 120 (qNy o) o
theorem qUH (o : Orc) (ho : OSound Tryz.prog o) : OSound Tryz.prog (qN3 o) := hook_ok ho fun vs objs K r h => by
 unfold qNy at h
 split at h
 ·skip
  obtain ⟨t, h1, h2⟩ := ob_ok h
  refine anyOK_of mixed qNz (fn := Tryz.f120) (b := (Tryz.f120).body.getD .skip) (by kernel_rfl) (by kernel_rfl) (by kernel_rfl) ((qUE _).trans h1) (m := 0) rfl (AllP.of (l' := [loopOf Tryz.f120 3]) (by kernel_rfl) ⟨qUI, trivial⟩) fun v objs' hd => ?_
  unfold qN0 at hd
  split at hd
  ·skip
   cases hd
   exact h2
  ·cases hd
 ·exact ho _ _ _ _ _ h
def qEu : Ex → List V → List Obj → Option (List Int × List Int × Int × List (List Int) × List (List Int) × Int × Int × Int × Int) := fun e vs objs => match e, vs, objs with
 | .exit 0, [.s (.ptr 1 0 none 0), .s (.ptr 2 0 none 0)], [.rcells 56 [.arr .i8 81 y0, .arr .i8 16 y1, .one [.i .i8 y2], .rows [.i .u64, .i .u64] 32 y3, .rows [.i .u64, .i .u64] 2 y4], .cells 52 [.one [.i .u64 y5, .i .u64 y6]], .cells 52 [.one [.i .u64 y7, .i .u64 y8]]] => some (y0, y1, y2, y3, y4, y5, y6, y7, y8)
 | _, _, _ => none
def qEw {R : Type} (vs : List V) (objs : List Obj) (K : Ex → List V → List Obj → Option R) : Option R := match vs, objs with
 | [.s (.ptr 0 0 none 0), .s (.i .i64 x0), .s (.i .i64 x1), .s (.ptr 1 0 none 0), .s (.i .i8 x2), .s (.ptr 2 0 none 0), .s (.sl 3 0 x3 true), .s (.i .i64 x4), .s (.i .i64 x5)], [.rcells 56 [.arr .i8 81 x6, .arr .i8 16 x7, .one [.i .i8 x8], .rows [.i .u64, .i .u64] 32 x9, .rows [.i .u64, .i .u64] 2 x10], .cells 52 [.one [.i .u64 x11, .i .u64 x12]], .cells 52 [.one [.i .u64 x13, .i .u64 x14]], .sli 3 false (.arr .i64 x15 x16)] => ob (qt many x0 x1 x2 x3 x4 x5 x6 x7 x8 x9 x10 x11 x12 x13 x14 x15 x16) fun z => K (.exit 0) ([.s (.ptr 1 0 none 0), .s (.ptr 2 0 none 0)]) ([.rcells 56 [.arr .i8 81 (z.1), .arr .i8 16 (z.2.1), .one [.i .i8 (z.2.2.1)], .rows [.i .u64, .i .u64] 32 (z.2.2.2.1), .rows [.i .u64, .i .u64] 2 (z.2.2.2.2.1)], .cells 52 [.one [.i .u64 (z.2.2.2.2.2.1), .i .u64 (z.2.2.2.2.2.2.1)]], .cells 52 [.one [.i .u64 (z.2.2.2.2.2.2.2.1), .i .u64 (z.2.2.2.2.2.2.2.2)]]])
 | _, _ => none
def qQI : {R : Type} → Nat → List V → List Obj → (Ex → List V → List Obj → Option R) → Option R := fun q vs objs K => bif Nat.beq q 6 then qEw vs objs K else none
def qDS : Ctx := mkC 53 ((qAY (qCZ (qBU (qN3 (qG6 (qBi (qHO (qDG (qOA (qBj (qBN oNil)))))))))))) [(6, [0, 1, 2, 6, 7, 8, 24, 25, 26], [6, 8])] qQI
theorem qI7 : CtxOK Tryz.prog qDS := mkC_ok ((qA8 _ (qDD _ (qCX _ (qUH _ (qNr _ (qCk _ (qOe _ (qD6 _ (qUN _ (qCl _ (qB3 _ oNil_ok))))))))))))
def qEv (f : Nat) (x0 x1 x2 : Int) (x3 : Nat) (x4 x5 : Int) (x6 x7 : List Int) (x8 : Int) (x9 x10 : List (List Int)) (x11 x12 : Int) (x13 x14 : Int) (x15 : Nat) (x16 : List Int) : Option (List Int × List Int × Int × List (List Int) × List (List Int) × Int × Int × Int × Int) := lrun qDS 1 [0, 1, 2, 6, 7, 8, 24, 25, 26] [6, 8] (loopOf Tryz.f97 6) f ([.s (.ptr 0 0 none 0), .s (.i .i64 x0), .s (.i .i64 x1), .s (.ptr 1 0 none 0), .s (.i .i8 x2), .s (.ptr 2 0 none 0), .s (.sl 3 0 x3 true), .s (.i .i64 x4), .s (.i .i64 x5)]) ([.rcells 56 [.arr .i8 81 x6, .arr .i8 16 x7, .one [.i .i8 x8], .rows [.i .u64, .i .u64] 32 x9, .rows [.i .u64, .i .u64] 2 x10], .cells 52 [.one [.i .u64 x11, .i .u64 x12]], .cells 52 [.one [.i .u64 x13, .i .u64 x14]], .sli 3 false (.arr .i64 x15 x16)]) qEu
theorem qQH (f : Nat) (x0 x1 x2 : Int) (x3 : Nat) (x4 x5 : Int) (x6 x7 : List Int) (x8 : Int) (x9 x10 : List (List Int)) (x11 x12 : Int) (x13 x14 : Int) (x15 : Nat) (x16 : List Int) : qEv (f + 1) x0 x1 x2 x3 x4 x5 x6 x7 x8 x9 x10 x11 x12 x13 x14 x15 x16 = qBs (qEv f) x0 x1 x2 x3 x4 x5 x6 x7 x8 x9 x10 x11 x12 x13 x14 x15 x16 := by kernel_rfl
theorem qI9 : ∀ f, qEv f = qt f
 | 0 => rfl
 | f + 1 => by funext x0 x1 x2 x3 x4 x5 x6 x7 x8 x9 x10 x11 x12 x13 x14 x15 x16; rw [qQH, qI9 f]; rfl
theorem qQK : LoopSound Tryz.prog qDS 1 (loopOf Tryz.f97 6) :=
 loopSound_by mixed qI7 (AllP.of (l' := []) (by kernel_rfl) trivial) (q := 6) (kin := [0, 1, 2, 6, 7, 8, 24, 25, 26]) (kout := [6, 8]) (by kernel_rfl) (by kernel_rfl) fun vs objs K r h => by
  replace h : qEw vs objs K = some r := h
  unfold qEw at h
  split at h
  ·skip
   obtain ⟨t, h1, h2⟩ := ob_ok h
   rw [← qI9] at h1
   refine ⟨_, qEu, t, many, h1, fun e vs' objs' hd => ?_⟩
   unfold qEu at hd
   split at hd
   ·skip
    cases hd
    exact h2
   ·cases hd
  ·cases h
def qI8 : V → List Obj → Option (Int × Int) := fun v objs => match v, objs with
 | .agg [.one [.i .u64 y0, .i .u64 y1]], [] => some (y0, y1)
 | _, _ => none
theorem qQG (x0 x1 : Int) (x2 x3 : List Int) (x4 : Int) (x5 x6 : List (List Int)) : fnE qDS Tryz.f97 ([.s (.ptr 0 0 none 0), .s (.i .i64 x0), .s (.i .i64 x1)]) ([.rcells 56 [.arr .i8 81 x2, .arr .i8 16 x3, .one [.i .i8 x4], .rows [.i .u64, .i .u64] 32 x5, .rows [.i .u64, .i .u64] 2 x6]]) (pureD 1 qI8) = qCo x0 x1 x2 x3 x4 x5 x6 := by kernel_rfl
def qI6 {R : Type} (o : Orc) (vs : List V) (objs : List Obj) (K : Bool → V → List Obj → Option R) : Option R := match vs, List.map Obj.toRO objs with
 | [.s (.ptr 0 0 none 0), .s (.i .i64 x0), .s (.i .i64 x1)], [.rcells 56 [.arr .i8 81 x2, .arr .i8 16 x3, .one [.i .i8 x4], .rows [.i .u64, .i .u64] 32 x5, .rows [.i .u64, .i .u64] 2 x6]] => ob (qCo x0 x1 x2 x3 x4 x5 x6) fun z => K true (.agg [.one [.i .u64 (z.1), .i .u64 (z.2)]]) ([])
 | _, _ => o 97 vs objs K
def qJA (o : Orc) : Orc := hook 97 (qI6 o) o
theorem qQJ (o : Orc) (ho : OSound Tryz.prog o) : OSound Tryz.prog (qJA o) := hook_ok ho fun vs objs K r h => by
 unfold qI6 at h
 split at h
 ·skip
  have hq : List.map Obj.toRO objs = _ := (by rename_i hq; first | exact hq | assumption)
  obtain ⟨t, h1, h2⟩ := ob_ok h
  refine purOK_by mixed qI7 (m := 1) (fn := Tryz.f97) (b := (Tryz.f97).body.getD .skip) (by kernel_rfl) (by kernel_rfl) (by kernel_rfl) hq (by kernel_rfl) (by kernel_rfl) (AllP.of (l' := [loopOf Tryz.f97 6]) (by kernel_rfl) ⟨qQK, trivial⟩) ((qQG _ _ _ _ _ _ _).trans h1) fun v objs' hd => ?_
  unfold qI8 at hd
  split at hd
  ·skip
   cases hd
   exact h2
  ·cases hd
 ·exact ho _ _ _ _ _ h
def qEq : Ex → List V → List Obj → Option (Nat × Int × Int × List Int × List Int × Int × List (List Int) × List (List Int) × Int × Int × Nat × List (List Int)) := fun e vs objs => match e, vs, objs with
 | .exit 2, [.s (.ptr 0 0 none 0), .s (.ptr 1 0 none 0), .s (.sl 2 0 y0 true), .s (.i .i64 y1), .s (.i .i64 y2)], [.rcells 56 [.arr .i8 81 y3, .arr .i8 16 y4, .one [.i .i8 y5], .rows [.i .u64, .i .u64] 32 y6, .rows [.i .u64, .i .u64] 2 y7], .cells 52 [.one [.i .u64 y8, .i .u64 y9]], .sli 39 false (.rows [.i .i64, .i .i64, .i .i64, .b] y10 y11)] => some (y0, y1, y2, y3, y4, y5, y6, y7, y8, y9, y10, y11)
 | _, _, _ => none
def qEo : Ex → List V → List Obj → Option (Nat × List Int × List Int × Int × List (List Int) × List (List Int) × Nat × List (List Int)) := fun e vs objs => match e, vs, objs with
 | .exit 0, [.s (.sl 1 0 y0 true)], [.rcells 56 [.arr .i8 81 y1, .arr .i8 16 y2, .one [.i .i8 y3], .rows [.i .u64, .i .u64] 32 y4, .rows [.i .u64, .i .u64] 2 y5], .sli 39 false (.rows [.i .i64, .i .i64, .i .i64, .b] y6 y7)] => some (y0, y1, y2, y3, y4, y5, y6, y7)
 | _, _, _ => none
def qEt {R : Type} (vs : List V) (objs : List Obj) (K : Ex → List V → List Obj → Option R) : Option R := match vs, objs with
 | [.s (.ptr 0 0 none 0), .s (.ptr 1 0 none 0), .s (.sl 2 0 x0 true), .s (.i .i64 x1), .s (.i .i64 x2), .s (.sl 3 0 x3 true), .s (.i .i64 x4), .s (.i .i64 x5)], [.rcells 56 [.arr .i8 81 x6, .arr .i8 16 x7, .one [.i .i8 x8], .rows [.i .u64, .i .u64] 32 x9, .rows [.i .u64, .i .u64] 2 x10], .cells 52 [.one [.i .u64 x11, .i .u64 x12]], .sli 39 false (.rows [.i .i64, .i .i64, .i .i64, .b] x13 x14), .sli 3 false (.arr .i64 x15 x16)] => ob (qAh many x0 x1 x2 x3 x4 x5 x6 x7 x8 x9 x10 x11 x12 x13 x14 x15 x16) fun z => K (.exit 2) ([.s (.ptr 0 0 none 0), .s (.ptr 1 0 none 0), .s (.sl 2 0 (z.1) true), .s (.i .i64 (z.2.1)), .s (.i .i64 (z.2.2.1))]) ([.rcells 56 [.arr .i8 81 (z.2.2.2.1), .arr .i8 16 (z.2.2.2.2.1), .one [.i .i8 (z.2.2.2.2.2.1)], .rows [.i .u64, .i .u64] 32 (z.2.2.2.2.2.2.1), .rows [.i .u64, .i .u64] 2 (z.2.2.2.2.2.2.2.1)], .cells 52 [.one [.i .u64 (z.2.2.2.2.2.2.2.2.1), .i .u64 (z.2.2.2.2.2.2.2.2.2.1)]], .sli 39 false (.rows [.i .i64, .i .i64, .i .i64, .b] (z.2.2.2.2.2.2.2.2.2.2.1) (z.2.2.2.2.2.2.2.2.2.2.2))])
 | _, _ => none
def qEs {R : Type} (vs : List V) (objs : List Obj) (K : Ex → List V → List Obj → Option R) : Option R := match vs, objs with
 | [.s (.ptr 0 0 none 0), .s (.ptr 1 0 none 0), .s (.sl 2 0 x0 true), .s (.i .i64 x1), .s (.i .i64 x2)], [.rcells 56 [.arr .i8 81 x3, .arr .i8 16 x4, .one [.i .i8 x5], .rows [.i .u64, .i .u64] 32 x6, .rows [.i .u64, .i .u64] 2 x7], .cells 52 [.one [.i .u64 x8, .i .u64 x9]], .sli 39 false (.rows [.i .i64, .i .i64, .i .i64, .b] x10 x11)] => ob (qAg many x0 x1 x2 x3 x4 x5 x6 x7 x8 x9 x10 x11) fun z => K (.exit 0) ([.s (.sl 1 0 (z.1) true)]) ([.rcells 56 [.arr .i8 81 (z.2.1), .arr .i8 16 (z.2.2.1), .one [.i .i8 (z.2.2.2.1)], .rows [.i .u64, .i .u64] 32 (z.2.2.2.2.1), .rows [.i .u64, .i .u64] 2 (z.2.2.2.2.2.1)], .sli 39 false (.rows [.i .i64, .i .i64, .i .i64, .b] (z.2.2.2.2.2.2.1) (z.2.2.2.2.2.2.2))])
 | _, _ => none
def qQC : {R : Type} → Nat → List V → List Obj → (Ex → List V → List Obj → Option R) → Option R := fun q vs objs K => bif Nat.beq q 8 then qEt vs objs K else bif Nat.beq q 4 then qEs vs objs K else none
def qBp : Ctx := mkC 45 ((qDG (qBU (qJA (qDN oNil))))) [(4, [0, 3, 5, 6, 7], [5]), (8, [0, 3, 5, 6, 7, 31, 32, 33], [0, 3, 5, 6, 7])] qQC
theorem qEn : CtxOK Tryz.prog qBp := mkC_ok ((qD6 _ (qCX _ (qQJ _ (qES _ oNil_ok)))))
def qEr (f : Nat) (x0 : Nat) (x1 x2 : Int) (x3 : Nat) (x4 x5 : Int) (x6 x7 : List Int) (x8 : Int) (x9 x10 : List (List Int)) (x11 x12 : Int) (x13 : Nat) (x14 : List (List Int)) (x15 : Nat) (x16 : List Int) : Option (Nat × Int × Int × List Int × List Int × Int × List (List Int) × List (List Int) × Int × Int × Nat × List (List Int)) := lrun qBp 1 [0, 3, 5, 6, 7, 31, 32, 33] [0, 3, 5, 6, 7] (loopOf Tryz.f46 8) f ([.s (.ptr 0 0 none 0), .s (.ptr 1 0 none 0), .s (.sl 2 0 x0 true), .s (.i .i64 x1), .s (.i .i64 x2), .s (.sl 3 0 x3 true), .s (.i .i64 x4), .s (.i .i64 x5)]) ([.rcells 56 [.arr .i8 81 x6, .arr .i8 16 x7, .one [.i .i8 x8], .rows [.i .u64, .i .u64] 32 x9, .rows [.i .u64, .i .u64] 2 x10], .cells 52 [.one [.i .u64 x11, .i .u64 x12]], .sli 39 false (.rows [.i .i64, .i .i64, .i .i64, .b] x13 x14), .sli 3 false (.arr .i64 x15 x16)]) qEq
theorem qQB (f : Nat) (x0 : Nat) (x1 x2 : Int) (x3 : Nat) (x4 x5 : Int) (x6 x7 : List Int) (x8 : Int) (x9 x10 : List (List Int)) (x11 x12 : Int) (x13 : Nat) (x14 : List (List Int)) (x15 : Nat) (x16 : List Int) : qEr (f + 1) x0 x1 x2 x3 x4 x5 x6 x7 x8 x9 x10 x11 x12 x13 x14 x15 x16 = qBr (qEr f) x0 x1 x2 x3 x4 x5 x6 x7 x8 x9 x10 x11 x12 x13 x14 x15 x16 := by kernel_rfl
theorem qI4 : ∀ f, qEr f = qAh f
 | 0 => rfl
 | f + 1 => by funext x0 x1 x2 x3 x4 x5 x6 x7 x8 x9 x10 x11 x12 x13 x14 x15 x16; rw [qQB, qI4 f]; rfl
def qEp (f : Nat) (x0 : Nat) (x1 x2 : Int) (x3 x4 : List Int) (x5 : Int) (x6 x7 : List (List Int)) (x8 x9 : Int) (x10 : Nat) (x11 : List (List Int)) : Option (Nat × List Int × List Int × Int × List (List Int) × List (List Int) × Nat × List (List Int)) := lrun qBp 1 [0, 3, 5, 6, 7] [5] (loopOf Tryz.f46 4) f ([.s (.ptr 0 0 none 0), .s (.ptr 1 0 none 0), .s (.sl 2 0 x0 true), .s (.i .i64 x1), .s (.i .i64 x2)]) ([.rcells 56 [.arr .i8 81 x3, .arr .i8 16 x4, .one [.i .i8 x5], .rows [.i .u64, .i .u64] 32 x6, .rows [.i .u64, .i .u64] 2 x7], .cells 52 [.one [.i .u64 x8, .i .u64 x9]], .sli 39 false (.rows [.i .i64, .i .i64, .i .i64, .b] x10 x11)]) qEo
theorem qQA (f : Nat) (x0 : Nat) (x1 x2 : Int) (x3 x4 : List Int) (x5 : Int) (x6 x7 : List (List Int)) (x8 x9 : Int) (x10 : Nat) (x11 : List (List Int)) : qEp (f + 1) x0 x1 x2 x3 x4 x5 x6 x7 x8 x9 x10 x11 = qBq (qEp f) x0 x1 x2 x3 x4 x5 x6 x7 x8 x9 x10 x11 := by kernel_rfl
theorem qI3 : ∀ f, qEp f = qAg f
 | 0 => rfl
 | f + 1 => by funext x0 x1 x2 x3 x4 x5 x6 x7 x8 x9 x10 x11; rw [qQA, qI3 f]; rfl
theorem qQF : LoopSound Tryz.prog qBp 1 (loopOf Tryz.f46 8) :=
 loopSound_by mixed qEn (AllP.of (l' := []) (by kernel_rfl) trivial) (q := 8) (kin := [0, 3, 5, 6, 7, 31, 32, 33]) (kout := [0, 3, 5, 6, 7]) (by kernel_rfl) (by kernel_rfl) fun vs objs K r h => by
  replace h : qEt vs objs K = some r := h
  unfold qEt at h
  split at h
  ·skip
   obtain ⟨t, h1, h2⟩ := ob_ok h
   rw [← qI4] at h1
   refine ⟨_, qEq, t, many, h1, fun e vs' objs' hd => ?_⟩
   unfold qEq at hd
   split at hd
   ·skip
    cases hd
    exact h2
   ·cases hd
  ·cases h
theorem qQE : LoopSound Tryz.prog qBp 1 (loopOf Tryz.f46 4) :=
 loopSound_by mixed qEn (AllP.of (l' := [loopOf Tryz.f46 8]) (by kernel_rfl) ⟨qQF, trivial⟩) (q := 4) (kin := [0, 3, 5, 6, 7]) (kout := [5]) (by kernel_rfl) (by kernel_rfl) fun vs objs K r h => by
  replace h : qEs vs objs K = some r := h
  unfold qEs at h
  split at h
  ·skip
   obtain ⟨t, h1, h2⟩ := ob_ok h
   rw [← qI3] at h1
   refine ⟨_, qEo, t, many, h1, fun e vs' objs' hd => ?_⟩
   unfold qEo at hd
   split at hd
   ·skip
    cases hd
    exact h2
   ·cases hd
  ·cases h
def qI2 : V → List Obj → Option (Nat × Nat × List (List Int)) := fun v objs => match v, objs with
 | .s (.sl 1 0 y0 true), [.sli 39 false (.rows [.i .i64, .i .i64, .i .i64, .b] y1 y2)] => some (y0, y1, y2)
 | _, _ => none
theorem qP9 (x0 x1 : Int) (x2 x3 : List Int) (x4 : Int) (x5 x6 : List (List Int)) : fnE qBp Tryz.f46 ([.s (.ptr 0 0 none 0), .agg [.one [.i .u64 x0, .i .u64 x1]]]) ([.rcells 56 [.arr .i8 81 x2, .arr .i8 16 x3, .one [.i .i8 x4], .rows [.i .u64, .i .u64] 32 x5, .rows [.i .u64, .i .u64] 2 x6]]) (pureD 1 qI2) = qCn x0 x1 x2 x3 x4 x5 x6 := by kernel_rfl
def qI1 {R : Type} (o : Orc) (vs : List V) (objs : List Obj) (K : Bool → V → List Obj → Option R) : Option R := match vs, List.map Obj.toRO objs with
 | [.s (.ptr 0 0 none 0), .agg [.one [.i .u64 x0, .i .u64 x1]]], [.rcells 56 [.arr .i8 81 x2, .arr .i8 16 x3, .one [.i .i8 x4], .rows [.i .u64, .i .u64] 32 x5, .rows [.i .u64, .i .u64] 2 x6]] => ob (qCn x0 x1 x2 x3 x4 x5 x6) fun z => K true (.s (.sl 1 0 (z.1) true)) ([.sli 39 false (.rows [.i .i64, .i .i64, .i .i64, .b] (z.2.1) (z.2.2))])
 | _, _ => o 46 vs objs K
def qI5 (o : Orc) : Orc := hook 46 (qI1 o) o
theorem qQD (o : Orc) (ho : OSound Tryz.prog o) : OSound Tryz.prog (qI5 o) := hook_ok ho fun vs objs K r h => by
 unfold qI1 at h
 split at h
 ·skip
  have hq : List.map Obj.toRO objs = _ := (by rename_i hq; first | exact hq | assumption)
  obtain ⟨t, h1, h2⟩ := ob_ok h
  refine purOK_by mixed qEn (m := 1) (fn := Tryz.f46) (b := (Tryz.f46).body.getD .skip) (by kernel_rfl) (by kernel_rfl) (by kernel_rfl) hq (by kernel_rfl) (by kernel_rfl) (AllP.of (l' := [loopOf Tryz.f46 4]) (by kernel_rfl) ⟨qQE, trivial⟩) ((qP9 _ _ _ _ _ _ _).trans h1) fun v objs' hd => ?_
  unfold qI2 at hd
  split at hd
  ·skip
   cases hd
   exact h2
  ·cases hd
 ·exact ho _ _ _ _ _ h
def qH0 : Ctx := mkC 7 (oNil) [] lpNil
theorem qPS : CtxOK Tryz.prog qH0 := mkC_ok (oNil_ok)
def qH1 : V → List Obj → Option (List Int × List Int × Int × List (List Int) × List (List Int)) := fun v objs => match v, objs with
 | .s (.ptr 1 0 none 0), [.cells 56 [.arr .i8 81 y0, .arr .i8 16 y1, .one [.i .i8 y2], .rows [.i .u64, .i .u64] 32 y3, .rows [.i .u64, .i .u64] 2 y4]] => some (y0, y1, y2, y3, y4)
 | _, _ => none
theorem qPR (x0 x1 : List Int) (x2 : Int) (x3 x4 : List (List Int)) : fnE qH0 Tryz.f98 ([.s (.ptr 0 0 none 0)]) ([.rcells 56 [.arr .i8 81 x0, .arr .i8 16 x1, .one [.i .i8 x2], .rows [.i .u64, .i .u64] 32 x3, .rows [.i .u64, .i .u64] 2 x4]]) (pureD 1 qH1) = qDM x0 x1 x2 x3 x4 := by kernel_rfl
def qHz {R : Type} (o : Orc) (vs : List V) (objs : List Obj) (K : Bool → V → List Obj → Option R) : Option R := match vs, List.map Obj.toRO objs with
 | [.s (.ptr 0 0 none 0)], [.rcells 56 [.arr .i8 81 x0, .arr .i8 16 x1, .one [.i .i8 x2], .rows [.i .u64, .i .u64] 32 x3, .rows [.i .u64, .i .u64] 2 x4]] => ob (qDM x0 x1 x2 x3 x4) fun z => K true (.s (.ptr 1 0 none 0)) ([.cells 56 [.arr .i8 81 (z.1), .arr .i8 16 (z.2.1), .one [.i .i8 (z.2.2.1)], .rows [.i .u64, .i .u64] 32 (z.2.2.2.1), .rows [.i .u64, .i .u64] 2 (z.2.2.2.2)]])
 | _, _ => o 98 vs objs K
def qH2 (o : Orc) : Orc := hook 98 (qHz o) o
theorem qPT (o : Orc) (ho : OSound Tryz.prog o) : OSound Tryz.prog (qH2 o) := hook_ok ho fun vs objs K r h => by
 unfold qHz at h
 split at h
 ·skip
  have hq : List.map Obj.toRO objs = _ := (by rename_i hq; first | exact hq | assumption)
  obtain ⟨t, h1, h2⟩ := ob_ok h
  refine purOK_by mixed qPS (m := 1) (fn := Tryz.f98) (b := (Tryz.f98).body.getD .skip) (by kernel_rfl) (by kernel_rfl) (by kernel_rfl) hq (by kernel_rfl) (by kernel_rfl) (AllP.of (l' := []) (by kernel_rfl) trivial) ((qPR _ _ _ _ _).trans h1) fun v objs' hd => ?_
  unfold qH1 at hd
  split at hd
  ·skip
   cases hd
   exact h2
  ·cases hd
 ·exact ho _ _ _ _ _ h
def qFJ : Ex → List V → List Obj → Option ((Bool × List Int × List Int × Int × List (List Int) × List (List Int)) ⊕ (List Int × List Int × Int × List (List Int) × List (List Int))) := fun e vs objs => match e, vs, objs with
 | .ret, [.s (.b y0)], [.rcells 56 [.arr .i8 81 y1, .arr .i8 16 y2, .one [.i .i8 y3], .rows [.i .u64, .i .u64] 32 y4, .rows [.i .u64, .i .u64] 2 y5]] => some (.inl (y0, y1, y2, y3, y4, y5))
 | .exit 0, [.s .bad], [.rcells 56 [.arr .i8 81 y0, .arr .i8 16 y1, .one [.i .i8 y2], .rows [.i .u64, .i .u64] 32 y3, .rows [.i .u64, .i .u64] 2 y4]] => some (.inr (y0, y1, y2, y3, y4))
 | _, _, _ => none
def qFL {R : Type} (vs : List V) (objs : List Obj) (K : Ex → List V → List Obj → Option R) : Option R := match vs, objs with
 | [.s (.ptr 1 0 none 0), .s (.sl 2 0 x0 true), .s (.i .i64 x1), .s (.i .i64 x2)], [.rcells 56 [.arr .i8 81 x3, .arr .i8 16 x4, .one [.i .i8 x5], .rows [.i .u64, .i .u64] 32 x6, .rows [.i .u64, .i .u64] 2 x7], .cells 79 [.one [.ptr 3 0 none 0, .i .i64 x8, .i .i64 x9, .i .u64 x10, .i .u64 x11, .mp 4, .b x12]], .sli 39 false (.rows [.i .i64, .i .i64, .i .i64, .b] x13 x14), .cells 56 [.arr .i8 81 x15, .arr .i8 16 x16, .one [.i .i8 x17], .rows [.i .u64, .i .u64] 32 x18, .rows [.i .u64, .i .u64] 2 x19], .map false true [.i .i64] [.i .u64, .i .u64] x20] => ob (qAk many x0 x1 x2 x3 x4 x5 x6 x7 x8 x9 x10 x11 x12 x13 x14 x15 x16 x17 x18 x19 x20) fun t0 => sw t0 (fun z => K (.ret) ([.s (.b (z.1))]) ([.rcells 56 [.arr .i8 81 (z.2.1), .arr .i8 16 (z.2.2.1), .one [.i .i8 (z.2.2.2.1)], .rows [.i .u64, .i .u64] 32 (z.2.2.2.2.1), .rows [.i .u64, .i .u64] 2 (z.2.2.2.2.2)]])) (fun z => K (.exit 0) ([.s .bad]) ([.rcells 56 [.arr .i8 81 (z.1), .arr .i8 16 (z.2.1), .one [.i .i8 (z.2.2.1)], .rows [.i .u64, .i .u64] 32 (z.2.2.2.1), .rows [.i .u64, .i .u64] 2 (z.2.2.2.2)]]))
 | _, _ => none
def qQs : {R : Type} → Nat → List V → List Obj → (Ex → List V → List Obj → Option R) → Option R := fun q vs objs K => bif Nat.beq q 11 then qFL vs objs K else none
def qDW : Ctx := mkC 74 ((qFN (qEk (qDC (qFM (qBW (qDK (qDR (qH2 (qBG (qBN oNil))))))))))) [(11, [7, 64, 65, 66], [4])] qQs
theorem qJo : CtxOK Tryz.prog qDW := mkC_ok ((qJz _ (qI0 _ (qDy _ (qJv _ (qCb _ (qEB _ (qEZ _ (qPT _ (qBh _ (qB3 _ oNil_ok)))))))))))
def qFK (f : Nat) (x0 : Nat) (x1 x2 : Int) (x3 x4 : List Int) (x5 : Int) (x6 x7 : List (List Int)) (x8 x9 : Int) (x10 x11 : Int) (x12 : Bool) (x13 : Nat) (x14 : List (List Int)) (x15 x16 : List Int) (x17 : Int) (x18 x19 : List (List Int)) (x20 : List (List Int × List Int)) : Option ((Bool × List Int × List Int × Int × List (List Int) × List (List Int)) ⊕ (List Int × List Int × Int × List (List Int) × List (List Int))) := lrun qDW 1 [7, 64, 65, 66] [4] (loopOf Tryz.f47 11) f ([.s (.ptr 1 0 none 0), .s (.sl 2 0 x0 true), .s (.i .i64 x1), .s (.i .i64 x2)]) ([.rcells 56 [.arr .i8 81 x3, .arr .i8 16 x4, .one [.i .i8 x5], .rows [.i .u64, .i .u64] 32 x6, .rows [.i .u64, .i .u64] 2 x7], .cells 79 [.one [.ptr 3 0 none 0, .i .i64 x8, .i .i64 x9, .i .u64 x10, .i .u64 x11, .mp 4, .b x12]], .sli 39 false (.rows [.i .i64, .i .i64, .i .i64, .b] x13 x14), .cells 56 [.arr .i8 81 x15, .arr .i8 16 x16, .one [.i .i8 x17], .rows [.i .u64, .i .u64] 32 x18, .rows [.i .u64, .i .u64] 2 x19], .map false true [.i .i64] [.i .u64, .i .u64] x20]) qFJ
theorem qQr (f : Nat) (x0 : Nat) (x1 x2 : Int) (x3 x4 : List Int) (x5 : Int) (x6 x7 : List (List Int)) (x8 x9 : Int) (x10 x11 : Int) (x12 : Bool) (x13 : Nat) (x14 : List (List Int)) (x15 x16 : List Int) (x17 : Int) (x18 x19 : List (List Int)) (x20 : List (List Int × List Int)) : qFK (f + 1) x0 x1 x2 x3 x4 x5 x6 x7 x8 x9 x10 x11 x12 x13 x14 x15 x16 x17 x18 x19 x20 = qBw (qFK f) x0 x1 x2 x3 x4 x5 x6 x7 x8 x9 x10 x11 x12 x13 x14 x15 x16 x17 x18 x19 x20 := by kernel_rfl
theorem qJq : ∀ f, qFK f = qAk f
 | 0 => rfl
 | f + 1 => by funext x0 x1 x2 x3 x4 x5 x6 x7 x8 x9 x10 x11 x12 x13 x14 x15 x16 x17 x18 x19 x20; rw [qQr, qJq f]; rfl
theorem qQu : LoopSound Tryz.prog qDW 1 (loopOf Tryz.f47 11) :=
 loopSound_by mixed qJo (AllP.of (l' := []) (by kernel_rfl) trivial) (q := 11) (kin := [7, 64, 65, 66]) (kout := [4]) (by kernel_rfl) (by kernel_rfl) fun vs objs K r h => by
  replace h : qFL vs objs K = some r := h
  unfold qFL at h
  split at h
  ·skip
   obtain ⟨t, h1, h2⟩ := ob_ok h
   rw [← qJq] at h1
   refine ⟨_, qFJ, t, many, h1, fun e vs' objs' hd => ?_⟩
   unfold qFJ at hd
   split at hd
   ·skip
    cases hd
    exact h2
   ·skip
    cases hd
    exact h2
   ·cases hd
  ·cases h
def qJp : V → List Obj → Option (Bool) := fun v objs => match v, objs with
 | .s (.b y0), [] => some (y0)
 | _, _ => none
theorem qQq (x0 : Int) (x1 x2 : List Int) (x3 : Int) (x4 x5 : List (List Int)) : fnE qDW Tryz.f47 ([.s (.ptr 0 0 none 0), .s (.i .i64 x0)]) ([.rcells 56 [.arr .i8 81 x1, .arr .i8 16 x2, .one [.i .i8 x3], .rows [.i .u64, .i .u64] 32 x4, .rows [.i .u64, .i .u64] 2 x5]]) (pureD 1 qJp) = qCr x0 x1 x2 x3 x4 x5 := by kernel_rfl
def qJn {R : Type} (o : Orc) (vs : List V) (objs : List Obj) (K : Bool → V → List Obj → Option R) : Option R := match vs, List.map Obj.toRO objs with
 | [.s (.ptr 0 0 none 0), .s (.i .i64 x0)], [.rcells 56 [.arr .i8 81 x1, .arr .i8 16 x2, .one [.i .i8 x3], .rows [.i .u64, .i .u64] 32 x4, .rows [.i .u64, .i .u64] 2 x5]] => ob (qCr x0 x1 x2 x3 x4 x5) fun y0 => K true (.s (.b y0)) ([])
 | _, _ => o 47 vs objs K
def qJr (o : Orc) : Orc := hook 47 (qJn o) o
theorem qQt (o : Orc) (ho : OSound Tryz.prog o) : OSound Tryz.prog (qJr o) := hook_ok ho fun vs objs K r h => by
 unfold qJn at h
 split at h
 ·skip
  have hq : List.map Obj.toRO objs = _ := (by rename_i hq; first | exact hq | assumption)
  obtain ⟨t, h1, h2⟩ := ob_ok h
  refine purOK_by mixed qJo (m := 1) (fn := Tryz.f47) (b := (Tryz.f47).body.getD .skip) (by kernel_rfl) (by kernel_rfl) (by kernel_rfl) hq (by kernel_rfl) (by kernel_rfl) (AllP.of (l' := [loopOf Tryz.f47 11]) (by kernel_rfl) ⟨qQu, trivial⟩) ((qQq _ _ _ _ _ _).trans h1) fun v objs' hd => ?_
  unfold qJp at hd
  split at hd
  ·skip
   cases hd
   exact h2
  ·cases hd
 ·exact ho _ _ _ _ _ h
def qFE : Ex → List V → List Obj → Option (Nat × List Int × List Int × Int × List (List Int) × List (List Int) × Int × Int × Int × Int × Bool × Nat × List (List Int) × List (List Int × List Int)) := fun e vs objs => match e, vs, objs with
 | .exit 0, [.s (.ptr 0 0 none 0), .s (.ptr 1 0 none 0), .s (.sl 2 0 y0 true)], [.cells 56 [.arr .i8 81 y1, .arr .i8 16 y2, .one [.i .i8 y3], .rows [.i .u64, .i .u64] 32 y4, .rows [.i .u64, .i .u64] 2 y5], .cells 79 [.one [.ptr 0 0 none 0, .i .i64 y6, .i .i64 y7, .i .u64 y8, .i .u64 y9, .mp 3, .b y10]], .sli 39 false (.rows [.i .i64, .i .i64, .i .i64, .b] y11 y12), .map false true [.i .i64] [.i .u64, .i .u64] y13] => some (y0, y1, y2, y3, y4, y5, y6, y7, y8, y9, y10, y11, y12, y13)
 | _, _, _ => none
def qFC : Ex → List V → List Obj → Option (Nat × List Int × List Int × Int × List (List Int) × List (List Int) × Nat × List (List Int)) := fun e vs objs => match e, vs, objs with
 | .exit 2, [.s (.sl 1 0 y0 true)], [.cells 56 [.arr .i8 81 y1, .arr .i8 16 y2, .one [.i .i8 y3], .rows [.i .u64, .i .u64] 32 y4, .rows [.i .u64, .i .u64] 2 y5], .sli 39 false (.rows [.i .i64, .i .i64, .i .i64, .b] y6 y7)] => some (y0, y1, y2, y3, y4, y5, y6, y7)
 | _, _, _ => none
def qFI {R : Type} (vs : List V) (objs : List Obj) (K : Ex → List V → List Obj → Option R) : Option R := match vs, objs with
 | [.s (.ptr 0 0 none 0), .s (.ptr 1 0 none 0), .s (.sl 2 0 x0 true), .s (.sl 3 0 x1 true), .s (.i .i64 x2), .s (.i .i64 x3)], [.cells 56 [.arr .i8 81 x4, .arr .i8 16 x5, .one [.i .i8 x6], .rows [.i .u64, .i .u64] 32 x7, .rows [.i .u64, .i .u64] 2 x8], .cells 79 [.one [.ptr 0 0 none 0, .i .i64 x9, .i .i64 x10, .i .u64 x11, .i .u64 x12, .mp 4, .b x13]], .sli 39 false (.rows [.i .i64, .i .i64, .i .i64, .b] x14 x15), .sli 39 false (.rows [.i .i64, .i .i64, .i .i64, .b] x16 x17), .map false true [.i .i64] [.i .u64, .i .u64] x18] => ob (qAj many x0 x1 x2 x3 x4 x5 x6 x7 x8 x9 x10 x11 x12 x13 x14 x15 x16 x17 x18) fun z => K (.exit 0) ([.s (.ptr 0 0 none 0), .s (.ptr 1 0 none 0), .s (.sl 2 0 (z.1) true)]) ([.cells 56 [.arr .i8 81 (z.2.1), .arr .i8 16 (z.2.2.1), .one [.i .i8 (z.2.2.2.1)], .rows [.i .u64, .i .u64] 32 (z.2.2.2.2.1), .rows [.i .u64, .i .u64] 2 (z.2.2.2.2.2.1)], .cells 79 [.one [.ptr 0 0 none 0, .i .i64 (z.2.2.2.2.2.2.1), .i .i64 (z.2.2.2.2.2.2.2.1), .i .u64 (z.2.2.2.2.2.2.2.2.1), .i .u64 (z.2.2.2.2.2.2.2.2.2.1), .mp 3, .b (z.2.2.2.2.2.2.2.2.2.2.1)]], .sli 39 false (.rows [.i .i64, .i .i64, .i .i64, .b] (z.2.2.2.2.2.2.2.2.2.2.2.1) (z.2.2.2.2.2.2.2.2.2.2.2.2.1)), .map false true [.i .i64] [.i .u64, .i .u64] (z.2.2.2.2.2.2.2.2.2.2.2.2.2)])
 | _, _ => none
def qFH {R : Type} (vs : List V) (objs : List Obj) (K : Ex → List V → List Obj → Option R) : Option R := match vs, objs with
 | [.s (.ptr 0 0 none 0), .s (.sl 1 0 x0 true), .s (.sl 2 0 x1 true), .s (.i .i64 x2), .s (.i .i64 x3)], [.cells 56 [.arr .i8 81 x4, .arr .i8 16 x5, .one [.i .i8 x6], .rows [.i .u64, .i .u64] 32 x7, .rows [.i .u64, .i .u64] 2 x8], .sli 39 false (.rows [.i .i64, .i .i64, .i .i64, .b] x9 x10), .sli 39 false (.rows [.i .i64, .i .i64, .i .i64, .b] x11 x12)] => ob (qAP many x0 x1 x2 x3 x4 x5 x6 x7 x8 x9 x10 x11 x12) fun z => K (.exit 2) ([.s (.sl 1 0 (z.1) true)]) ([.cells 56 [.arr .i8 81 (z.2.1), .arr .i8 16 (z.2.2.1), .one [.i .i8 (z.2.2.2.1)], .rows [.i .u64, .i .u64] 32 (z.2.2.2.2.1), .rows [.i .u64, .i .u64] 2 (z.2.2.2.2.2.1)], .sli 39 false (.rows [.i .i64, .i .i64, .i .i64, .b] (z.2.2.2.2.2.2.1) (z.2.2.2.2.2.2.2))])
 | _, _ => none
def qQn : {R : Type} → Nat → List V → List Obj → (Ex → List V → List Obj → Option R) → Option R := fun q vs objs K => bif Nat.beq q 4 then qFI vs objs K else bif Nat.beq q 10 then qFH vs objs K else none
def qBt : Ctx := mkC 51 ((qJr (qI5 (qFN (qEk (qDC (qFM oNil))))))) [(4, [0, 3, 4, 13, 14, 15], [0, 3, 4]), (10, [0, 4, 30, 31, 32], [4])] qQn
theorem qFB : CtxOK Tryz.prog qBt := mkC_ok ((qQt _ (qQD _ (qJz _ (qI0 _ (qDy _ (qJv _ oNil_ok)))))))
def qFF (f : Nat) (x0 x1 : Nat) (x2 x3 : Int) (x4 x5 : List Int) (x6 : Int) (x7 x8 : List (List Int)) (x9 x10 : Int) (x11 x12 : Int) (x13 : Bool) (x14 : Nat) (x15 : List (List Int)) (x16 : Nat) (x17 : List (List Int)) (x18 : List (List Int × List Int)) : Option (Nat × List Int × List Int × Int × List (List Int) × List (List Int) × Int × Int × Int × Int × Bool × Nat × List (List Int) × List (List Int × List Int)) := lrun qBt 1 [0, 3, 4, 13, 14, 15] [0, 3, 4] (loopOf Tryz.f26 4) f ([.s (.ptr 0 0 none 0), .s (.ptr 1 0 none 0), .s (.sl 2 0 x0 true), .s (.sl 3 0 x1 true), .s (.i .i64 x2), .s (.i .i64 x3)]) ([.cells 56 [.arr .i8 81 x4, .arr .i8 16 x5, .one [.i .i8 x6], .rows [.i .u64, .i .u64] 32 x7, .rows [.i .u64, .i .u64] 2 x8], .cells 79 [.one [.ptr 0 0 none 0, .i .i64 x9, .i .i64 x10, .i .u64 x11, .i .u64 x12, .mp 4, .b x13]], .sli 39 false (.rows [.i .i64, .i .i64, .i .i64, .b] x14 x15), .sli 39 false (.rows [.i .i64, .i .i64, .i .i64, .b] x16 x17), .map false true [.i .i64] [.i .u64, .i .u64] x18]) qFE
theorem qQm (f : Nat) (x0 x1 : Nat) (x2 x3 : Int) (x4 x5 : List Int) (x6 : Int) (x7 x8 : List (List Int)) (x9 x10 : Int) (x11 x12 : Int) (x13 : Bool) (x14 : Nat) (x15 : List (List Int)) (x16 : Nat) (x17 : List (List Int)) (x18 : List (List Int × List Int)) : qFF (f + 1) x0 x1 x2 x3 x4 x5 x6 x7 x8 x9 x10 x11 x12 x13 x14 x15 x16 x17 x18 = qBv (qFF f) x0 x1 x2 x3 x4 x5 x6 x7 x8 x9 x10 x11 x12 x13 x14 x15 x16 x17 x18 := by kernel_rfl
theorem qJl : ∀ f, qFF f = qAj f
 | 0 => rfl
 | f + 1 => by funext x0 x1 x2 x3 x4 x5 x6 x7 x8 x9 x10 x11 x12 x13 x14 x15 x16 x17 x18; rw [qQm, qJl f]; rfl
def qFD (f : Nat) (x0 x1 : Nat) (x2 x3 : Int) (x4 x5 : List Int) (x6 : Int) (x7 x8 : List (List Int)) (x9 : Nat) (x10 : List (List Int)) (x11 : Nat) (x12 : List (List Int)) : Option (Nat × List Int × List Int × Int × List (List Int) × List (List Int) × Nat × List (List Int)) := lrun qBt 1 [0, 4, 30, 31, 32] [4] (loopOf Tryz.f26 10) f ([.s (.ptr 0 0 none 0), .s (.sl 1 0 x0 true), .s (.sl 2 0 x1 true), .s (.i .i64 x2), .s (.i .i64 x3)]) ([.cells 56 [.arr .i8 81 x4, .arr .i8 16 x5, .one [.i .i8 x6], .rows [.i .u64, .i .u64] 32 x7, .rows [.i .u64, .i .u64] 2 x8], .sli 39 false (.rows [.i .i64, .i .i64, .i .i64, .b] x9 x10), .sli 39 false (.rows [.i .i64, .i .i64, .i .i64, .b] x11 x12)]) qFC
theorem qQl (f : Nat) (x0 x1 : Nat) (x2 x3 : Int) (x4 x5 : List Int) (x6 : Int) (x7 x8 : List (List Int)) (x9 : Nat) (x10 : List (List Int)) (x11 : Nat) (x12 : List (List Int)) : qFD (f + 1) x0 x1 x2 x3 x4 x5 x6 x7 x8 x9 x10 x11 x12 = qBu (qFD f) x0 x1 x2 x3 x4 x5 x6 x7 x8 x9 x10 x11 x12 := by kernel_rfl
theorem qJk : ∀ f, qFD f = qAP f
 | 0 => rfl
 | f + 1 => by funext x0 x1 x2 x3 x4 x5 x6 x7 x8 x9 x10 x11 x12; rw [qQl, qJk f]; rfl
theorem qQp : LoopSound Tryz.prog qBt 1 (loopOf Tryz.f26 4) :=
 loopSound_by mixed qFB (AllP.of (l' := []) (by kernel_rfl) trivial) (q := 4) (kin := [0, 3, 4, 13, 14, 15]) (kout := [0, 3, 4]) (by kernel_rfl) (by kernel_rfl) fun vs objs K r h => by
  replace h : qFI vs objs K = some r := h
  unfold qFI at h
  split at h
  ·skip
   obtain ⟨t, h1, h2⟩ := ob_ok h
   rw [← qJl] at h1
   refine ⟨_, qFE, t, many, h1, fun e vs' objs' hd => ?_⟩
   unfold qFE at hd
   split at hd
   ·skip
    cases hd
    exact h2
   ·cases hd
  ·cases h
theorem qQo : LoopSound Tryz.prog qBt 1 (loopOf Tryz.f26 10) :=
 loopSound_by mixed qFB (AllP.of (l' := []) (by kernel_rfl) trivial) (q := 10) (kin := [0, 4, 30, 31, 32]) (kout := [4]) (by kernel_rfl) (by kernel_rfl) fun vs objs K r h => by
  replace h : qFH vs objs K = some r := h
  unfold qFH at h
  split at h
  ·skip
   obtain ⟨t, h1, h2⟩ := ob_ok h
   rw [← qJk] at h1
   refine ⟨_, qFC, t, many, h1, fun e vs' objs' hd => ?_⟩
   unfold qFC at hd
   split at hd
   ·skip
    cases hd
    exact h2
   ·cases hd
  ·cases h
def qJj : V → List Obj → Option (Nat × List Int × List Int × Int × List (List Int) × List (List Int) × Nat × List (List Int)) := fun v objs => match v, objs with
 | .s (.sl 1 0 y0 true), [.cells 56 [.arr .i8 81 y1, .arr .i8 16 y2, .one [.i .i8 y3], .rows [.i .u64, .i .u64] 32 y4, .rows [.i .u64, .i .u64] 2 y5], .sli 39 false (.rows [.i .i64, .i .i64, .i .i64, .b] y6 y7)] => some (y0, y1, y2, y3, y4, y5, y6, y7)
 | _, _ => none
theorem qQk (x0 x1 : List Int) (x2 : Int) (x3 x4 : List (List Int)) : fnE qBt Tryz.f26 ([.s (.ptr 0 0 none 0)]) ([.cells 56 [.arr .i8 81 x0, .arr .i8 16 x1, .one [.i .i8 x2], .rows [.i .u64, .i .u64] 32 x3, .rows [.i .u64, .i .u64] 2 x4]]) qJj = qBJ x0 x1 x2 x3 x4 := by kernel_rfl
def qJi {R : Type} (o : Orc) (vs : List V) (objs : List Obj) (K : Bool → V → List Obj → Option R) : Option R := match vs, objs with
 | [.s (.ptr 0 0 none 0)], [.cells 56 [.arr .i8 81 x0, .arr .i8 16 x1, .one [.i .i8 x2], .rows [.i .u64, .i .u64] 32 x3, .rows [.i .u64, .i .u64] 2 x4]] => ob (qBJ x0 x1 x2 x3 x4) fun z => K false (.s (.sl 1 0 (z.1) true)) ([.cells 56 [.arr .i8 81 (z.2.1), .arr .i8 16 (z.2.2.1), .one [.i .i8 (z.2.2.2.1)], .rows [.i .u64, .i .u64] 32 (z.2.2.2.2.1), .rows [.i .u64, .i .u64] 2 (z.2.2.2.2.2.1)], .sli 39 false (.rows [.i .i64, .i .i64, .i .i64, .b] (z.2.2.2.2.2.2.1) (z.2.2.2.2.2.2.2))])
 | _, _ => o 26 vs objs K
def qFG (o : Orc) : Orc := hook 26 (qJi o) o
theorem qJm (o : Orc) (ho : OSound Tryz.prog o) : OSound Tryz.prog (qFG o) := hook_ok ho fun vs objs K r h => by
 unfold qJi at h
 split at h
 ·skip
  obtain ⟨t, h1, h2⟩ := ob_ok h
  refine anyOK_of mixed qFB (fn := Tryz.f26) (b := (Tryz.f26).body.getD .skip) (by kernel_rfl) (by kernel_rfl) (by kernel_rfl) ((qQk _ _ _ _ _).trans h1) (m := 1) rfl (AllP.of (l' := [loopOf Tryz.f26 4, loopOf Tryz.f26 10]) (by kernel_rfl) ⟨qQp, qQo, trivial⟩) fun v objs' hd => ?_
  unfold qJj at hd
  split at hd
  ·skip
   cases hd
   exact h2
  ·cases hd
 ·exact ho _ _ _ _ _ h
def qKM : Ctx := mkC 48 (oNil) [] lpNil
theorem qRG : CtxOK Tryz.prog qKM := mkC_ok (oNil_ok)
def qKN : V → List Obj → Option (Int) := fun v objs => match v, objs with
 | .s (.i .i64 y0), [] => some (y0)
 | _, _ => none
theorem qRF (x0 x1 x2 : Int) (x3 : Bool) : fnE qKM Tryz.f107 ([.agg [.one [.i .i64 x0, .i .i64 x1, .i .i64 x2, .b x3]]]) ([]) qKN = qBM x0 x1 x2 x3 := by kernel_rfl
def qKL {R : Type} (o : Orc) (vs : List V) (objs : List Obj) (K : Bool → V → List Obj → Option R) : Option R := match vs, objs with
 | [.agg [.one [.i .i64 x0, .i .i64 x1, .i .i64 x2, .b x3]]], [] => ob (qBM x0 x1 x2 x3) fun y0 => K false (.s (.i .i64 y0)) ([])
 | _, _ => o 107 vs objs K
def qKO (o : Orc) : Orc := hook 107 (qKL o) o
theorem qRH (o : Orc) (ho : OSound Tryz.prog o) : OSound Tryz.prog (qKO o) := hook_ok ho fun vs objs K r h => by
 unfold qKL at h
 split at h
 ·skip
  obtain ⟨t, h1, h2⟩ := ob_ok h
  refine anyOK_of mixed qRG (fn := Tryz.f107) (b := (Tryz.f107).body.getD .skip) (by kernel_rfl) (by kernel_rfl) (by kernel_rfl) ((qRF _ _ _ _).trans h1) (m := 0) rfl (AllP.of (l' := []) (by kernel_rfl) trivial) fun v objs' hd => ?_
  unfold qKN at hd
  split at hd
  ·skip
   cases hd
   exact h2
  ·cases hd
 ·exact ho _ _ _ _ _ h
end
end Go.Kk.KkMS
