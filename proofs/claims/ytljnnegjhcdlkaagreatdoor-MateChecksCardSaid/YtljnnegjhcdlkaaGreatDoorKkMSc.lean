/- Printed by a tool of this project (KkGen): the program's functions come to the plain ones. -/
import Derived.Test.YtljnnegjhcdlkaaGreatDoorKkMSb
namespace Go.Kk.KkMS
noncomputable section
open Go.Proofs Go.Kk.Pl
set_option maxRecDepth 100000
set_option maxHeartbeats 4000000
def qIZ : Ctx := mkC 104 ((qDa (qi (qBO (qBG (qDN (qKO oNil))))))) [] lpNil
theorem qPr : CtxOK Tryz.prog qIZ := mkC_ok ((qFY _ (qz _ (qB4 _ (qBh _ (qES _ (qRH _ oNil_ok)))))))
def qIa : V → List Obj → Option (Bool) := fun v objs => match v, objs with
 | .s (.b y0), [] => some (y0)
 | _, _ => none
theorem qPq (x0 x1 x2 : Int) (x3 : Bool) (x4 : Int) (x5 : Nat) (x6 x7 : List Int) (x8 : Int) (x9 x10 : List (List Int)) (x11 : Nat) (x12 : List (List Int)) : fnE qIZ Tryz.f67 ([.s (.ptr 0 0 none 0), .agg [.one [.i .i64 x0, .i .i64 x1, .i .i64 x2, .b x3]]]) ([.rcells 50 [.one [.ptr 1 0 none 0, .i .u64 x4, .sl 2 0 x5 true]], .rcells 56 [.arr .i8 81 x6, .arr .i8 16 x7, .one [.i .i8 x8], .rows [.i .u64, .i .u64] 32 x9, .rows [.i .u64, .i .u64] 2 x10], .sli 92 true (.rows [.i .i64, .i .i64, .i .i64, .b, .i .i8, .i .i8] x11 x12)]) (pureD 3 qIa) = qr x0 x1 x2 x3 x4 x5 x6 x7 x8 x9 x10 x11 x12 := by kernel_rfl
def qIY {R : Type} (o : Orc) (vs : List V) (objs : List Obj) (K : Bool → V → List Obj → Option R) : Option R := match vs, List.map Obj.toRO objs with
 | [.s (.ptr 0 0 none 0), .agg [.one [.i .i64 x0, .i .i64 x1, .i .i64 x2, .b x3]]], [.rcells 50 [.one [.ptr 1 0 none 0, .i .u64 x4, .sl 2 0 x5 true]], .rcells 56 [.arr .i8 81 x6, .arr .i8 16 x7, .one [.i .i8 x8], .rows [.i .u64, .i .u64] 32 x9, .rows [.i .u64, .i .u64] 2 x10], .sli 92 true (.rows [.i .i64, .i .i64, .i .i64, .b, .i .i8, .i .i8] x11 x12)] => ob (qr x0 x1 x2 x3 x4 x5 x6 x7 x8 x9 x10 x11 x12) fun y0 => K true (.s (.b y0)) ([])
 | _, _ => o 67 vs objs K
def qIb (o : Orc) : Orc := hook 67 (qIY o) o
theorem qPs (o : Orc) (ho : OSound Tryz.prog o) : OSound Tryz.prog (qIb o) := hook_ok ho fun vs objs K r h => by
 unfold qIY at h
 split at h
 ·skip
  have hq : List.map Obj.toRO objs = _ := (by rename_i hq; first | exact hq | assumption)
  obtain ⟨t, h1, h2⟩ := ob_ok h
  refine purOK_by mixed qPr (m := 3) (fn := Tryz.f67) (b := (Tryz.f67).body.getD .skip) (by kernel_rfl) (by kernel_rfl) (by kernel_rfl) hq (by kernel_rfl) (by kernel_rfl) (AllP.of (l' := []) (by kernel_rfl) trivial) ((qPq _ _ _ _ _ _ _ _ _ _ _ _ _).trans h1) fun v objs' hd => ?_
  unfold qIa at hd
  split at hd
  ·skip
   cases hd
   exact h2
  ·cases hd
 ·exact ho _ _ _ _ _ h
def qIh : Ctx := mkC 54 ((qEx (qDN oNil))) [] lpNil
theorem qPw : CtxOK Tryz.prog qIh := mkC_ok ((qJI _ (qES _ oNil_ok)))
def qIi : V → List Obj → Option (Int × Nat × List Int × List Int × Int × List (List Int) × List (List Int) × Nat × List (List Int)) := fun v objs => match v, objs with
 | .tup [], [.cells 50 [.one [.ptr 1 0 none 0, .i .u64 y0, .sl 2 0 y1 true]], .cells 56 [.arr .i8 81 y2, .arr .i8 16 y3, .one [.i .i8 y4], .rows [.i .u64, .i .u64] 32 y5, .rows [.i .u64, .i .u64] 2 y6], .sli 92 false (.rows [.i .i64, .i .i64, .i .i64, .b, .i .i8, .i .i8] y7 y8)] => some (y0, y1, y2, y3, y4, y5, y6, y7, y8)
 | _, _ => none
theorem qPv (x0 x1 : Int) (x2 x3 : Int) (x4 : Nat) (x5 x6 : List Int) (x7 : Int) (x8 x9 : List (List Int)) (x10 : Nat) (x11 : List (List Int)) : fnE qIh Tryz.f70 ([.s (.ptr 0 0 none 0), .s (.i .i64 x0), .s (.i .i64 x1), .s (.i .i64 x2)]) ([.cells 50 [.one [.ptr 1 0 none 0, .i .u64 x3, .sl 2 0 x4 true]], .cells 56 [.arr .i8 81 x5, .arr .i8 16 x6, .one [.i .i8 x7], .rows [.i .u64, .i .u64] 32 x8, .rows [.i .u64, .i .u64] 2 x9], .sli 92 false (.rows [.i .i64, .i .i64, .i .i64, .b, .i .i8, .i .i8] x10 x11)]) qIi = qh x0 x1 x2 x3 x4 x5 x6 x7 x8 x9 x10 x11 := by kernel_rfl
def qIg {R : Type} (o : Orc) (vs : List V) (objs : List Obj) (K : Bool → V → List Obj → Option R) : Option R := match vs, objs with
 | [.s (.ptr 0 0 none 0), .s (.i .i64 x0), .s (.i .i64 x1), .s (.i .i64 x2)], [.cells 50 [.one [.ptr 1 0 none 0, .i .u64 x3, .sl 2 0 x4 true]], .cells 56 [.arr .i8 81 x5, .arr .i8 16 x6, .one [.i .i8 x7], .rows [.i .u64, .i .u64] 32 x8, .rows [.i .u64, .i .u64] 2 x9], .sli 92 false (.rows [.i .i64, .i .i64, .i .i64, .b, .i .i8, .i .i8] x10 x11)] => ob (qh x0 x1 x2 x3 x4 x5 x6 x7 x8 x9 x10 x11) fun z => K false (.tup []) ([.cells 50 [.one [.ptr 1 0 none 0, .i .u64 (z.1), .sl 2 0 (z.2.1) true]], .cells 56 [.arr .i8 81 (z.2.2.1), .arr .i8 16 (z.2.2.2.1), .one [.i .i8 (z.2.2.2.2.1)], .rows [.i .u64, .i .u64] 32 (z.2.2.2.2.2.1), .rows [.i .u64, .i .u64] 2 (z.2.2.2.2.2.2.1)], .sli 92 false (.rows [.i .i64, .i .i64, .i .i64, .b, .i .i8, .i .i8] (z.2.2.2.2.2.2.2.1) (z.2.2.2.2.2.2.2.2))])
 | _, _ => o 70 vs objs K
def qEb (o : Orc) : Orc := hook 70 (qIg o) o
theorem qIj (o : Orc) (ho : OSound Tryz.prog o) : OSound Tryz.prog (qEb o) := hook_ok ho fun vs objs K r h => by
 unfold qIg at h
 split at h
 ·skip
  obtain ⟨t, h1, h2⟩ := ob_ok h
  refine anyOK_of mixed qPw (fn := Tryz.f70) (b := (Tryz.f70).body.getD .skip) (by kernel_rfl) (by kernel_rfl) (by kernel_rfl) ((qPv _ _ _ _ _ _ _ _ _ _ _ _).trans h1) (m := 3) rfl (AllP.of (l' := []) (by kernel_rfl) trivial) fun v objs' hd => ?_
  unfold qIi at hd
  split at hd
  ·skip
   cases hd
   exact h2
  ·cases hd
 ·exact ho _ _ _ _ _ h
def qIl : Ctx := mkC 32 ((qDR (qE7 (qBG oNil)))) [] lpNil
theorem qPy : CtxOK Tryz.prog qIl := mkC_ok ((qEZ _ (qJS _ (qBh _ oNil_ok))))
def qIm : V → List Obj → Option (Int × Nat × List Int × List Int × Int × List (List Int) × List (List Int) × Nat × List (List Int)) := fun v objs => match v, objs with
 | .tup [], [.cells 50 [.one [.ptr 1 0 none 0, .i .u64 y0, .sl 2 0 y1 true]], .cells 56 [.arr .i8 81 y2, .arr .i8 16 y3, .one [.i .i8 y4], .rows [.i .u64, .i .u64] 32 y5, .rows [.i .u64, .i .u64] 2 y6], .sli 92 false (.rows [.i .i64, .i .i64, .i .i64, .b, .i .i8, .i .i8] y7 y8)] => some (y0, y1, y2, y3, y4, y5, y6, y7, y8)
 | _, _ => none
theorem qPx (x0 x1 x2 : Int) (x3 : Nat) (x4 x5 : List Int) (x6 : Int) (x7 x8 : List (List Int)) (x9 : Nat) (x10 : List (List Int)) : fnE qIl Tryz.f71 ([.s (.ptr 0 0 none 0), .s (.i .i64 x0), .s (.i .i8 x1)]) ([.cells 50 [.one [.ptr 1 0 none 0, .i .u64 x2, .sl 2 0 x3 true]], .cells 56 [.arr .i8 81 x4, .arr .i8 16 x5, .one [.i .i8 x6], .rows [.i .u64, .i .u64] 32 x7, .rows [.i .u64, .i .u64] 2 x8], .sli 92 false (.rows [.i .i64, .i .i64, .i .i64, .b, .i .i8, .i .i8] x9 x10)]) qIm = qI x0 x1 x2 x3 x4 x5 x6 x7 x8 x9 x10 := by kernel_rfl
def qIk {R : Type} (o : Orc) (vs : List V) (objs : List Obj) (K : Bool → V → List Obj → Option R) : Option R := match vs, objs with
 | [.s (.ptr 0 0 none 0), .s (.i .i64 x0), .s (.i .i8 x1)], [.cells 50 [.one [.ptr 1 0 none 0, .i .u64 x2, .sl 2 0 x3 true]], .cells 56 [.arr .i8 81 x4, .arr .i8 16 x5, .one [.i .i8 x6], .rows [.i .u64, .i .u64] 32 x7, .rows [.i .u64, .i .u64] 2 x8], .sli 92 false (.rows [.i .i64, .i .i64, .i .i64, .b, .i .i8, .i .i8] x9 x10)] => ob (qI x0 x1 x2 x3 x4 x5 x6 x7 x8 x9 x10) fun z => K false (.tup []) ([.cells 50 [.one [.ptr 1 0 none 0, .i .u64 (z.1), .sl 2 0 (z.2.1) true]], .cells 56 [.arr .i8 81 (z.2.2.1), .arr .i8 16 (z.2.2.2.1), .one [.i .i8 (z.2.2.2.2.1)], .rows [.i .u64, .i .u64] 32 (z.2.2.2.2.2.1), .rows [.i .u64, .i .u64] 2 (z.2.2.2.2.2.2.1)], .sli 92 false (.rows [.i .i64, .i .i64, .i .i64, .b, .i .i8, .i .i8] (z.2.2.2.2.2.2.2.1) (z.2.2.2.2.2.2.2.2))])
 | _, _ => o 71 vs objs K
def qEc (o : Orc) : Orc := hook 71 (qIk o) o
theorem qIn (o : Orc) (ho : OSound Tryz.prog o) : OSound Tryz.prog (qEc o) := hook_ok ho fun vs objs K r h => by
 unfold qIk at h
 split at h
 ·skip
  obtain ⟨t, h1, h2⟩ := ob_ok h
  refine anyOK_of mixed qPy (fn := Tryz.f71) (b := (Tryz.f71).body.getD .skip) (by kernel_rfl) (by kernel_rfl) (by kernel_rfl) ((qPx _ _ _ _ _ _ _ _ _ _ _).trans h1) (m := 3) rfl (AllP.of (l' := []) (by kernel_rfl) trivial) fun v objs' hd => ?_
  unfold qIm at hd
  split at hd
  ·skip
   cases hd
   exact h2
  ·cases hd
 ·exact ho _ _ _ _ _ h
def qIp : Ctx := mkC 26 ((qE8 oNil)) [] lpNil
theorem qP0 : CtxOK Tryz.prog qIp := mkC_ok ((qJW _ oNil_ok))
def qIq : V → List Obj → Option (Int × Nat × List Int × List Int × Int × List (List Int) × List (List Int) × Nat × List (List Int)) := fun v objs => match v, objs with
 | .tup [], [.cells 50 [.one [.ptr 1 0 none 0, .i .u64 y0, .sl 2 0 y1 true]], .cells 56 [.arr .i8 81 y2, .arr .i8 16 y3, .one [.i .i8 y4], .rows [.i .u64, .i .u64] 32 y5, .rows [.i .u64, .i .u64] 2 y6], .sli 92 false (.rows [.i .i64, .i .i64, .i .i64, .b, .i .i8, .i .i8] y7 y8)] => some (y0, y1, y2, y3, y4, y5, y6, y7, y8)
 | _, _ => none
theorem qPz (x0 : Int) (x1 : Nat) (x2 x3 : List Int) (x4 : Int) (x5 x6 : List (List Int)) (x7 : Nat) (x8 : List (List Int)) : fnE qIp Tryz.f74 ([.s (.ptr 0 0 none 0)]) ([.cells 50 [.one [.ptr 1 0 none 0, .i .u64 x0, .sl 2 0 x1 true]], .cells 56 [.arr .i8 81 x2, .arr .i8 16 x3, .one [.i .i8 x4], .rows [.i .u64, .i .u64] 32 x5, .rows [.i .u64, .i .u64] 2 x6], .sli 92 false (.rows [.i .i64, .i .i64, .i .i64, .b, .i .i8, .i .i8] x7 x8)]) qIq = qR x0 x1 x2 x3 x4 x5 x6 x7 x8 := by kernel_rfl
def qIo {R : Type} (o : Orc) (vs : List V) (objs : List Obj) (K : Bool → V → List Obj → Option R) : Option R := match vs, objs with
 | [.s (.ptr 0 0 none 0)], [.cells 50 [.one [.ptr 1 0 none 0, .i .u64 x0, .sl 2 0 x1 true]], .cells 56 [.arr .i8 81 x2, .arr .i8 16 x3, .one [.i .i8 x4], .rows [.i .u64, .i .u64] 32 x5, .rows [.i .u64, .i .u64] 2 x6], .sli 92 false (.rows [.i .i64, .i .i64, .i .i64, .b, .i .i8, .i .i8] x7 x8)] => ob (qR x0 x1 x2 x3 x4 x5 x6 x7 x8) fun z => K false (.tup []) ([.cells 50 [.one [.ptr 1 0 none 0, .i .u64 (z.1), .sl 2 0 (z.2.1) true]], .cells 56 [.arr .i8 81 (z.2.2.1), .arr .i8 16 (z.2.2.2.1), .one [.i .i8 (z.2.2.2.2.1)], .rows [.i .u64, .i .u64] 32 (z.2.2.2.2.2.1), .rows [.i .u64, .i .u64] 2 (z.2.2.2.2.2.2.1)], .sli 92 false (.rows [.i .i64, .i .i64, .i .i64, .b, .i .i8, .i .i8] (z.2.2.2.2.2.2.2.1) (z.2.2.2.2.2.2.2.2))])
 | _, _ => o 74 vs objs K
def qEd (o : Orc) : Orc := hook 74 (qIo o) o
theorem qIr (o : Orc) (ho : OSound Tryz.prog o) : OSound Tryz.prog (qEd o) := hook_ok ho fun vs objs K r h => by
 unfold qIo at h
 split at h
 ·skip
  obtain ⟨t, h1, h2⟩ := ob_ok h
  refine anyOK_of mixed qP0 (fn := Tryz.f74) (b := (Tryz.f74).body.getD .skip) (by kernel_rfl) (by kernel_rfl) (by kernel_rfl) ((qPz _ _ _ _ _ _ _ _ _).trans h1) (m := 3) rfl (AllP.of (l' := []) (by kernel_rfl) trivial) fun v objs' hd => ?_
  unfold qIq at hd
  split at hd
  ·skip
   cases hd
   exact h2
  ·cases hd
 ·exact ho _ _ _ _ _ h
def qKW : Ctx := mkC 13 ((qBN oNil)) [] lpNil
theorem qRN : CtxOK Tryz.prog qKW := mkC_ok ((qB3 _ oNil_ok))
def qKX : V → List Obj → Option (Int) := fun v objs => match v, objs with
 | .s (.i .i64 y0), [] => some (y0)
 | _, _ => none
theorem qRM (x0 : Int) : fnE qKW Tryz.f73 ([.s (.i .i64 x0)]) ([]) qKX = qAQ x0 := by kernel_rfl
def qKV {R : Type} (o : Orc) (vs : List V) (objs : List Obj) (K : Bool → V → List Obj → Option R) : Option R := match vs, objs with
 | [.s (.i .i64 x0)], [] => ob (qAQ x0) fun y0 => K false (.s (.i .i64 y0)) ([])
 | _, _ => o 73 vs objs K
def qFX (o : Orc) : Orc := hook 73 (qKV o) o
theorem qKY (o : Orc) (ho : OSound Tryz.prog o) : OSound Tryz.prog (qFX o) := hook_ok ho fun vs objs K r h => by
 unfold qKV at h
 split at h
 ·skip
  obtain ⟨t, h1, h2⟩ := ob_ok h
  refine anyOK_of mixed qRN (fn := Tryz.f73) (b := (Tryz.f73).body.getD .skip) (by kernel_rfl) (by kernel_rfl) (by kernel_rfl) ((qRM _).trans h1) (m := 0) rfl (AllP.of (l' := []) (by kernel_rfl) trivial) fun v objs' hd => ?_
  unfold qKX at hd
  split at hd
  ·skip
   cases hd
   exact h2
  ·cases hd
 ·exact ho _ _ _ _ _ h
def qId : Ctx := mkC 97 ((qFX (qDa (qi (qEd (qEc (qEb (qBN (qBG (qIb oNil)))))))))) [] lpNil
theorem qPu : CtxOK Tryz.prog qId := mkC_ok ((qKY _ (qFY _ (qz _ (qIr _ (qIn _ (qIj _ (qB3 _ (qBh _ (qPs _ oNil_ok))))))))))
def qIe : V → List Obj → Option ((Bool × Int × Nat × List Int × List Int × Int × List (List Int) × List (List Int) × Nat × List (List Int)) ⊕ (Bool × Int × Nat × List Int × List Int × Int × List (List Int) × List (List Int) × Nat × List (List Int))) := fun v objs => match v, objs with
 | .s (.b y0), [.cells 50 [.one [.ptr 1 0 none 0, .i .u64 y1, .sl 2 0 y2 true]], .cells 56 [.arr .i8 81 y3, .arr .i8 16 y4, .one [.i .i8 y5], .rows [.i .u64, .i .u64] 32 y6, .rows [.i .u64, .i .u64] 2 y7], .sli 92 false (.rows [.i .i64, .i .i64, .i .i64, .b, .i .i8, .i .i8] y8 y9)] => some (.inl (y0, y1, y2, y3, y4, y5, y6, y7, y8, y9))
 | .s (.b y0), [.cells 50 [.one [.ptr 1 0 none 0, .i .u64 y1, .sl 3 0 y2 true]], .cells 56 [.arr .i8 81 y3, .arr .i8 16 y4, .one [.i .i8 y5], .rows [.i .u64, .i .u64] 32 y6, .rows [.i .u64, .i .u64] 2 y7], Obj.dead, .sli 92 false (.rows [.i .i64, .i .i64, .i .i64, .b, .i .i8, .i .i8] y8 y9)] => some (.inr (y0, y1, y2, y3, y4, y5, y6, y7, y8, y9))
 | _, _ => none
theorem qPt (x0 x1 x2 : Int) (x3 : Bool) (x4 : Int) (x5 : Nat) (x6 x7 : List Int) (x8 : Int) (x9 x10 : List (List Int)) (x11 : Nat) (x12 : List (List Int)) : fnE qId Tryz.f34 ([.s (.ptr 0 0 none 0), .agg [.one [.i .i64 x0, .i .i64 x1, .i .i64 x2, .b x3]]]) ([.cells 50 [.one [.ptr 1 0 none 0, .i .u64 x4, .sl 2 0 x5 true]], .cells 56 [.arr .i8 81 x6, .arr .i8 16 x7, .one [.i .i8 x8], .rows [.i .u64, .i .u64] 32 x9, .rows [.i .u64, .i .u64] 2 x10], .sli 92 false (.rows [.i .i64, .i .i64, .i .i64, .b, .i .i8, .i .i8] x11 x12)]) qIe = qa x0 x1 x2 x3 x4 x5 x6 x7 x8 x9 x10 x11 x12 := by kernel_rfl
def qIc {R : Type} (o : Orc) (vs : List V) (objs : List Obj) (K : Bool → V → List Obj → Option R) : Option R := match vs, objs with
 | [.s (.ptr 0 0 none 0), .agg [.one [.i .i64 x0, .i .i64 x1, .i .i64 x2, .b x3]]], [.cells 50 [.one [.ptr 1 0 none 0, .i .u64 x4, .sl 2 0 x5 true]], .cells 56 [.arr .i8 81 x6, .arr .i8 16 x7, .one [.i .i8 x8], .rows [.i .u64, .i .u64] 32 x9, .rows [.i .u64, .i .u64] 2 x10], .sli 92 false (.rows [.i .i64, .i .i64, .i .i64, .b, .i .i8, .i .i8] x11 x12)] => ob (qa x0 x1 x2 x3 x4 x5 x6 x7 x8 x9 x10 x11 x12) fun t0 => sw t0 (fun z => K false (.s (.b (z.1))) ([.cells 50 [.one [.ptr 1 0 none 0, .i .u64 (z.2.1), .sl 2 0 (z.2.2.1) true]], .cells 56 [.arr .i8 81 (z.2.2.2.1), .arr .i8 16 (z.2.2.2.2.1), .one [.i .i8 (z.2.2.2.2.2.1)], .rows [.i .u64, .i .u64] 32 (z.2.2.2.2.2.2.1), .rows [.i .u64, .i .u64] 2 (z.2.2.2.2.2.2.2.1)], .sli 92 false (.rows [.i .i64, .i .i64, .i .i64, .b, .i .i8, .i .i8] (z.2.2.2.2.2.2.2.2.1) (z.2.2.2.2.2.2.2.2.2))])) (fun z => K false (.s (.b (z.1))) ([.cells 50 [.one [.ptr 1 0 none 0, .i .u64 (z.2.1), .sl 3 0 (z.2.2.1) true]], .cells 56 [.arr .i8 81 (z.2.2.2.1), .arr .i8 16 (z.2.2.2.2.1), .one [.i .i8 (z.2.2.2.2.2.1)], .rows [.i .u64, .i .u64] 32 (z.2.2.2.2.2.2.1), .rows [.i .u64, .i .u64] 2 (z.2.2.2.2.2.2.2.1)], Obj.dead, .sli 92 false (.rows [.i .i64, .i .i64, .i .i64, .b, .i .i8, .i .i8] (z.2.2.2.2.2.2.2.2.1) (z.2.2.2.2.2.2.2.2.2))]))
 | _, _ => o 34 vs objs K
def qEa (o : Orc) : Orc := hook 34 (qIc o) o
theorem qIf (o : Orc) (ho : OSound Tryz.prog o) : OSound Tryz.prog (qEa o) := hook_ok ho fun vs objs K r h => by
 unfold qIc at h
 split at h
 ·skip
  obtain ⟨t, h1, h2⟩ := ob_ok h
  refine anyOK_of mixed qPu (fn := Tryz.f34) (b := (Tryz.f34).body.getD .skip) (by kernel_rfl) (by kernel_rfl) (by kernel_rfl) ((qPt _ _ _ _ _ _ _ _ _ _ _ _ _).trans h1) (m := 3) rfl (AllP.of (l' := []) (by kernel_rfl) trivial) fun v objs' hd => ?_
  unfold qIe at hd
  split at hd
  ·skip
   cases hd
   exact h2
  ·skip
   cases hd
   exact h2
  ·cases hd
 ·exact ho _ _ _ _ _ h
def qHd : Ctx := mkC 10 ((qCZ (qDK oNil))) [] lpNil
theorem qO7 : CtxOK Tryz.prog qHd := mkC_ok ((qDD _ (qEB _ oNil_ok)))
def qHe : V → List Obj → Option (Bool) := fun v objs => match v, objs with
 | .s (.b y0), [] => some (y0)
 | _, _ => none
theorem qO6 (x0 : Int) (x1 x2 : List Int) (x3 : Int) (x4 x5 : List (List Int)) : fnE qHd Tryz.f31 ([.s (.ptr 0 0 none 0), .s (.i .i64 x0)]) ([.rcells 56 [.arr .i8 81 x1, .arr .i8 16 x2, .one [.i .i8 x3], .rows [.i .u64, .i .u64] 32 x4, .rows [.i .u64, .i .u64] 2 x5]]) (pureD 1 qHe) = qBD x0 x1 x2 x3 x4 x5 := by kernel_rfl
def qHc {R : Type} (o : Orc) (vs : List V) (objs : List Obj) (K : Bool → V → List Obj → Option R) : Option R := match vs, List.map Obj.toRO objs with
 | [.s (.ptr 0 0 none 0), .s (.i .i64 x0)], [.rcells 56 [.arr .i8 81 x1, .arr .i8 16 x2, .one [.i .i8 x3], .rows [.i .u64, .i .u64] 32 x4, .rows [.i .u64, .i .u64] 2 x5]] => ob (qBD x0 x1 x2 x3 x4 x5) fun y0 => K true (.s (.b y0)) ([])
 | _, _ => o 31 vs objs K
def qEC (o : Orc) : Orc := hook 31 (qHc o) o
theorem qHf (o : Orc) (ho : OSound Tryz.prog o) : OSound Tryz.prog (qEC o) := hook_ok ho fun vs objs K r h => by
 unfold qHc at h
 split at h
 ·skip
  have hq : List.map Obj.toRO objs = _ := (by rename_i hq; first | exact hq | assumption)
  obtain ⟨t, h1, h2⟩ := ob_ok h
  refine purOK_by mixed qO7 (m := 1) (fn := Tryz.f31) (b := (Tryz.f31).body.getD .skip) (by kernel_rfl) (by kernel_rfl) (by kernel_rfl) hq (by kernel_rfl) (by kernel_rfl) (AllP.of (l' := []) (by kernel_rfl) trivial) ((qO6 _ _ _ _ _ _).trans h1) fun v objs' hd => ?_
  unfold qHe at hd
  split at hd
  ·skip
   cases hd
   exact h2
  ·cases hd
 ·exact ho _ _ _ _ _ h
def qIV : Ctx := mkC 87 ((qFX (qi (qEb (qEc (qEd oNil)))))) [] lpNil
theorem qPo : CtxOK Tryz.prog qIV := mkC_ok ((qKY _ (qz _ (qIj _ (qIn _ (qIr _ oNil_ok))))))
def qIW : V → List Obj → Option (Bool × Int × Nat × List Int × List Int × Int × List (List Int) × List (List Int) × Nat × List (List Int)) := fun v objs => match v, objs with
 | .s (.b y0), [.cells 50 [.one [.ptr 1 0 none 0, .i .u64 y1, .sl 2 0 y2 true]], .cells 56 [.arr .i8 81 y3, .arr .i8 16 y4, .one [.i .i8 y5], .rows [.i .u64, .i .u64] 32 y6, .rows [.i .u64, .i .u64] 2 y7], .sli 92 false (.rows [.i .i64, .i .i64, .i .i64, .b, .i .i8, .i .i8] y8 y9)] => some (y0, y1, y2, y3, y4, y5, y6, y7, y8, y9)
 | _, _ => none
theorem qPn (x0 : Int) (x1 : Nat) (x2 x3 : List Int) (x4 : Int) (x5 x6 : List (List Int)) (x7 : Nat) (x8 : List (List Int)) : fnE qIV Tryz.f35 ([.s (.ptr 0 0 none 0)]) ([.cells 50 [.one [.ptr 1 0 none 0, .i .u64 x0, .sl 2 0 x1 true]], .cells 56 [.arr .i8 81 x2, .arr .i8 16 x3, .one [.i .i8 x4], .rows [.i .u64, .i .u64] 32 x5, .rows [.i .u64, .i .u64] 2 x6], .sli 92 false (.rows [.i .i64, .i .i64, .i .i64, .b, .i .i8, .i .i8] x7 x8)]) qIW = qBk x0 x1 x2 x3 x4 x5 x6 x7 x8 := by kernel_rfl
def qIU {R : Type} (o : Orc) (vs : List V) (objs : List Obj) (K : Bool → V → List Obj → Option R) : Option R := match vs, objs with
 | [.s (.ptr 0 0 none 0)], [.cells 50 [.one [.ptr 1 0 none 0, .i .u64 x0, .sl 2 0 x1 true]], .cells 56 [.arr .i8 81 x2, .arr .i8 16 x3, .one [.i .i8 x4], .rows [.i .u64, .i .u64] 32 x5, .rows [.i .u64, .i .u64] 2 x6], .sli 92 false (.rows [.i .i64, .i .i64, .i .i64, .b, .i .i8, .i .i8] x7 x8)] => ob (qBk x0 x1 x2 x3 x4 x5 x6 x7 x8) fun z => K false (.s (.b (z.1))) ([.cells 50 [.one [.ptr 1 0 none 0, .i .u64 (z.2.1), .sl 2 0 (z.2.2.1) true]], .cells 56 [.arr .i8 81 (z.2.2.2.1), .arr .i8 16 (z.2.2.2.2.1), .one [.i .i8 (z.2.2.2.2.2.1)], .rows [.i .u64, .i .u64] 32 (z.2.2.2.2.2.2.1), .rows [.i .u64, .i .u64] 2 (z.2.2.2.2.2.2.2.1)], .sli 92 false (.rows [.i .i64, .i .i64, .i .i64, .b, .i .i8, .i .i8] (z.2.2.2.2.2.2.2.2.1) (z.2.2.2.2.2.2.2.2.2))])
 | _, _ => o 35 vs objs K
def qIX (o : Orc) : Orc := hook 35 (qIU o) o
theorem qPp (o : Orc) (ho : OSound Tryz.prog o) : OSound Tryz.prog (qIX o) := hook_ok ho fun vs objs K r h => by
 unfold qIU at h
 split at h
 ·skip
  obtain ⟨t, h1, h2⟩ := ob_ok h
  refine anyOK_of mixed qPo (fn := Tryz.f35) (b := (Tryz.f35).body.getD .skip) (by kernel_rfl) (by kernel_rfl) (by kernel_rfl) ((qPn _ _ _ _ _ _ _ _ _).trans h1) (m := 3) rfl (AllP.of (l' := []) (by kernel_rfl) trivial) fun v objs' hd => ?_
  unfold qIW at hd
  split at hd
  ·skip
   cases hd
   exact h2
  ·cases hd
 ·exact ho _ _ _ _ _ h
def qJ5 : Ctx := mkC 24 ((qIX (qEC (qEa oNil)))) [] lpNil
theorem qQ4 : CtxOK Tryz.prog qJ5 := mkC_ok ((qPp _ (qHf _ (qIf _ oNil_ok))))
def qJ6 : V → List Obj → Option ((Bool × Int × Nat × List Int × List Int × Int × List (List Int) × List (List Int) × Nat × List (List Int)) ⊕ (Bool × Int × Nat × List Int × List Int × Int × List (List Int) × List (List Int) × Nat × List (List Int))) := fun v objs => match v, objs with
 | .s (.b y0), [.cells 50 [.one [.ptr 1 0 none 0, .i .u64 y1, .sl 2 0 y2 true]], .cells 56 [.arr .i8 81 y3, .arr .i8 16 y4, .one [.i .i8 y5], .rows [.i .u64, .i .u64] 32 y6, .rows [.i .u64, .i .u64] 2 y7], .sli 92 false (.rows [.i .i64, .i .i64, .i .i64, .b, .i .i8, .i .i8] y8 y9)] => some (.inl (y0, y1, y2, y3, y4, y5, y6, y7, y8, y9))
 | .s (.b y0), [.cells 50 [.one [.ptr 1 0 none 0, .i .u64 y1, .sl 3 0 y2 true]], .cells 56 [.arr .i8 81 y3, .arr .i8 16 y4, .one [.i .i8 y5], .rows [.i .u64, .i .u64] 32 y6, .rows [.i .u64, .i .u64] 2 y7], Obj.dead, .sli 92 false (.rows [.i .i64, .i .i64, .i .i64, .b, .i .i8, .i .i8] y8 y9)] => some (.inr (y0, y1, y2, y3, y4, y5, y6, y7, y8, y9))
 | _, _ => none
theorem qQ3 (x0 x1 x2 : Int) (x3 : Bool) (x4 : Int) (x5 : Nat) (x6 x7 : List Int) (x8 : Int) (x9 x10 : List (List Int)) (x11 : Nat) (x12 : List (List Int)) : fnE qJ5 Tryz.f21 ([.s (.ptr 0 0 none 0), .agg [.one [.i .i64 x0, .i .i64 x1, .i .i64 x2, .b x3]]]) ([.cells 50 [.one [.ptr 1 0 none 0, .i .u64 x4, .sl 2 0 x5 true]], .cells 56 [.arr .i8 81 x6, .arr .i8 16 x7, .one [.i .i8 x8], .rows [.i .u64, .i .u64] 32 x9, .rows [.i .u64, .i .u64] 2 x10], .sli 92 false (.rows [.i .i64, .i .i64, .i .i64, .b, .i .i8, .i .i8] x11 x12)]) qJ6 = qB0 x0 x1 x2 x3 x4 x5 x6 x7 x8 x9 x10 x11 x12 := by kernel_rfl
def qJ4 {R : Type} (o : Orc) (vs : List V) (objs : List Obj) (K : Bool → V → List Obj → Option R) : Option R := match vs, objs with
 | [.s (.ptr 0 0 none 0), .agg [.one [.i .i64 x0, .i .i64 x1, .i .i64 x2, .b x3]]], [.cells 50 [.one [.ptr 1 0 none 0, .i .u64 x4, .sl 2 0 x5 true]], .cells 56 [.arr .i8 81 x6, .arr .i8 16 x7, .one [.i .i8 x8], .rows [.i .u64, .i .u64] 32 x9, .rows [.i .u64, .i .u64] 2 x10], .sli 92 false (.rows [.i .i64, .i .i64, .i .i64, .b, .i .i8, .i .i8] x11 x12)] => ob (qB0 x0 x1 x2 x3 x4 x5 x6 x7 x8 x9 x10 x11 x12) fun t0 => sw t0 (fun z => K false (.s (.b (z.1))) ([.cells 50 [.one [.ptr 1 0 none 0, .i .u64 (z.2.1), .sl 2 0 (z.2.2.1) true]], .cells 56 [.arr .i8 81 (z.2.2.2.1), .arr .i8 16 (z.2.2.2.2.1), .one [.i .i8 (z.2.2.2.2.2.1)], .rows [.i .u64, .i .u64] 32 (z.2.2.2.2.2.2.1), .rows [.i .u64, .i .u64] 2 (z.2.2.2.2.2.2.2.1)], .sli 92 false (.rows [.i .i64, .i .i64, .i .i64, .b, .i .i8, .i .i8] (z.2.2.2.2.2.2.2.2.1) (z.2.2.2.2.2.2.2.2.2))])) (fun z => K false (.s (.b (z.1))) ([.cells 50 [.one [.ptr 1 0 none 0, .i .u64 (z.2.1), .sl 3 0 (z.2.2.1) true]], .cells 56 [.arr .i8 81 (z.2.2.2.1), .arr .i8 16 (z.2.2.2.2.1), .one [.i .i8 (z.2.2.2.2.2.1)], .rows [.i .u64, .i .u64] 32 (z.2.2.2.2.2.2.1), .rows [.i .u64, .i .u64] 2 (z.2.2.2.2.2.2.2.1)], Obj.dead, .sli 92 false (.rows [.i .i64, .i .i64, .i .i64, .b, .i .i8, .i .i8] (z.2.2.2.2.2.2.2.2.1) (z.2.2.2.2.2.2.2.2.2))]))
 | _, _ => o 21 vs objs K
def qJ7 (o : Orc) : Orc := hook 21 (qJ4 o) o
theorem qQ5 (o : Orc) (ho : OSound Tryz.prog o) : OSound Tryz.prog (qJ7 o) := hook_ok ho fun vs objs K r h => by
 unfold qJ4 at h
 split at h
 ·skip
  obtain ⟨t, h1, h2⟩ := ob_ok h
  refine anyOK_of mixed qQ4 (fn := Tryz.f21) (b := (Tryz.f21).body.getD .skip) (by kernel_rfl) (by kernel_rfl) (by kernel_rfl) ((qQ3 _ _ _ _ _ _ _ _ _ _ _ _ _).trans h1) (m := 3) rfl (AllP.of (l' := []) (by kernel_rfl) trivial) fun v objs' hd => ?_
  unfold qJ6 at hd
  split at hd
  ·skip
   cases hd
   exact h2
  ·skip
   cases hd
   exact h2
  ·cases hd
 ·exact ho _ _ _ _ _ h
def qFO : Ex → List V → List Obj → Option (Nat × Nat × List (List Int)) := fun e vs objs => match e, vs, objs with
 | .exit 0, [.s (.sl 0 0 y0 true)], [.sli 39 false (.rows [.i .i64, .i .i64, .i .i64, .b] y1 y2)] => some (y0, y1, y2)
 | _, _, _ => none
def qFR {R : Type} (vs : List V) (objs : List Obj) (K : Ex → List V → List Obj → Option R) : Option R := match vs, objs with
 | [.s (.ptr 0 0 none 0), .s (.sl 1 0 x0 true), .s (.sl 2 0 x1 true), .s (.i .i64 x2), .s (.i .i64 x3)], [.cells 50 [.one [.ptr 3 0 none 0, .i .u64 x4, .sl 4 0 x5 true]], .sli 39 false (.rows [.i .i64, .i .i64, .i .i64, .b] x6 x7), .sli 39 false (.rows [.i .i64, .i .i64, .i .i64, .b] x8 x9), .cells 56 [.arr .i8 81 x10, .arr .i8 16 x11, .one [.i .i8 x12], .rows [.i .u64, .i .u64] 32 x13, .rows [.i .u64, .i .u64] 2 x14], .sli 92 false (.rows [.i .i64, .i .i64, .i .i64, .b, .i .i8, .i .i8] x15 x16)] => ob (qy many x0 x1 x2 x3 x4 x5 x6 x7 x8 x9 x10 x11 x12 x13 x14 x15 x16) fun z => K (.exit 0) ([.s (.sl 0 0 (z.1) true)]) ([.sli 39 false (.rows [.i .i64, .i .i64, .i .i64, .b] (z.2.1) (z.2.2))])
 | _, _ => none
def qQ1 : {R : Type} → Nat → List V → List Obj → (Ex → List V → List Obj → Option R) → Option R := fun q vs objs K => bif Nat.beq q 4 then qFR vs objs K else none
def qDX : Ctx := mkC 28 ((qJ7 (qFG (qEe oNil)))) [(4, [3, 4, 13, 14, 15], [4])] qQ1
theorem qJ1 : CtxOK Tryz.prog qDX := mkC_ok ((qQ5 _ (qJm _ (qIv _ oNil_ok))))
def qFP (f : Nat) (x0 x1 : Nat) (x2 x3 x4 : Int) (x5 x6 : Nat) (x7 : List (List Int)) (x8 : Nat) (x9 : List (List Int)) (x10 x11 : List Int) (x12 : Int) (x13 x14 : List (List Int)) (x15 : Nat) (x16 : List (List Int)) : Option (Nat × Nat × List (List Int)) := lrun qDX 0 [3, 4, 13, 14, 15] [4] (loopOf Tryz.f15 4) f ([.s (.ptr 0 0 none 0), .s (.sl 1 0 x0 true), .s (.sl 2 0 x1 true), .s (.i .i64 x2), .s (.i .i64 x3)]) ([.cells 50 [.one [.ptr 3 0 none 0, .i .u64 x4, .sl 4 0 x5 true]], .sli 39 false (.rows [.i .i64, .i .i64, .i .i64, .b] x6 x7), .sli 39 false (.rows [.i .i64, .i .i64, .i .i64, .b] x8 x9), .cells 56 [.arr .i8 81 x10, .arr .i8 16 x11, .one [.i .i8 x12], .rows [.i .u64, .i .u64] 32 x13, .rows [.i .u64, .i .u64] 2 x14], .sli 92 false (.rows [.i .i64, .i .i64, .i .i64, .b, .i .i8, .i .i8] x15 x16)]) qFO
theorem qQ0 (f : Nat) (x0 x1 : Nat) (x2 x3 x4 : Int) (x5 x6 : Nat) (x7 : List (List Int)) (x8 : Nat) (x9 : List (List Int)) (x10 x11 : List Int) (x12 : Int) (x13 x14 : List (List Int)) (x15 : Nat) (x16 : List (List Int)) : qFP (f + 1) x0 x1 x2 x3 x4 x5 x6 x7 x8 x9 x10 x11 x12 x13 x14 x15 x16 = qBz (qFP f) x0 x1 x2 x3 x4 x5 x6 x7 x8 x9 x10 x11 x12 x13 x14 x15 x16 := by kernel_rfl
theorem qJ3 : ∀ f, qFP f = qy f
 | 0 => rfl
 | f + 1 => by funext x0 x1 x2 x3 x4 x5 x6 x7 x8 x9 x10 x11 x12 x13 x14 x15 x16; rw [qQ0, qJ3 f]; rfl
theorem qQ2 : LoopSound Tryz.prog qDX 0 (loopOf Tryz.f15 4) :=
 loopSound_by mixed qJ1 (AllP.of (l' := []) (by kernel_rfl) trivial) (q := 4) (kin := [3, 4, 13, 14, 15]) (kout := [4]) (by kernel_rfl) (by kernel_rfl) fun vs objs K r h => by
  replace h : qFR vs objs K = some r := h
  unfold qFR at h
  split at h
  ·skip
   obtain ⟨t, h1, h2⟩ := ob_ok h
   rw [← qJ3] at h1
   refine ⟨_, qFO, t, many, h1, fun e vs' objs' hd => ?_⟩
   unfold qFO at hd
   split at hd
   ·skip
    cases hd
    exact h2
   ·cases hd
  ·cases h
def qJ2 : V → List Obj → Option (Nat × Nat × List (List Int)) := fun v objs => match v, objs with
 | .s (.sl 0 0 y0 true), [.sli 39 false (.rows [.i .i64, .i .i64, .i .i64, .b] y1 y2)] => some (y0, y1, y2)
 | _, _ => none
theorem qQz (x0 x1 : List Int) (x2 : Int) : fnE qDX Tryz.f15 ([.agg [.arr .i8 81 x0, .arr .i8 16 x1, .one [.i .i8 x2]]]) ([]) qJ2 = qBK x0 x1 x2 := by kernel_rfl
def qJ0 {R : Type} (o : Orc) (vs : List V) (objs : List Obj) (K : Bool → V → List Obj → Option R) : Option R := match vs, objs with
 | [.agg [.arr .i8 81 x0, .arr .i8 16 x1, .one [.i .i8 x2]]], [] => ob (qBK x0 x1 x2) fun z => K false (.s (.sl 0 0 (z.1) true)) ([.sli 39 false (.rows [.i .i64, .i .i64, .i .i64, .b] (z.2.1) (z.2.2))])
 | _, _ => o 15 vs objs K
def qDY (o : Orc) : Orc := hook 15 (qJ0 o) o
theorem qFQ (o : Orc) (ho : OSound Tryz.prog o) : OSound Tryz.prog (qDY o) := hook_ok ho fun vs objs K r h => by
 unfold qJ0 at h
 split at h
 ·skip
  obtain ⟨t, h1, h2⟩ := ob_ok h
  refine anyOK_of mixed qJ1 (fn := Tryz.f15) (b := (Tryz.f15).body.getD .skip) (by kernel_rfl) (by kernel_rfl) (by kernel_rfl) ((qQz _ _ _).trans h1) (m := 0) rfl (AllP.of (l' := [loopOf Tryz.f15 4]) (by kernel_rfl) ⟨qQ2, trivial⟩) fun v objs' hd => ?_
  unfold qJ2 at hd
  split at hd
  ·skip
   cases hd
   exact h2
  ·cases hd
 ·exact ho _ _ _ _ _ h
def qIR : Ctx := mkC 21 ((qEa (qEe oNil))) [] lpNil
theorem qPl : CtxOK Tryz.prog qIR := mkC_ok ((qIf _ (qIv _ oNil_ok)))
def qIS : V → List Obj → Option (List Int × List Int × Int × Bool) := fun v objs => match v, objs with
 | .tup [W.agg [.arr .i8 81 y0, .arr .i8 16 y1, .one [.i .i8 y2]], W.s (.b y3)], [] => some (y0, y1, y2, y3)
 | _, _ => none
theorem qPk (x0 x1 : List Int) (x2 x3 : Int) (x4 x5 : Int) (x6 : Bool) : fnE qIR Tryz.f23 ([.agg [.arr .i8 81 x0, .arr .i8 16 x1, .one [.i .i8 x2]], .agg [.one [.i .i64 x3, .i .i64 x4, .i .i64 x5, .b x6]]]) ([]) qIS = qCm x0 x1 x2 x3 x4 x5 x6 := by kernel_rfl
def qIQ {R : Type} (o : Orc) (vs : List V) (objs : List Obj) (K : Bool → V → List Obj → Option R) : Option R := match vs, objs with
 | [.agg [.arr .i8 81 x0, .arr .i8 16 x1, .one [.i .i8 x2]], .agg [.one [.i .i64 x3, .i .i64 x4, .i .i64 x5, .b x6]]], [] => ob (qCm x0 x1 x2 x3 x4 x5 x6) fun z => K false (.tup [W.agg [.arr .i8 81 (z.1), .arr .i8 16 (z.2.1), .one [.i .i8 (z.2.2.1)]], W.s (.b (z.2.2.2))]) ([])
 | _, _ => o 23 vs objs K
def qIT (o : Orc) : Orc := hook 23 (qIQ o) o
theorem qPm (o : Orc) (ho : OSound Tryz.prog o) : OSound Tryz.prog (qIT o) := hook_ok ho fun vs objs K r h => by
 unfold qIQ at h
 split at h
 ·skip
  obtain ⟨t, h1, h2⟩ := ob_ok h
  refine anyOK_of mixed qPl (fn := Tryz.f23) (b := (Tryz.f23).body.getD .skip) (by kernel_rfl) (by kernel_rfl) (by kernel_rfl) ((qPk _ _ _ _ _ _ _).trans h1) (m := 0) rfl (AllP.of (l' := []) (by kernel_rfl) trivial) fun v objs' hd => ?_
  unfold qIS at hd
  split at hd
  ·skip
   cases hd
   exact h2
  ·cases hd
 ·exact ho _ _ _ _ _ h
def qKI : Ctx := mkC 7 ((qFG oNil)) [] lpNil
theorem qRD : CtxOK Tryz.prog qKI := mkC_ok ((qJm _ oNil_ok))
def qKJ : V → List Obj → Option (Bool × List Int × List Int × Int × List (List Int) × List (List Int)) := fun v objs => match v, objs with
 | .s (.b y0), [.cells 56 [.arr .i8 81 y1, .arr .i8 16 y2, .one [.i .i8 y3], .rows [.i .u64, .i .u64] 32 y4, .rows [.i .u64, .i .u64] 2 y5]] => some (y0, y1, y2, y3, y4, y5)
 | _, _ => none
theorem qRC (x0 x1 : List Int) (x2 : Int) (x3 x4 : List (List Int)) : fnE qKI Tryz.f10 ([.s (.ptr 0 0 none 0)]) ([.cells 56 [.arr .i8 81 x0, .arr .i8 16 x1, .one [.i .i8 x2], .rows [.i .u64, .i .u64] 32 x3, .rows [.i .u64, .i .u64] 2 x4]]) qKJ = qCs x0 x1 x2 x3 x4 := by kernel_rfl
def qKH {R : Type} (o : Orc) (vs : List V) (objs : List Obj) (K : Bool → V → List Obj → Option R) : Option R := match vs, objs with
 | [.s (.ptr 0 0 none 0)], [.cells 56 [.arr .i8 81 x0, .arr .i8 16 x1, .one [.i .i8 x2], .rows [.i .u64, .i .u64] 32 x3, .rows [.i .u64, .i .u64] 2 x4]] => ob (qCs x0 x1 x2 x3 x4) fun z => K false (.s (.b (z.1))) ([.cells 56 [.arr .i8 81 (z.2.1), .arr .i8 16 (z.2.2.1), .one [.i .i8 (z.2.2.2.1)], .rows [.i .u64, .i .u64] 32 (z.2.2.2.2.1), .rows [.i .u64, .i .u64] 2 (z.2.2.2.2.2)]])
 | _, _ => o 10 vs objs K
def qKK (o : Orc) : Orc := hook 10 (qKH o) o
theorem qRE (o : Orc) (ho : OSound Tryz.prog o) : OSound Tryz.prog (qKK o) := hook_ok ho fun vs objs K r h => by
 unfold qKH at h
 split at h
 ·skip
  obtain ⟨t, h1, h2⟩ := ob_ok h
  refine anyOK_of mixed qRD (fn := Tryz.f10) (b := (Tryz.f10).body.getD .skip) (by kernel_rfl) (by kernel_rfl) (by kernel_rfl) ((qRC _ _ _ _ _).trans h1) (m := 1) rfl (AllP.of (l' := []) (by kernel_rfl) trivial) fun v objs' hd => ?_
  unfold qKJ at hd
  split at hd
  ·skip
   cases hd
   exact h2
  ·cases hd
 ·exact ho _ _ _ _ _ h
def qKE : Ctx := mkC 15 ((qKK (qEC oNil))) [] lpNil
theorem qRB : CtxOK Tryz.prog qKE := mkC_ok ((qRE _ (qHf _ oNil_ok)))
def qKF : V → List Obj → Option (Bool × List Int × List Int × Int × List (List Int) × List (List Int)) := fun v objs => match v, objs with
 | .s (.b y0), [.cells 56 [.arr .i8 81 y1, .arr .i8 16 y2, .one [.i .i8 y3], .rows [.i .u64, .i .u64] 32 y4, .rows [.i .u64, .i .u64] 2 y5]] => some (y0, y1, y2, y3, y4, y5)
 | _, _ => none
theorem qRA (x0 x1 : List Int) (x2 : Int) (x3 x4 : List (List Int)) : fnE qKE Tryz.f12 ([.s (.ptr 0 0 none 0)]) ([.cells 56 [.arr .i8 81 x0, .arr .i8 16 x1, .one [.i .i8 x2], .rows [.i .u64, .i .u64] 32 x3, .rows [.i .u64, .i .u64] 2 x4]]) qKF = qBL x0 x1 x2 x3 x4 := by kernel_rfl
def qKD {R : Type} (o : Orc) (vs : List V) (objs : List Obj) (K : Bool → V → List Obj → Option R) : Option R := match vs, objs with
 | [.s (.ptr 0 0 none 0)], [.cells 56 [.arr .i8 81 x0, .arr .i8 16 x1, .one [.i .i8 x2], .rows [.i .u64, .i .u64] 32 x3, .rows [.i .u64, .i .u64] 2 x4]] => ob (qBL x0 x1 x2 x3 x4) fun z => K false (.s (.b (z.1))) ([.cells 56 [.arr .i8 81 (z.2.1), .arr .i8 16 (z.2.2.1), .one [.i .i8 (z.2.2.2.1)], .rows [.i .u64, .i .u64] 32 (z.2.2.2.2.1), .rows [.i .u64, .i .u64] 2 (z.2.2.2.2.2)]])
 | _, _ => o 12 vs objs K
def qFW (o : Orc) : Orc := hook 12 (qKD o) o
theorem qKG (o : Orc) (ho : OSound Tryz.prog o) : OSound Tryz.prog (qFW o) := hook_ok ho fun vs objs K r h => by
 unfold qKD at h
 split at h
 ·skip
  obtain ⟨t, h1, h2⟩ := ob_ok h
  refine anyOK_of mixed qRB (fn := Tryz.f12) (b := (Tryz.f12).body.getD .skip) (by kernel_rfl) (by kernel_rfl) (by kernel_rfl) ((qRA _ _ _ _ _).trans h1) (m := 1) rfl (AllP.of (l' := []) (by kernel_rfl) trivial) fun v objs' hd => ?_
  unfold qKF at hd
  split at hd
  ·skip
   cases hd
   exact h2
  ·cases hd
 ·exact ho _ _ _ _ _ h
def qFS : Ex → List V → List Obj → Option ((Bool × Int × Int × Int × Bool) ⊕ (Int × Int × Int × Bool)) := fun e vs objs => match e, vs, objs with
 | .ret, [.s (.ptr 0 0 none 0), .s (.b y0)], [.cells 39 [.one [.i .i64 y1, .i .i64 y2, .i .i64 y3, .b y4]]] => some (.inl (y0, y1, y2, y3, y4))
 | .exit 0, [.s (.ptr 0 0 none 0), .s .bad], [.cells 39 [.one [.i .i64 y0, .i .i64 y1, .i .i64 y2, .b y3]]] => some (.inr (y0, y1, y2, y3))
 | _, _, _ => none
def qFV {R : Type} (vs : List V) (objs : List Obj) (K : Ex → List V → List Obj → Option R) : Option R := match vs, objs with
 | [.s (.ptr 0 0 none 0), .s (.ptr 1 0 none 0), .s (.sl 2 0 x0 true), .s (.i .i64 x1), .s (.i .i64 x2)], [.cells 28 [.arr .i8 81 x3, .arr .i8 16 x4, .one [.i .i8 x5]], .cells 39 [.one [.i .i64 x6, .i .i64 x7, .i .i64 x8, .b x9]], .sli 39 false (.rows [.i .i64, .i .i64, .i .i64, .b] x10 x11)] => ob (qAl many x0 x1 x2 x3 x4 x5 x6 x7 x8 x9 x10 x11) fun t0 => sw t0 (fun z => K (.ret) ([.s (.ptr 0 0 none 0), .s (.b (z.1))]) ([.cells 39 [.one [.i .i64 (z.2.1), .i .i64 (z.2.2.1), .i .i64 (z.2.2.2.1), .b (z.2.2.2.2)]]])) (fun z => K (.exit 0) ([.s (.ptr 0 0 none 0), .s .bad]) ([.cells 39 [.one [.i .i64 (z.1), .i .i64 (z.2.1), .i .i64 (z.2.2.1), .b (z.2.2.2)]]]))
 | _, _ => none
def qQ8 : {R : Type} → Nat → List V → List Obj → (Ex → List V → List Obj → Option R) → Option R := fun q vs objs K => bif Nat.beq q 2 then qFV vs objs K else none
def qDZ : Ctx := mkC 30 ((qFW (qDQ (qIT (qDY oNil))))) [(2, [1, 2, 9, 10, 11], [2, 3])] qQ8
theorem qJ9 : CtxOK Tryz.prog qDZ := mkC_ok ((qKG _ (qEW _ (qPm _ (qFQ _ oNil_ok)))))
def qFT (f : Nat) (x0 : Nat) (x1 x2 : Int) (x3 x4 : List Int) (x5 x6 : Int) (x7 x8 : Int) (x9 : Bool) (x10 : Nat) (x11 : List (List Int)) : Option ((Bool × Int × Int × Int × Bool) ⊕ (Int × Int × Int × Bool)) := lrun qDZ 0 [1, 2, 9, 10, 11] [2, 3] (loopOf Tryz.f17 2) f ([.s (.ptr 0 0 none 0), .s (.ptr 1 0 none 0), .s (.sl 2 0 x0 true), .s (.i .i64 x1), .s (.i .i64 x2)]) ([.cells 28 [.arr .i8 81 x3, .arr .i8 16 x4, .one [.i .i8 x5]], .cells 39 [.one [.i .i64 x6, .i .i64 x7, .i .i64 x8, .b x9]], .sli 39 false (.rows [.i .i64, .i .i64, .i .i64, .b] x10 x11)]) qFS
theorem qQ7 (f : Nat) (x0 : Nat) (x1 x2 : Int) (x3 x4 : List Int) (x5 x6 : Int) (x7 x8 : Int) (x9 : Bool) (x10 : Nat) (x11 : List (List Int)) : qFT (f + 1) x0 x1 x2 x3 x4 x5 x6 x7 x8 x9 x10 x11 = qB2 (qFT f) x0 x1 x2 x3 x4 x5 x6 x7 x8 x9 x10 x11 := by kernel_rfl
theorem qKB : ∀ f, qFT f = qAl f
 | 0 => rfl
 | f + 1 => by funext x0 x1 x2 x3 x4 x5 x6 x7 x8 x9 x10 x11; rw [qQ7, qKB f]; rfl
theorem qQ9 : LoopSound Tryz.prog qDZ 0 (loopOf Tryz.f17 2) :=
 loopSound_by mixed qJ9 (AllP.of (l' := []) (by kernel_rfl) trivial) (q := 2) (kin := [1, 2, 9, 10, 11]) (kout := [2, 3]) (by kernel_rfl) (by kernel_rfl) fun vs objs K r h => by
  replace h : qFV vs objs K = some r := h
  unfold qFV at h
  split at h
  ·skip
   obtain ⟨t, h1, h2⟩ := ob_ok h
   rw [← qKB] at h1
   refine ⟨_, qFS, t, many, h1, fun e vs' objs' hd => ?_⟩
   unfold qFS at hd
   split at hd
   ·skip
    cases hd
    exact h2
   ·skip
    cases hd
    exact h2
   ·cases hd
  ·cases h
def qKA : V → List Obj → Option (Int × Int × Int × Bool × Bool) := fun v objs => match v, objs with
 | .tup [W.agg [.one [.i .i64 y0, .i .i64 y1, .i .i64 y2, .b y3]], W.s (.b y4)], [] => some (y0, y1, y2, y3, y4)
 | _, _ => none
theorem qQ6 (x0 x1 : List Int) (x2 : Int) : fnE qDZ Tryz.f17 ([.agg [.arr .i8 81 x0, .arr .i8 16 x1, .one [.i .i8 x2]]]) ([]) qKA = qB1 x0 x1 x2 := by kernel_rfl
def qJ8 {R : Type} (o : Orc) (vs : List V) (objs : List Obj) (K : Bool → V → List Obj → Option R) : Option R := match vs, objs with
 | [.agg [.arr .i8 81 x0, .arr .i8 16 x1, .one [.i .i8 x2]]], [] => ob (qB1 x0 x1 x2) fun z => K false (.tup [W.agg [.one [.i .i64 (z.1), .i .i64 (z.2.1), .i .i64 (z.2.2.1), .b (z.2.2.2.1)]], W.s (.b (z.2.2.2.2))]) ([])
 | _, _ => o 17 vs objs K
def qFU (o : Orc) : Orc := hook 17 (qJ8 o) o
theorem qKC (o : Orc) (ho : OSound Tryz.prog o) : OSound Tryz.prog (qFU o) := hook_ok ho fun vs objs K r h => by
 unfold qJ8 at h
 split at h
 ·skip
  obtain ⟨t, h1, h2⟩ := ob_ok h
  refine anyOK_of mixed qJ9 (fn := Tryz.f17) (b := (Tryz.f17).body.getD .skip) (by kernel_rfl) (by kernel_rfl) (by kernel_rfl) ((qQ6 _ _ _).trans h1) (m := 0) rfl (AllP.of (l' := [loopOf Tryz.f17 2]) (by kernel_rfl) ⟨qQ9, trivial⟩) fun v objs' hd => ?_
  unfold qKA at hd
  split at hd
  ·skip
   cases hd
   exact h2
  ·cases hd
 ·exact ho _ _ _ _ _ h
def qJf : Ctx := mkC 36 ((qFW (qDQ (qDY (qFU oNil))))) [] lpNil
theorem qQi : CtxOK Tryz.prog qJf := mkC_ok ((qKG _ (qEW _ (qFQ _ (qKC _ oNil_ok)))))
def qJg : V → List Obj → Option (Bool) := fun v objs => match v, objs with
 | .s (.b y0), [] => some (y0)
 | _, _ => none
theorem qQh : fnE qJf Tryz.f7 ([]) ([]) qJg = qDV  := by kernel_rfl
def qJe {R : Type} (o : Orc) (vs : List V) (objs : List Obj) (K : Bool → V → List Obj → Option R) : Option R := match vs, objs with
 | [], [] => ob (qDV ) fun y0 => K false (.s (.b y0)) ([])
 | _, _ => o 7 vs objs K
def qJh (o : Orc) : Orc := hook 7 (qJe o) o
theorem qQj (o : Orc) (ho : OSound Tryz.prog o) : OSound Tryz.prog (qJh o) := hook_ok ho fun vs objs K r h => by
 unfold qJe at h
 split at h
 ·skip
  obtain ⟨t, h1, h2⟩ := ob_ok h
  refine anyOK_of mixed qQi (fn := Tryz.f7) (b := (Tryz.f7).body.getD .skip) (by kernel_rfl) (by kernel_rfl) (by kernel_rfl) ((qQh).trans h1) (m := 0) rfl (AllP.of (l' := []) (by kernel_rfl) trivial) fun v objs' hd => ?_
  unfold qJg at hd
  split at hd
  ·skip
   cases hd
   exact h2
  ·cases hd
 ·exact ho _ _ _ _ _ h
def qKy : Ctx := mkC 23 (oNil) [] lpNil
theorem qRh : CtxOK Tryz.prog qKy := mkC_ok (oNil_ok)
def qKz : V → List Obj → Option (Int) := fun v objs => match v, objs with
 | .s (.i .i64 y0), [] => some (y0)
 | _, _ => none
theorem qRg (x0 : Int) : fnE qKy Tryz.f49 ([.s (.i .i64 x0)]) ([]) qKz = qB x0 := by kernel_rfl
def qKx {R : Type} (o : Orc) (vs : List V) (objs : List Obj) (K : Bool → V → List Obj → Option R) : Option R := match vs, objs with
 | [.s (.i .i64 x0)], [] => ob (qB x0) fun y0 => K false (.s (.i .i64 y0)) ([])
 | _, _ => o 49 vs objs K
def qj (o : Orc) : Orc := hook 49 (qKx o) o
theorem q7 (o : Orc) (ho : OSound Tryz.prog o) : OSound Tryz.prog (qj o) := hook_ok ho fun vs objs K r h => by
 unfold qKx at h
 split at h
 ·skip
  obtain ⟨t, h1, h2⟩ := ob_ok h
  refine anyOK_of mixed qRh (fn := Tryz.f49) (b := (Tryz.f49).body.getD .skip) (by kernel_rfl) (by kernel_rfl) (by kernel_rfl) ((qRg _).trans h1) (m := 0) rfl (AllP.of (l' := []) (by kernel_rfl) trivial) fun v objs' hd => ?_
  unfold qKz at hd
  split at hd
  ·skip
   cases hd
   exact h2
  ·cases hd
 ·exact ho _ _ _ _ _ h
def qGJ : Ex → List V → List Obj → Option (Int) := fun e vs objs => match e, vs, objs with
 | .exit 0, [.s (.i .i64 y0)], [] => some (y0)
 | _, _, _ => none
def qGM {R : Type} (vs : List V) (objs : List Obj) (K : Ex → List V → List Obj → Option R) : Option R := match vs, objs with
 | [.s (.i .i64 x0), .s (.i .i64 x1), .s (.ptr 0 0 none 0), .s (.i .i64 x2), .s (.i .i64 x3)], [.cells 28 [.arr .i8 81 x4, .arr .i8 16 x5, .one [.i .i8 x6]]] => ob (qX many x0 x1 x2 x3 x4 x5 x6) fun y0 => K (.exit 0) ([.s (.i .i64 y0)]) ([])
 | _, _ => none
def qSe : {R : Type} → Nat → List V → List Obj → (Ex → List V → List Obj → Option R) → Option R := fun q vs objs K => bif Nat.beq q 3 then qGM vs objs K else none
def qDl : Ctx := mkC 26 (oNil) [(3, [1, 2, 3, 7, 8], [7])] qSe
theorem qL3 : CtxOK Tryz.prog qDl := mkC_ok (oNil_ok)
def qGK (f : Nat) (x0 x1 : Int) (x2 x3 : Int) (x4 x5 : List Int) (x6 : Int) : Option (Int) := lrun qDl 0 [1, 2, 3, 7, 8] [7] (loopOf Tryz.f54 3) f ([.s (.i .i64 x0), .s (.i .i64 x1), .s (.ptr 0 0 none 0), .s (.i .i64 x2), .s (.i .i64 x3)]) ([.cells 28 [.arr .i8 81 x4, .arr .i8 16 x5, .one [.i .i8 x6]]]) qGJ
theorem qSd (f : Nat) (x0 x1 : Int) (x2 x3 : Int) (x4 x5 : List Int) (x6 : Int) : qGK (f + 1) x0 x1 x2 x3 x4 x5 x6 = qAF (qGK f) x0 x1 x2 x3 x4 x5 x6 := by kernel_rfl
theorem qL5 : ∀ f, qGK f = qX f
 | 0 => rfl
 | f + 1 => by funext x0 x1 x2 x3 x4 x5 x6; rw [qSd, qL5 f]; rfl
theorem qSf : LoopSound Tryz.prog qDl 0 (loopOf Tryz.f54 3) :=
 loopSound_by mixed qL3 (AllP.of (l' := []) (by kernel_rfl) trivial) (q := 3) (kin := [1, 2, 3, 7, 8]) (kout := [7]) (by kernel_rfl) (by kernel_rfl) fun vs objs K r h => by
  replace h : qGM vs objs K = some r := h
  unfold qGM at h
  split at h
  ·skip
   obtain ⟨t, h1, h2⟩ := ob_ok h
   rw [← qL5] at h1
   refine ⟨_, qGJ, t, many, h1, fun e vs' objs' hd => ?_⟩
   unfold qGJ at hd
   split at hd
   ·skip
    cases hd
    exact h2
   ·cases hd
  ·cases h
def qL4 : V → List Obj → Option (Int) := fun v objs => match v, objs with
 | .s (.i .i64 y0), [] => some (y0)
 | _, _ => none
theorem qSc (x0 x1 : List Int) (x2 x3 x4 : Int) : fnE qDl Tryz.f54 ([.agg [.arr .i8 81 x0, .arr .i8 16 x1, .one [.i .i8 x2]], .s (.i .i64 x3), .s (.i .i64 x4)]) ([]) qL4 = qAE x0 x1 x2 x3 x4 := by kernel_rfl
def qL2 {R : Type} (o : Orc) (vs : List V) (objs : List Obj) (K : Bool → V → List Obj → Option R) : Option R := match vs, objs with
 | [.agg [.arr .i8 81 x0, .arr .i8 16 x1, .one [.i .i8 x2]], .s (.i .i64 x3), .s (.i .i64 x4)], [] => ob (qAE x0 x1 x2 x3 x4) fun y0 => K false (.s (.i .i64 y0)) ([])
 | _, _ => o 54 vs objs K
def qDm (o : Orc) : Orc := hook 54 (qL2 o) o
theorem qGL (o : Orc) (ho : OSound Tryz.prog o) : OSound Tryz.prog (qDm o) := hook_ok ho fun vs objs K r h => by
 unfold qL2 at h
 split at h
 ·skip
  obtain ⟨t, h1, h2⟩ := ob_ok h
  refine anyOK_of mixed qL3 (fn := Tryz.f54) (b := (Tryz.f54).body.getD .skip) (by kernel_rfl) (by kernel_rfl) (by kernel_rfl) ((qSc _ _ _ _ _).trans h1) (m := 0) rfl (AllP.of (l' := [loopOf Tryz.f54 3]) (by kernel_rfl) ⟨qSf, trivial⟩) fun v objs' hd => ?_
  unfold qL4 at hd
  split at hd
  ·skip
   cases hd
   exact h2
  ·cases hd
 ·exact ho _ _ _ _ _ h
def qGR : Ex → List V → List Obj → Option (Int) := fun e vs objs => match e, vs, objs with
 | .exit 0, [.s (.i .i64 y0)], [] => some (y0)
 | _, _, _ => none
def qGT {R : Type} (vs : List V) (objs : List Obj) (K : Ex → List V → List Obj → Option R) : Option R := match vs, objs with
 | [.s (.i .i64 x0), .s (.ptr 0 0 none 0), .s (.i .i64 x1), .s (.i .i64 x2)], [.cells 28 [.arr .i8 81 x3, .arr .i8 16 x4, .one [.i .i8 x5]]] => ob (qY many x0 x1 x2 x3 x4 x5) fun y0 => K (.exit 0) ([.s (.i .i64 y0)]) ([])
 | _, _ => none
def qSm : {R : Type} → Nat → List V → List Obj → (Ex → List V → List Obj → Option R) → Option R := fun q vs objs K => bif Nat.beq q 3 then qGT vs objs K else none
def qDp : Ctx := mkC 18 ((qDm oNil)) [(3, [1, 2, 5, 6], [5])] qSm
theorem qMB : CtxOK Tryz.prog qDp := mkC_ok ((qGL _ oNil_ok))
def qGS (f : Nat) (x0 x1 x2 : Int) (x3 x4 : List Int) (x5 : Int) : Option (Int) := lrun qDp 0 [1, 2, 5, 6] [5] (loopOf Tryz.f50 3) f ([.s (.i .i64 x0), .s (.ptr 0 0 none 0), .s (.i .i64 x1), .s (.i .i64 x2)]) ([.cells 28 [.arr .i8 81 x3, .arr .i8 16 x4, .one [.i .i8 x5]]]) qGR
theorem qSl (f : Nat) (x0 x1 x2 : Int) (x3 x4 : List Int) (x5 : Int) : qGS (f + 1) x0 x1 x2 x3 x4 x5 = qAG (qGS f) x0 x1 x2 x3 x4 x5 := by kernel_rfl
theorem qMD : ∀ f, qGS f = qY f
 | 0 => rfl
 | f + 1 => by funext x0 x1 x2 x3 x4 x5; rw [qSl, qMD f]; rfl
theorem qSo : LoopSound Tryz.prog qDp 0 (loopOf Tryz.f50 3) :=
 loopSound_by mixed qMB (AllP.of (l' := []) (by kernel_rfl) trivial) (q := 3) (kin := [1, 2, 5, 6]) (kout := [5]) (by kernel_rfl) (by kernel_rfl) fun vs objs K r h => by
  replace h : qGT vs objs K = some r := h
  unfold qGT at h
  split at h
  ·skip
   obtain ⟨t, h1, h2⟩ := ob_ok h
   rw [← qMD] at h1
   refine ⟨_, qGR, t, many, h1, fun e vs' objs' hd => ?_⟩
   unfold qGR at hd
   split at hd
   ·skip
    cases hd
    exact h2
   ·cases hd
  ·cases h
def qMC : V → List Obj → Option (Int) := fun v objs => match v, objs with
 | .s (.i .i64 y0), [] => some (y0)
 | _, _ => none
theorem qSk (x0 x1 : List Int) (x2 x3 : Int) : fnE qDp Tryz.f50 ([.agg [.arr .i8 81 x0, .arr .i8 16 x1, .one [.i .i8 x2]], .s (.i .i64 x3)]) ([]) qMC = qU x0 x1 x2 x3 := by kernel_rfl
def qMA {R : Type} (o : Orc) (vs : List V) (objs : List Obj) (K : Bool → V → List Obj → Option R) : Option R := match vs, objs with
 | [.agg [.arr .i8 81 x0, .arr .i8 16 x1, .one [.i .i8 x2]], .s (.i .i64 x3)], [] => ob (qU x0 x1 x2 x3) fun y0 => K false (.s (.i .i64 y0)) ([])
 | _, _ => o 50 vs objs K
def qME (o : Orc) : Orc := hook 50 (qMA o) o
theorem qSn (o : Orc) (ho : OSound Tryz.prog o) : OSound Tryz.prog (qME o) := hook_ok ho fun vs objs K r h => by
 unfold qMA at h
 split at h
 ·skip
  obtain ⟨t, h1, h2⟩ := ob_ok h
  refine anyOK_of mixed qMB (fn := Tryz.f50) (b := (Tryz.f50).body.getD .skip) (by kernel_rfl) (by kernel_rfl) (by kernel_rfl) ((qSk _ _ _ _).trans h1) (m := 0) rfl (AllP.of (l' := [loopOf Tryz.f50 3]) (by kernel_rfl) ⟨qSo, trivial⟩) fun v objs' hd => ?_
  unfold qMC at hd
  split at hd
  ·skip
   cases hd
   exact h2
  ·cases hd
 ·exact ho _ _ _ _ _ h
def qK1 : Ctx := mkC 18 (oNil) [] lpNil
theorem qRj : CtxOK Tryz.prog qK1 := mkC_ok (oNil_ok)
def qK2 : V → List Obj → Option (Int) := fun v objs => match v, objs with
 | .s (.i .i64 y0), [] => some (y0)
 | _, _ => none
theorem qRi (x0 : Int) : fnE qK1 Tryz.f63 ([.s (.i .i64 x0)]) ([]) qK2 = qCA x0 := by kernel_rfl
def qK0 {R : Type} (o : Orc) (vs : List V) (objs : List Obj) (K : Bool → V → List Obj → Option R) : Option R := match vs, objs with
 | [.s (.i .i64 x0)], [] => ob (qCA x0) fun y0 => K false (.s (.i .i64 y0)) ([])
 | _, _ => o 63 vs objs K
def qFm (o : Orc) : Orc := hook 63 (qK0 o) o
theorem qK3 (o : Orc) (ho : OSound Tryz.prog o) : OSound Tryz.prog (qFm o) := hook_ok ho fun vs objs K r h => by
 unfold qK0 at h
 split at h
 ·skip
  obtain ⟨t, h1, h2⟩ := ob_ok h
  refine anyOK_of mixed qRj (fn := Tryz.f63) (b := (Tryz.f63).body.getD .skip) (by kernel_rfl) (by kernel_rfl) (by kernel_rfl) ((qRi _).trans h1) (m := 0) rfl (AllP.of (l' := []) (by kernel_rfl) trivial) fun v objs' hd => ?_
  unfold qK2 at hd
  split at hd
  ·skip
   cases hd
   exact h2
  ·cases hd
 ·exact ho _ _ _ _ _ h
def qGG : Ex → List V → List Obj → Option (Int × Int × List Int × List Int × Int) := fun e vs objs => match e, vs, objs with
 | .exit 0, [.s (.i .i64 y0), .s (.ptr 0 0 none 0), .s (.i .i64 y1)], [.cells 28 [.arr .i8 81 y2, .arr .i8 16 y3, .one [.i .i8 y4]]] => some (y0, y1, y2, y3, y4)
 | _, _, _ => none
def qGI {R : Type} (vs : List V) (objs : List Obj) (K : Ex → List V → List Obj → Option R) : Option R := match vs, objs with
 | [.s (.i .i64 x0), .s (.ptr 0 0 none 0), .s (.i .i64 x1), .s (.i .i64 x2)], [.cells 28 [.arr .i8 81 x3, .arr .i8 16 x4, .one [.i .i8 x5]]] => ob (qAv many x0 x1 x2 x3 x4 x5) fun z => K (.exit 0) ([.s (.i .i64 (z.1)), .s (.ptr 0 0 none 0), .s (.i .i64 (z.2.1))]) ([.cells 28 [.arr .i8 81 (z.2.2.1), .arr .i8 16 (z.2.2.2.1), .one [.i .i8 (z.2.2.2.2)]]])
 | _, _ => none
def qSZ : {R : Type} → Nat → List V → List Obj → (Ex → List V → List Obj → Option R) → Option R := fun q vs objs K => bif Nat.beq q 3 then qGI vs objs K else none
def qDk : Ctx := mkC 37 ((qFm (qj oNil))) [(3, [1, 2, 5, 6], [1, 2, 5])] qSZ
theorem qLy : CtxOK Tryz.prog qDk := mkC_ok ((qK3 _ (q7 _ oNil_ok)))
def qGH (f : Nat) (x0 x1 x2 : Int) (x3 x4 : List Int) (x5 : Int) : Option (Int × Int × List Int × List Int × Int) := lrun qDk 0 [1, 2, 5, 6] [1, 2, 5] (loopOf Tryz.f51 3) f ([.s (.i .i64 x0), .s (.ptr 0 0 none 0), .s (.i .i64 x1), .s (.i .i64 x2)]) ([.cells 28 [.arr .i8 81 x3, .arr .i8 16 x4, .one [.i .i8 x5]]]) qGG
theorem qSY (f : Nat) (x0 x1 x2 : Int) (x3 x4 : List Int) (x5 : Int) : qGH (f + 1) x0 x1 x2 x3 x4 x5 = qCF (qGH f) x0 x1 x2 x3 x4 x5 := by kernel_rfl
theorem qL0 : ∀ f, qGH f = qAv f
 | 0 => rfl
 | f + 1 => by funext x0 x1 x2 x3 x4 x5; rw [qSY, qL0 f]; rfl
theorem qSb : LoopSound Tryz.prog qDk 0 (loopOf Tryz.f51 3) :=
 loopSound_by mixed qLy (AllP.of (l' := []) (by kernel_rfl) trivial) (q := 3) (kin := [1, 2, 5, 6]) (kout := [1, 2, 5]) (by kernel_rfl) (by kernel_rfl) fun vs objs K r h => by
  replace h : qGI vs objs K = some r := h
  unfold qGI at h
  split at h
  ·skip
   obtain ⟨t, h1, h2⟩ := ob_ok h
   rw [← qL0] at h1
   refine ⟨_, qGG, t, many, h1, fun e vs' objs' hd => ?_⟩
   unfold qGG at hd
   split at hd
   ·skip
    cases hd
    exact h2
   ·cases hd
  ·cases h
def qLz : V → List Obj → Option (Int) := fun v objs => match v, objs with
 | .s (.i .i64 y0), [] => some (y0)
 | _, _ => none
theorem qSX (x0 x1 : List Int) (x2 x3 : Int) : fnE qDk Tryz.f51 ([.agg [.arr .i8 81 x0, .arr .i8 16 x1, .one [.i .i8 x2]], .s (.i .i64 x3)]) ([]) qLz = qCw x0 x1 x2 x3 := by kernel_rfl
def qLx {R : Type} (o : Orc) (vs : List V) (objs : List Obj) (K : Bool → V → List Obj → Option R) : Option R := match vs, objs with
 | [.agg [.arr .i8 81 x0, .arr .i8 16 x1, .one [.i .i8 x2]], .s (.i .i64 x3)], [] => ob (qCw x0 x1 x2 x3) fun y0 => K false (.s (.i .i64 y0)) ([])
 | _, _ => o 51 vs objs K
def qL1 (o : Orc) : Orc := hook 51 (qLx o) o
theorem qSa (o : Orc) (ho : OSound Tryz.prog o) : OSound Tryz.prog (qL1 o) := hook_ok ho fun vs objs K r h => by
 unfold qLx at h
 split at h
 ·skip
  obtain ⟨t, h1, h2⟩ := ob_ok h
  refine anyOK_of mixed qLy (fn := Tryz.f51) (b := (Tryz.f51).body.getD .skip) (by kernel_rfl) (by kernel_rfl) (by kernel_rfl) ((qSX _ _ _ _).trans h1) (m := 0) rfl (AllP.of (l' := [loopOf Tryz.f51 3]) (by kernel_rfl) ⟨qSb, trivial⟩) fun v objs' hd => ?_
  unfold qLz at hd
  split at hd
  ·skip
   cases hd
   exact h2
  ·cases hd
 ·exact ho _ _ _ _ _ h
def qK8 : Ctx := mkC 15 (oNil) [] lpNil
theorem qRn : CtxOK Tryz.prog qK8 := mkC_ok (oNil_ok)
def qK9 : V → List Obj → Option (Int) := fun v objs => match v, objs with
 | .s (.i .i64 y0), [] => some (y0)
 | _, _ => none
theorem qRm (x0 : Int) : fnE qK8 Tryz.f52 ([.s (.i .i64 x0)]) ([]) qK9 = qCt x0 := by kernel_rfl
def qK7 {R : Type} (o : Orc) (vs : List V) (objs : List Obj) (K : Bool → V → List Obj → Option R) : Option R := match vs, objs with
 | [.s (.i .i64 x0)], [] => ob (qCt x0) fun y0 => K false (.s (.i .i64 y0)) ([])
 | _, _ => o 52 vs objs K
def qLA (o : Orc) : Orc := hook 52 (qK7 o) o
theorem qRo (o : Orc) (ho : OSound Tryz.prog o) : OSound Tryz.prog (qLA o) := hook_ok ho fun vs objs K r h => by
 unfold qK7 at h
 split at h
 ·skip
  obtain ⟨t, h1, h2⟩ := ob_ok h
  refine anyOK_of mixed qRn (fn := Tryz.f52) (b := (Tryz.f52).body.getD .skip) (by kernel_rfl) (by kernel_rfl) (by kernel_rfl) ((qRm _).trans h1) (m := 0) rfl (AllP.of (l' := []) (by kernel_rfl) trivial) fun v objs' hd => ?_
  unfold qK9 at hd
  split at hd
  ·skip
   cases hd
   exact h2
  ·cases hd
 ·exact ho _ _ _ _ _ h
def qK5 : Ctx := mkC 8 ((qj oNil)) [] lpNil
theorem qRl : CtxOK Tryz.prog qK5 := mkC_ok ((q7 _ oNil_ok))
def qK6 : V → List Obj → Option (Int) := fun v objs => match v, objs with
 | .s (.i .i64 y0), [] => some (y0)
 | _, _ => none
theorem qRk (x0 : Int) : fnE qK5 Tryz.f38 ([.s (.i .i64 x0)]) ([]) qK6 = qH x0 := by kernel_rfl
def qK4 {R : Type} (o : Orc) (vs : List V) (objs : List Obj) (K : Bool → V → List Obj → Option R) : Option R := match vs, objs with
 | [.s (.i .i64 x0)], [] => ob (qH x0) fun y0 => K false (.s (.i .i64 y0)) ([])
 | _, _ => o 38 vs objs K
def qAp (o : Orc) : Orc := hook 38 (qK4 o) o
theorem qBR (o : Orc) (ho : OSound Tryz.prog o) : OSound Tryz.prog (qAp o) := hook_ok ho fun vs objs K r h => by
 unfold qK4 at h
 split at h
 ·skip
  obtain ⟨t, h1, h2⟩ := ob_ok h
  refine anyOK_of mixed qRl (fn := Tryz.f38) (b := (Tryz.f38).body.getD .skip) (by kernel_rfl) (by kernel_rfl) (by kernel_rfl) ((qRk _).trans h1) (m := 0) rfl (AllP.of (l' := []) (by kernel_rfl) trivial) fun v objs' hd => ?_
  unfold qK6 at hd
  split at hd
  ·skip
   cases hd
   exact h2
  ·cases hd
 ·exact ho _ _ _ _ _ h
def qLI : Ctx := mkC 26 (oNil) [] lpNil
theorem qRu : CtxOK Tryz.prog qLI := mkC_ok (oNil_ok)
def qLJ : V → List Obj → Option (Int) := fun v objs => match v, objs with
 | .s (.i .i64 y0), [] => some (y0)
 | _, _ => none
theorem qRt (x0 x1 : Int) : fnE qLI Tryz.f101 ([.s (.i .i64 x0), .s (.i .i64 x1)]) ([]) qLJ = ql x0 x1 := by kernel_rfl
def qLH {R : Type} (o : Orc) (vs : List V) (objs : List Obj) (K : Bool → V → List Obj → Option R) : Option R := match vs, objs with
 | [.s (.i .i64 x0), .s (.i .i64 x1)], [] => ob (ql x0 x1) fun y0 => K false (.s (.i .i64 y0)) ([])
 | _, _ => o 101 vs objs K
def qFp (o : Orc) : Orc := hook 101 (qLH o) o
theorem qLK (o : Orc) (ho : OSound Tryz.prog o) : OSound Tryz.prog (qFp o) := hook_ok ho fun vs objs K r h => by
 unfold qLH at h
 split at h
 ·skip
  obtain ⟨t, h1, h2⟩ := ob_ok h
  refine anyOK_of mixed qRu (fn := Tryz.f101) (b := (Tryz.f101).body.getD .skip) (by kernel_rfl) (by kernel_rfl) (by kernel_rfl) ((qRt _ _).trans h1) (m := 0) rfl (AllP.of (l' := []) (by kernel_rfl) trivial) fun v objs' hd => ?_
  unfold qLJ at hd
  split at hd
  ·skip
   cases hd
   exact h2
  ·cases hd
 ·exact ho _ _ _ _ _ h
def qLF : Ctx := mkC 35 ((qj (qFp (qAp oNil)))) [] lpNil
theorem qRs : CtxOK Tryz.prog qLF := mkC_ok ((q7 _ (qLK _ (qBR _ oNil_ok))))
def qLG : V → List Obj → Option (Bool) := fun v objs => match v, objs with
 | .s (.b y0), [] => some (y0)
 | _, _ => none
theorem qRr (x0 x1 : Int) : fnE qLF Tryz.f53 ([.s (.i .i64 x0), .s (.i .i64 x1)]) ([]) qLG = qk x0 x1 := by kernel_rfl
def qLE {R : Type} (o : Orc) (vs : List V) (objs : List Obj) (K : Bool → V → List Obj → Option R) : Option R := match vs, objs with
 | [.s (.i .i64 x0), .s (.i .i64 x1)], [] => ob (qk x0 x1) fun y0 => K false (.s (.b y0)) ([])
 | _, _ => o 53 vs objs K
def qDg (o : Orc) : Orc := hook 53 (qLE o) o
theorem qFo (o : Orc) (ho : OSound Tryz.prog o) : OSound Tryz.prog (qDg o) := hook_ok ho fun vs objs K r h => by
 unfold qLE at h
 split at h
 ·skip
  obtain ⟨t, h1, h2⟩ := ob_ok h
  refine anyOK_of mixed qRs (fn := Tryz.f53) (b := (Tryz.f53).body.getD .skip) (by kernel_rfl) (by kernel_rfl) (by kernel_rfl) ((qRr _ _).trans h1) (m := 0) rfl (AllP.of (l' := []) (by kernel_rfl) trivial) fun v objs' hd => ?_
  unfold qLG at hd
  split at hd
  ·skip
   cases hd
   exact h2
  ·cases hd
 ·exact ho _ _ _ _ _ h
end
end Go.Kk.KkMS
