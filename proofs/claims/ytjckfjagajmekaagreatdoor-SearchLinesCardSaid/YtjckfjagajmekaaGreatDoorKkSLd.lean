/- Printed by a tool of this project (KkGen): the program's functions come to the plain ones. -/
import Derived.Test.YtjckfjagajmekaaGreatDoorKkSLc
namespace Go.Kk.KkSL
noncomputable section
open Go.Proofs Go.Kk.Pl
set_option maxRecDepth 100000
set_option maxHeartbeats 4000000
def qRK:Ex->List V->List Obj->Option (Int×Int×Nat×Int×Nat×LL×Int×Nat×Int×Int×Nat×Int×Bool×Int×Int×Nat×Nat×Int×Bool×LI×LI×Int×LL×LL×Nat×LL×Nat×LL×Nat×LL):=fun e vs objs=>match e,vs,objs with
 | .exit 0,[.s (.ptr 0 0 none 0),.s (.ptr 4 0 none 0),.s (.ptr 5 0 none 0)],[.cells 60 [.one [.ptr 1 0 none 0,.ptr 3 0 none 0,.i .i64 y0,.i .i64 y1]],.cells 104 [.one [.sl 2 0 y2 true,.i .i64 y3]],.sli 135 false (.rows kk0 y4 y5),.cells 65 [.one [.ptr 6 0 none 0,.i .u64 y6,.sl 7 0 y7 true]],.cells 38 [.one [.i .i64 y8,.i .i64 y9,.sl 8 0 y10 true,.i .i64 y11,.b y12]],.cells 38 [.one [.i .i64 y13,.i .i64 y14,.sl 9 y15 y16 false,.i .i64 y17,.b y18]],.cells 84 [.arr .i8 81 y19,.arr .i8 16 y20,.one [.i .i8 y21],.rows [.i .u64,.i .u64] 32 y22,.rows [.i .u64,.i .u64] 2 y23],.sli 125 false (.rows [.i .i64,.i .i64,.i .i64,.b,.i .i8,.i .i8] y24 y25),.sli 41 false (.rows [.i .i64,.i .i64,.i .i64,.b] y26 y27),.sli 41 false (.rows [.i .i64,.i .i64,.i .i64,.b] y28 y29)]=>bif decide (kk0=kL0) then some (y0,y1,y2,y3,y4,y5,y6,y7,y8,y9,y10,y11,y12,y13,y14,y15,y16,y17,y18,y19,y20,y21,y22,y23,y24,y25,y26,y27,y28,y29) else none
 | _,_,_=>none
def qRN:HL:=fun vs objs K=>match vs,objs with
 | [.s (.ptr 0 0 none 0),.s (.i .i64 x0),.s (.ptr 4 0 none 0),.s (.ptr 5 0 none 0),.s (.i .i64 x1)],[.cells 60 [.one [.ptr 1 0 none 0,.ptr 3 0 none 0,.i .i64 x2,.i .i64 x3]],.cells 104 [.one [.sl 2 0 x4 true,.i .i64 x5]],.sli 135 false (.rows kk0 x6 x7),.cells 65 [.one [.ptr 6 0 none 0,.i .u64 x8,.sl 7 0 x9 true]],.cells 38 [.one [.i .i64 x10,.i .i64 x11,.sl 8 0 x12 true,.i .i64 x13,.b x14]],.cells 38 [.one [.i .i64 x15,.i .i64 x16,.sl 9 x17 x18 false,.i .i64 x19,.b x20]],.cells 84 [.arr .i8 81 x21,.arr .i8 16 x22,.one [.i .i8 x23],.rows [.i .u64,.i .u64] 32 x24,.rows [.i .u64,.i .u64] 2 x25],.sli 125 false (.rows [.i .i64,.i .i64,.i .i64,.b,.i .i8,.i .i8] x26 x27),.sli 41 false (.rows [.i .i64,.i .i64,.i .i64,.b] x28 x29),.sli 41 false (.rows [.i .i64,.i .i64,.i .i64,.b] x30 x31)]=>bif decide (kk0=kL0) then ob (qCw qC x0 x1 x2 x3 x4 x5 x6 x7 x8 x9 x10 x11 x12 x13 x14 x15 x16 x17 x18 x19 x20 x21 x22 x23 x24 x25 x26 x27 x28 x29 x30 x31) fun z=>K (.exit 0) ([.s (.ptr 0 0 none 0),.s (.ptr 4 0 none 0),.s (.ptr 5 0 none 0)]) ([.cells 60 [.one [.ptr 1 0 none 0,.ptr 3 0 none 0,.i .i64 (z.1),.i .i64 (z.2.1)]],.cells 104 [.one [.sl 2 0 (z.2.2.1) true,.i .i64 (z.2.2.2.1)]],.sli 135 false (.rows kL0 (z.2.2.2.2.1) (z.2.2.2.2.2.1)),.cells 65 [.one [.ptr 6 0 none 0,.i .u64 (z.2.2.2.2.2.2.1),.sl 7 0 (z.2.2.2.2.2.2.2.1) true]],.cells 38 [.one [.i .i64 (z.2.2.2.2.2.2.2.2.1),.i .i64 (z.2.2.2.2.2.2.2.2.2.1),.sl 8 0 (z.2.2.2.2.2.2.2.2.2.2.1) true,.i .i64 (z.2.2.2.2.2.2.2.2.2.2.2.1),.b (z.2.2.2.2.2.2.2.2.2.2.2.2.1)]],.cells 38 [.one [.i .i64 (z.2.2.2.2.2.2.2.2.2.2.2.2.2.1),.i .i64 (z.2.2.2.2.2.2.2.2.2.2.2.2.2.2.1),.sl 9 (z.2.2.2.2.2.2.2.2.2.2.2.2.2.2.2.1) (z.2.2.2.2.2.2.2.2.2.2.2.2.2.2.2.2.1) false,.i .i64 (z.2.2.2.2.2.2.2.2.2.2.2.2.2.2.2.2.2.1),.b (z.2.2.2.2.2.2.2.2.2.2.2.2.2.2.2.2.2.2.1)]],.cells 84 [.arr .i8 81 (z.2.2.2.2.2.2.2.2.2.2.2.2.2.2.2.2.2.2.2.1),.arr .i8 16 (z.2.2.2.2.2.2.2.2.2.2.2.2.2.2.2.2.2.2.2.2.1),.one [.i .i8 (z.2.2.2.2.2.2.2.2.2.2.2.2.2.2.2.2.2.2.2.2.2.1)],.rows [.i .u64,.i .u64] 32 (z.2.2.2.2.2.2.2.2.2.2.2.2.2.2.2.2.2.2.2.2.2.2.1),.rows [.i .u64,.i .u64] 2 (z.2.2.2.2.2.2.2.2.2.2.2.2.2.2.2.2.2.2.2.2.2.2.2.1)],.sli 125 false (.rows [.i .i64,.i .i64,.i .i64,.b,.i .i8,.i .i8] (z.2.2.2.2.2.2.2.2.2.2.2.2.2.2.2.2.2.2.2.2.2.2.2.2.1) (z.2.2.2.2.2.2.2.2.2.2.2.2.2.2.2.2.2.2.2.2.2.2.2.2.2.1)),.sli 41 false (.rows [.i .i64,.i .i64,.i .i64,.b] (z.2.2.2.2.2.2.2.2.2.2.2.2.2.2.2.2.2.2.2.2.2.2.2.2.2.2.1) (z.2.2.2.2.2.2.2.2.2.2.2.2.2.2.2.2.2.2.2.2.2.2.2.2.2.2.2.1)),.sli 41 false (.rows [.i .i64,.i .i64,.i .i64,.b] (z.2.2.2.2.2.2.2.2.2.2.2.2.2.2.2.2.2.2.2.2.2.2.2.2.2.2.2.2.1) (z.2.2.2.2.2.2.2.2.2.2.2.2.2.2.2.2.2.2.2.2.2.2.2.2.2.2.2.2.2))]) else none
 | _,_=>none
def qoh:{R:Type}->Nat->List V->List Obj->(Ex->List V->List Obj->Option R)->Option R:=fun q vs objs K=>bif Nat.beq q 8 then qRN vs objs K else none
def qL6:Ctx:=mkC 70 ((qRQ qC (qOr (qUY qM)))) [(8,[0,2,8,9,11],[0,8,9]),(2097152,[60,0,1],[])] qoh
theorem qaw:CtxOK Tryz.prog qL6:=mkC_ok ((qon qC _ (qWN _ (qgZ _ qO))))
def qRL (f:Nat) (x0 x1:Int) (x2 x3:Int) (x4:Nat) (x5:Int) (x6:Nat) (x7:LL) (x8:Int) (x9:Nat) (x10 x11:Int) (x12:Nat) (x13:Int) (x14:Bool) (x15 x16:Int) (x17 x18:Nat) (x19:Int) (x20:Bool) (x21 x22:LI) (x23:Int) (x24 x25:LL) (x26:Nat) (x27:LL) (x28:Nat) (x29:LL) (x30:Nat) (x31:LL):Option (Int×Int×Nat×Int×Nat×LL×Int×Nat×Int×Int×Nat×Int×Bool×Int×Int×Nat×Nat×Int×Bool×LI×LI×Int×LL×LL×Nat×LL×Nat×LL×Nat×LL):=qh qL6 3 [0,2,8,9,11] [0,8,9] (qG Tryz.f9 8) f ([.s (.ptr 0 0 none 0),.s (.i .i64 x0),.s (.ptr 4 0 none 0),.s (.ptr 5 0 none 0),.s (.i .i64 x1)]) ([.cells 60 [.one [.ptr 1 0 none 0,.ptr 3 0 none 0,.i .i64 x2,.i .i64 x3]],.cells 104 [.one [.sl 2 0 x4 true,.i .i64 x5]],.sli 135 false (.rows kL0 x6 x7),.cells 65 [.one [.ptr 6 0 none 0,.i .u64 x8,.sl 7 0 x9 true]],.cells 38 [.one [.i .i64 x10,.i .i64 x11,.sl 8 0 x12 true,.i .i64 x13,.b x14]],.cells 38 [.one [.i .i64 x15,.i .i64 x16,.sl 9 x17 x18 false,.i .i64 x19,.b x20]],.cells 84 [.arr .i8 81 x21,.arr .i8 16 x22,.one [.i .i8 x23],.rows [.i .u64,.i .u64] 32 x24,.rows [.i .u64,.i .u64] 2 x25],.sli 125 false (.rows [.i .i64,.i .i64,.i .i64,.b,.i .i8,.i .i8] x26 x27),.sli 41 false (.rows [.i .i64,.i .i64,.i .i64,.b] x28 x29),.sli 41 false (.rows [.i .i64,.i .i64,.i .i64,.b] x30 x31)]) qRK
theorem qog (f:Nat) (x0 x1:Int) (x2 x3:Int) (x4:Nat) (x5:Int) (x6:Nat) (x7:LL) (x8:Int) (x9:Nat) (x10 x11:Int) (x12:Nat) (x13:Int) (x14:Bool) (x15 x16:Int) (x17 x18:Nat) (x19:Int) (x20:Bool) (x21 x22:LI) (x23:Int) (x24 x25:LL) (x26:Nat) (x27:LL) (x28:Nat) (x29:LL) (x30:Nat) (x31:LL):qRL (f+1) x0 x1 x2 x3 x4 x5 x6 x7 x8 x9 x10 x11 x12 x13 x14 x15 x16 x17 x18 x19 x20 x21 x22 x23 x24 x25 x26 x27 x28 x29 x30 x31=qJo (qRL f) x0 x1 x2 x3 x4 x5 x6 x7 x8 x9 x10 x11 x12 x13 x14 x15 x16 x17 x18 x19 x20 x21 x22 x23 x24 x25 x26 x27 x28 x29 x30 x31:=by kernel_rfl
theorem qay:∀ f,qRL f=qCw f
 | 0=>rfl
 | f+1=>by funext x0 x1 x2 x3 x4 x5 x6 x7 x8 x9 x10 x11 x12 x13 x14 x15 x16 x17 x18 x19 x20 x21 x22 x23 x24 x25 x26 x27 x28 x29 x30 x31;rw[qog,qay f];rfl
theorem qoi:qe Tryz.prog qL6 3 (qG Tryz.f9 8):=
 qj mixed qaw (qT.of (l':=[]) (by kernel_rfl) trivial) (q:=8) (kin:=[0,2,8,9,11]) (kout:=[0,8,9]) (by kernel_rfl) (by kernel_rfl) fun vs objs K r h=>by
  replace h:qRN vs objs K=some r:=h
  unfold qRN at h
  split at h
  ·skip
   have g:=(qN h).1
   replace h:=(qN h).2
   obtain rfl:=of_decide_eq_true g
   obtain⟨t,h1,h2⟩:=qF h
   rw[<- qay] at h1
   refine⟨_,qRK,t,qC,h1,fun e vs' objs' hd=>?_⟩
   unfold qRK at hd
   split at hd
   ·skip
    have g:=(qN hd).1
    replace hd:=(qN hd).2
    obtain rfl:=of_decide_eq_true g
    cases hd
    exact h2
   ·cases hd
  ·cases h
def qax:V->List Obj->Option ((Int×Int×Nat×Int×Bool×Int×Int×Nat×Int×Nat×LL×Nat×LL)⊕(Int×Int×Nat×Nat×Int×Bool×Int×Int×Nat×Int×Nat×LL×Nat×LL)):=fun v objs=>match v,objs with
 | .agg [.one [.i .i64 y0,.i .i64 y1,.sl 3 y2 y3 false,.i .i64 y4,.b y5]],[.cells 60 [.one [.ptr 1 0 none 0,.bad,.i .i64 y6,.i .i64 y7]],.cells 104 [.one [.sl 2 0 y8 true,.i .i64 y9]],.sli 135 false (.rows kk0 y10 y11),.sli 41 false (.rows [.i .i64,.i .i64,.i .i64,.b] y12 y13)]=>bif decide (kk0=kL0) then some (.inr (y0,y1,y2,y3,y4,y5,y6,y7,y8,y9,y10,y11,y12,y13)) else none
 | _,_=>match v,objs with
 | .agg [.one [.i .i64 y0,.i .i64 y1,.sl 3 0 y2 true,.i .i64 y3,.b y4]],[.cells 60 [.one [.ptr 1 0 none 0,.bad,.i .i64 y5,.i .i64 y6]],.cells 104 [.one [.sl 2 0 y7 true,.i .i64 y8]],.sli 135 false (.rows kk0 y9 y10),.sli 41 false (.rows [.i .i64,.i .i64,.i .i64,.b] y11 y12)]=>bif decide (kk0=kL0) then some (.inl (y0,y1,y2,y3,y4,y5,y6,y7,y8,y9,y10,y11,y12)) else none
 | _,_=>none
theorem qof (x0 x1:LI) (x2 x3:Int) (x4 x5 x6:Int) (x7:Nat) (x8:Int) (x9:Nat) (x10:LL):fnE qL6 Tryz.f9 ([.s (.ptr 0 0 none 0),.agg [.arr .i8 81 x0,.arr .i8 16 x1,.one [.i .i8 x2]],.s (.i .i64 x3),.s (.i .i64 x4)]) ([.cells 60 [.one [.ptr 1 0 none 0,.bad,.i .i64 x5,.i .i64 x6]],.cells 104 [.one [.sl 2 0 x7 true,.i .i64 x8]],.sli 135 false (.rows kL0 x9 x10)]) qax=qFZ x0 x1 x2 x3 x4 x5 x6 x7 x8 x9 x10:=by kernel_rfl
def qav:HA:=fun o vs objs K=>match vs,objs with
 | [.s (.ptr 0 0 none 0),.agg [.arr .i8 81 x0,.arr .i8 16 x1,.one [.i .i8 x2]],.s (.i .i64 x3),.s (.i .i64 x4)],[.cells 60 [.one [.ptr 1 0 none 0,.bad,.i .i64 x5,.i .i64 x6]],.cells 104 [.one [.sl 2 0 x7 true,.i .i64 x8]],.sli 135 false (.rows kk0 x9 x10)]=>bif decide (kk0=kL0) then ob (qFZ x0 x1 x2 x3 x4 x5 x6 x7 x8 x9 x10) fun t0=>sw t0 (fun z=>K false (.agg [.one [.i .i64 (z.1),.i .i64 (z.2.1),.sl 3 0 (z.2.2.1) true,.i .i64 (z.2.2.2.1),.b (z.2.2.2.2.1)]]) ([.cells 60 [.one [.ptr 1 0 none 0,.bad,.i .i64 (z.2.2.2.2.2.1),.i .i64 (z.2.2.2.2.2.2.1)]],.cells 104 [.one [.sl 2 0 (z.2.2.2.2.2.2.2.1) true,.i .i64 (z.2.2.2.2.2.2.2.2.1)]],.sli 135 false (.rows kL0 (z.2.2.2.2.2.2.2.2.2.1) (z.2.2.2.2.2.2.2.2.2.2.1)),.sli 41 false (.rows [.i .i64,.i .i64,.i .i64,.b] (z.2.2.2.2.2.2.2.2.2.2.2.1) (z.2.2.2.2.2.2.2.2.2.2.2.2))])) (fun z=>K false (.agg [.one [.i .i64 (z.1),.i .i64 (z.2.1),.sl 3 (z.2.2.1) (z.2.2.2.1) false,.i .i64 (z.2.2.2.2.1),.b (z.2.2.2.2.2.1)]]) ([.cells 60 [.one [.ptr 1 0 none 0,.bad,.i .i64 (z.2.2.2.2.2.2.1),.i .i64 (z.2.2.2.2.2.2.2.1)]],.cells 104 [.one [.sl 2 0 (z.2.2.2.2.2.2.2.2.1) true,.i .i64 (z.2.2.2.2.2.2.2.2.2.1)]],.sli 135 false (.rows kL0 (z.2.2.2.2.2.2.2.2.2.2.1) (z.2.2.2.2.2.2.2.2.2.2.2.1)),.sli 41 false (.rows [.i .i64,.i .i64,.i .i64,.b] (z.2.2.2.2.2.2.2.2.2.2.2.2.1) (z.2.2.2.2.2.2.2.2.2.2.2.2.2))])) else none
 | _,_=>o 9 vs objs K
def qL7 (o:Orc):Orc:=qP 9 (qav o) o
theorem qRM:OQ Tryz.prog qL7:=fun _ ho=>qQ ho fun vs objs K r h=>by
 unfold qav at h
 split at h
 ·skip
  have g:=(qN h).1
  replace h:=(qN h).2
  obtain rfl:=of_decide_eq_true g
  obtain⟨t,h1,h2⟩:=qF h
  refine qAe mixed qaw (fn:=Tryz.f9) (b:=(Tryz.f9).body.getD .skip) (by kernel_rfl) (by kernel_rfl) (by kernel_rfl) ((qof _ _ _ _ _ _ _ _ _ _ _).trans h1) (m:=3) rfl (qT.of (l':=[qG Tryz.f9 8]) (by kernel_rfl) ⟨qoi,trivial⟩) fun v objs' hd=>?_
  unfold qax at hd
  split at hd
  ·skip
   have g:=(qN hd).1
   replace hd:=(qN hd).2
   obtain rfl:=of_decide_eq_true g
   cases hd
   exact h2
  ·skip
   split at hd
   ·skip
    have g:=(qN hd).1
    replace hd:=(qN hd).2
    obtain rfl:=of_decide_eq_true g
    cases hd
    exact h2
   ·skip
    cases hd
 ·exact ho _ _ _ _ _ h
def qWB:Ctx:=mkC 55 ((qL7 (qRJ qM))) [] qW
theorem qid:CtxOK Tryz.prog qWB:=mkC_ok ((qRM _ (qau _ qO)))
def qWC:V->List Obj->Option (Bool):=fun v objs=>match v,objs with
 | .s (.b y0),[]=>some (y0)
 | _,_=>none
theorem qic:fnE qWB Tryz.f6 ([]) ([]) qWC=qK1  := by kernel_rfl
def qWA:HA:=fun o vs objs K=>match vs,objs with
 | [],[]=>ob (qK1 ) fun y0=>K false (.s (.b y0)) ([])
 | _,_=>o 6 vs objs K
def qWD (o:Orc):Orc:=qP 6 (qWA o) o
theorem qie:OQ Tryz.prog qWD:=fun _ ho=>qQ ho fun vs objs K r h=>by
 unfold qWA at h
 split at h
 ·skip
  obtain⟨t,h1,h2⟩:=qF h
  refine qa mixed qid ((qic).trans h1) (by kernel_rfl) fun v objs' hd=>?_
  unfold qWC at hd;split at hd;(cases hd;exact h2);cases hd
 ·exact ho _ _ _ _ _ h
def qYL:Ctx:=mkC 23 (qM) [] qW
theorem qly:CtxOK Tryz.prog qYL:=mkC_ok (qO)
def qYM:V->List Obj->Option (Int):=fun v objs=>match v,objs with
 | .s (.i .i64 y0),[]=>some (y0)
 | _,_=>none
theorem qlx (x0:Int):fnE qYL Tryz.f24 ([.s (.i .i64 x0)]) ([]) qYM=qAS x0:=by kernel_rfl
def qYK:HA:=fun o vs objs K=>match vs,objs with
 | [.s (.i .i64 x0)],[]=>ob (qAS x0) fun y0=>K false (.s (.i .i64 y0)) ([])
 | _,_=>o 24 vs objs K
def qDA (o:Orc):Orc:=qP 24 (qYK o) o
theorem qDe:OQ Tryz.prog qDA:=fun _ ho=>qQ ho fun vs objs K r h=>by
 unfold qYK at h
 split at h
 ·skip
  obtain⟨t,h1,h2⟩:=qF h
  refine qa mixed qly ((qlx _).trans h1) (by kernel_rfl) fun v objs' hd=>?_
  unfold qYM at hd;split at hd;(cases hd;exact h2);cases hd
 ·exact ho _ _ _ _ _ h
def qQR:Ex->List V->List Obj->Option (Int):=fun e vs objs=>match e,vs,objs with
 | .exit 0,[.s (.i .i64 y0)],[]=>some (y0)
 | _,_,_=>none
def qQU:HL:=fun vs objs K=>match vs,objs with
 | [.s (.i .i64 x0),.s (.i .i64 x1),.s (.ptr 0 0 none 0),.s (.i .i64 x2),.s (.i .i64 x3)],[.cells 29 [.arr .i8 81 x4,.arr .i8 16 x5,.one [.i .i8 x6]]]=>ob (qCZ qC x0 x1 x2 x3 x4 x5 x6) fun y0=>K (.exit 0) ([.s (.i .i64 y0)]) ([])
 | _,_=>none
def qmv:{R:Type}->Nat->List V->List Obj->(Ex->List V->List Obj->Option R)->Option R:=fun q vs objs K=>bif Nat.beq q 3 then qQU vs objs K else none
def qLq:Ctx:=mkC 26 (qM) [(3,[1,2,3,7,8],[7])] qmv
theorem qZQ:CtxOK Tryz.prog qLq:=mkC_ok (qO)
def qQS (f:Nat) (x0 x1:Int) (x2 x3:Int) (x4 x5:LI) (x6:Int):Option (Int):=qh qLq 0 [1,2,3,7,8] [7] (qG Tryz.f39 3) f ([.s (.i .i64 x0),.s (.i .i64 x1),.s (.ptr 0 0 none 0),.s (.i .i64 x2),.s (.i .i64 x3)]) ([.cells 29 [.arr .i8 81 x4,.arr .i8 16 x5,.one [.i .i8 x6]]]) qQR
theorem qmu (f:Nat) (x0 x1:Int) (x2 x3:Int) (x4 x5:LI) (x6:Int):qQS (f+1) x0 x1 x2 x3 x4 x5 x6=qDm (qQS f) x0 x1 x2 x3 x4 x5 x6:=by kernel_rfl
theorem qZS:∀ f,qQS f=qCZ f
 | 0=>rfl
 | f+1=>by funext x0 x1 x2 x3 x4 x5 x6;rw[qmu,qZS f];rfl
theorem qmw:qe Tryz.prog qLq 0 (qG Tryz.f39 3):=
 qj mixed qZQ (qT.of (l':=[]) (by kernel_rfl) trivial) (q:=3) (kin:=[1,2,3,7,8]) (kout:=[7]) (by kernel_rfl) (by kernel_rfl) fun vs objs K r h=>by
  replace h:qQU vs objs K=some r:=h
  unfold qQU at h
  split at h
  ·skip
   obtain⟨t,h1,h2⟩:=qF h
   rw[<- qZS] at h1
   refine⟨_,qQR,t,qC,h1,fun e vs' objs' hd=>?_⟩
   unfold qQR at hd;split at hd;(cases hd;exact h2);cases hd
  ·cases h
def qZR:V->List Obj->Option (Int):=fun v objs=>match v,objs with
 | .s (.i .i64 y0),[]=>some (y0)
 | _,_=>none
theorem qmt (x0 x1:LI) (x2 x3 x4:Int):fnE qLq Tryz.f39 ([.agg [.arr .i8 81 x0,.arr .i8 16 x1,.one [.i .i8 x2]],.s (.i .i64 x3),.s (.i .i64 x4)]) ([]) qZR=qDl x0 x1 x2 x3 x4:=by kernel_rfl
def qZP:HA:=fun o vs objs K=>match vs,objs with
 | [.agg [.arr .i8 81 x0,.arr .i8 16 x1,.one [.i .i8 x2]],.s (.i .i64 x3),.s (.i .i64 x4)],[]=>ob (qDl x0 x1 x2 x3 x4) fun y0=>K false (.s (.i .i64 y0)) ([])
 | _,_=>o 39 vs objs K
def qLr (o:Orc):Orc:=qP 39 (qZP o) o
theorem qQT:OQ Tryz.prog qLr:=fun _ ho=>qQ ho fun vs objs K r h=>by
 unfold qZP at h
 split at h
 ·skip
  obtain⟨t,h1,h2⟩:=qF h
  refine qAe mixed qZQ (fn:=Tryz.f39) (b:=(Tryz.f39).body.getD .skip) (by kernel_rfl) (by kernel_rfl) (by kernel_rfl) ((qmt _ _ _ _ _).trans h1) (m:=0) rfl (qT.of (l':=[qG Tryz.f39 3]) (by kernel_rfl) ⟨qmw,trivial⟩) fun v objs' hd=>?_
  unfold qZR at hd;split at hd;(cases hd;exact h2);cases hd
 ·exact ho _ _ _ _ _ h
def qQZ:Ex->List V->List Obj->Option (Int):=fun e vs objs=>match e,vs,objs with
 | .exit 0,[.s (.i .i64 y0)],[]=>some (y0)
 | _,_,_=>none
def qQb:HL:=fun vs objs K=>match vs,objs with
 | [.s (.i .i64 x0),.s (.ptr 0 0 none 0),.s (.i .i64 x1),.s (.i .i64 x2)],[.cells 29 [.arr .i8 81 x3,.arr .i8 16 x4,.one [.i .i8 x5]]]=>ob (qCa qC x0 x1 x2 x3 x4 x5) fun y0=>K (.exit 0) ([.s (.i .i64 y0)]) ([])
 | _,_=>none
def qm3:{R:Type}->Nat->List V->List Obj->(Ex->List V->List Obj->Option R)->Option R:=fun q vs objs K=>bif Nat.beq q 3 then qQb vs objs K else none
def qLu:Ctx:=mkC 18 ((qLr qM)) [(3,[1,2,5,6],[5])] qm3
theorem qZY:CtxOK Tryz.prog qLu:=mkC_ok ((qQT _ qO))
def qQa (f:Nat) (x0 x1 x2:Int) (x3 x4:LI) (x5:Int):Option (Int):=qh qLu 0 [1,2,5,6] [5] (qG Tryz.f35 3) f ([.s (.i .i64 x0),.s (.ptr 0 0 none 0),.s (.i .i64 x1),.s (.i .i64 x2)]) ([.cells 29 [.arr .i8 81 x3,.arr .i8 16 x4,.one [.i .i8 x5]]]) qQZ
theorem qm2 (f:Nat) (x0 x1 x2:Int) (x3 x4:LI) (x5:Int):qQa (f+1) x0 x1 x2 x3 x4 x5=qDn (qQa f) x0 x1 x2 x3 x4 x5:=by kernel_rfl
theorem qZa:∀ f,qQa f=qCa f
 | 0=>rfl
 | f+1=>by funext x0 x1 x2 x3 x4 x5;rw[qm2,qZa f];rfl
theorem qm5:qe Tryz.prog qLu 0 (qG Tryz.f35 3):=
 qj mixed qZY (qT.of (l':=[]) (by kernel_rfl) trivial) (q:=3) (kin:=[1,2,5,6]) (kout:=[5]) (by kernel_rfl) (by kernel_rfl) fun vs objs K r h=>by
  replace h:qQb vs objs K=some r:=h
  unfold qQb at h
  split at h
  ·skip
   obtain⟨t,h1,h2⟩:=qF h
   rw[<- qZa] at h1
   refine⟨_,qQZ,t,qC,h1,fun e vs' objs' hd=>?_⟩
   unfold qQZ at hd;split at hd;(cases hd;exact h2);cases hd
  ·cases h
def qZZ:V->List Obj->Option (Int):=fun v objs=>match v,objs with
 | .s (.i .i64 y0),[]=>some (y0)
 | _,_=>none
theorem qm1 (x0 x1:LI) (x2 x3:Int):fnE qLu Tryz.f35 ([.agg [.arr .i8 81 x0,.arr .i8 16 x1,.one [.i .i8 x2]],.s (.i .i64 x3)]) ([]) qZZ=qCG x0 x1 x2 x3:=by kernel_rfl
def qZX:HA:=fun o vs objs K=>match vs,objs with
 | [.agg [.arr .i8 81 x0,.arr .i8 16 x1,.one [.i .i8 x2]],.s (.i .i64 x3)],[]=>ob (qCG x0 x1 x2 x3) fun y0=>K false (.s (.i .i64 y0)) ([])
 | _,_=>o 35 vs objs K
def qZb (o:Orc):Orc:=qP 35 (qZX o) o
theorem qm4:OQ Tryz.prog qZb:=fun _ ho=>qQ ho fun vs objs K r h=>by
 unfold qZX at h
 split at h
 ·skip
  obtain⟨t,h1,h2⟩:=qF h
  refine qAe mixed qZY (fn:=Tryz.f35) (b:=(Tryz.f35).body.getD .skip) (by kernel_rfl) (by kernel_rfl) (by kernel_rfl) ((qm1 _ _ _ _).trans h1) (m:=0) rfl (qT.of (l':=[qG Tryz.f35 3]) (by kernel_rfl) ⟨qm5,trivial⟩) fun v objs' hd=>?_
  unfold qZZ at hd;split at hd;(cases hd;exact h2);cases hd
 ·exact ho _ _ _ _ _ h
def qYO:Ctx:=mkC 18 (qM) [] qW
theorem ql0:CtxOK Tryz.prog qYO:=mkC_ok (qO)
def qYP:V->List Obj->Option (Int):=fun v objs=>match v,objs with
 | .s (.i .i64 y0),[]=>some (y0)
 | _,_=>none
theorem qlz (x0:Int):fnE qYO Tryz.f23 ([.s (.i .i64 x0)]) ([]) qYP=qHr x0:=by kernel_rfl
def qYN:HA:=fun o vs objs K=>match vs,objs with
 | [.s (.i .i64 x0)],[]=>ob (qHr x0) fun y0=>K false (.s (.i .i64 y0)) ([])
 | _,_=>o 23 vs objs K
def qPu (o:Orc):Orc:=qP 23 (qYN o) o
theorem qYQ:OQ Tryz.prog qPu:=fun _ ho=>qQ ho fun vs objs K r h=>by
 unfold qYN at h
 split at h
 ·skip
  obtain⟨t,h1,h2⟩:=qF h
  refine qa mixed ql0 ((qlz _).trans h1) (by kernel_rfl) fun v objs' hd=>?_
  unfold qYP at hd;split at hd;(cases hd;exact h2);cases hd
 ·exact ho _ _ _ _ _ h
def qQO:Ex->List V->List Obj->Option (Int×Int×LI×LI×Int):=fun e vs objs=>match e,vs,objs with
 | .exit 0,[.s (.i .i64 y0),.s (.ptr 0 0 none 0),.s (.i .i64 y1)],[.cells 29 [.arr .i8 81 y2,.arr .i8 16 y3,.one [.i .i8 y4]]]=>some (y0,y1,y2,y3,y4)
 | _,_,_=>none
def qQQ:HL:=fun vs objs K=>match vs,objs with
 | [.s (.i .i64 x0),.s (.ptr 0 0 none 0),.s (.i .i64 x1),.s (.i .i64 x2)],[.cells 29 [.arr .i8 81 x3,.arr .i8 16 x4,.one [.i .i8 x5]]]=>ob (qFS qC x0 x1 x2 x3 x4 x5) fun z=>K (.exit 0) ([.s (.i .i64 (z.1)),.s (.ptr 0 0 none 0),.s (.i .i64 (z.2.1))]) ([.cells 29 [.arr .i8 81 (z.2.2.1),.arr .i8 16 (z.2.2.2.1),.one [.i .i8 (z.2.2.2.2)]]])
 | _,_=>none
def qmq:{R:Type}->Nat->List V->List Obj->(Ex->List V->List Obj->Option R)->Option R:=fun q vs objs K=>bif Nat.beq q 3 then qQQ vs objs K else none
def qLp:Ctx:=mkC 37 ((qPu (qDA qM))) [(3,[1,2,5,6],[1,2,5])] qmq
theorem qZL:CtxOK Tryz.prog qLp:=mkC_ok ((qYQ _ (qDe _ qO)))
def qQP (f:Nat) (x0 x1 x2:Int) (x3 x4:LI) (x5:Int):Option (Int×Int×LI×LI×Int):=qh qLp 0 [1,2,5,6] [1,2,5] (qG Tryz.f36 3) f ([.s (.i .i64 x0),.s (.ptr 0 0 none 0),.s (.i .i64 x1),.s (.i .i64 x2)]) ([.cells 29 [.arr .i8 81 x3,.arr .i8 16 x4,.one [.i .i8 x5]]]) qQO
theorem qmp (f:Nat) (x0 x1 x2:Int) (x3 x4:LI) (x5:Int):qQP (f+1) x0 x1 x2 x3 x4 x5=qHw (qQP f) x0 x1 x2 x3 x4 x5:=by kernel_rfl
theorem qZN:∀ f,qQP f=qFS f
 | 0=>rfl
 | f+1=>by funext x0 x1 x2 x3 x4 x5;rw[qmp,qZN f];rfl
theorem qms:qe Tryz.prog qLp 0 (qG Tryz.f36 3):=
 qj mixed qZL (qT.of (l':=[]) (by kernel_rfl) trivial) (q:=3) (kin:=[1,2,5,6]) (kout:=[1,2,5]) (by kernel_rfl) (by kernel_rfl) fun vs objs K r h=>by
  replace h:qQQ vs objs K=some r:=h
  unfold qQQ at h
  split at h
  ·skip
   obtain⟨t,h1,h2⟩:=qF h
   rw[<- qZN] at h1
   refine⟨_,qQO,t,qC,h1,fun e vs' objs' hd=>?_⟩
   unfold qQO at hd;split at hd;(cases hd;exact h2);cases hd
  ·cases h
def qZM:V->List Obj->Option (Int):=fun v objs=>match v,objs with
 | .s (.i .i64 y0),[]=>some (y0)
 | _,_=>none
theorem qmo (x0 x1:LI) (x2 x3:Int):fnE qLp Tryz.f36 ([.agg [.arr .i8 81 x0,.arr .i8 16 x1,.one [.i .i8 x2]],.s (.i .i64 x3)]) ([]) qZM=qJZ x0 x1 x2 x3:=by kernel_rfl
def qZK:HA:=fun o vs objs K=>match vs,objs with
 | [.agg [.arr .i8 81 x0,.arr .i8 16 x1,.one [.i .i8 x2]],.s (.i .i64 x3)],[]=>ob (qJZ x0 x1 x2 x3) fun y0=>K false (.s (.i .i64 y0)) ([])
 | _,_=>o 36 vs objs K
def qZO (o:Orc):Orc:=qP 36 (qZK o) o
theorem qmr:OQ Tryz.prog qZO:=fun _ ho=>qQ ho fun vs objs K r h=>by
 unfold qZK at h
 split at h
 ·skip
  obtain⟨t,h1,h2⟩:=qF h
  refine qAe mixed qZL (fn:=Tryz.f36) (b:=(Tryz.f36).body.getD .skip) (by kernel_rfl) (by kernel_rfl) (by kernel_rfl) ((qmo _ _ _ _).trans h1) (m:=0) rfl (qT.of (l':=[qG Tryz.f36 3]) (by kernel_rfl) ⟨qms,trivial⟩) fun v objs' hd=>?_
  unfold qZM at hd;split at hd;(cases hd;exact h2);cases hd
 ·exact ho _ _ _ _ _ h
def qYV:Ctx:=mkC 15 (qM) [] qW
theorem ql4:CtxOK Tryz.prog qYV:=mkC_ok (qO)
def qYW:V->List Obj->Option (Int):=fun v objs=>match v,objs with
 | .s (.i .i64 y0),[]=>some (y0)
 | _,_=>none
theorem ql3 (x0:Int):fnE qYV Tryz.f37 ([.s (.i .i64 x0)]) ([]) qYW=qJW x0:=by kernel_rfl
def qYU:HA:=fun o vs objs K=>match vs,objs with
 | [.s (.i .i64 x0)],[]=>ob (qJW x0) fun y0=>K false (.s (.i .i64 y0)) ([])
 | _,_=>o 37 vs objs K
def qYX (o:Orc):Orc:=qP 37 (qYU o) o
theorem ql5:OQ Tryz.prog qYX:=fun _ ho=>qQ ho fun vs objs K r h=>by
 unfold qYU at h
 split at h
 ·skip
  obtain⟨t,h1,h2⟩:=qF h
  refine qa mixed ql4 ((ql3 _).trans h1) (by kernel_rfl) fun v objs' hd=>?_
  unfold qYW at hd;split at hd;(cases hd;exact h2);cases hd
 ·exact ho _ _ _ _ _ h
def qYS:Ctx:=mkC 8 ((qDA qM)) [] qW
theorem ql2:CtxOK Tryz.prog qYS:=mkC_ok ((qDe _ qO))
def qYT:V->List Obj->Option (Int):=fun v objs=>match v,objs with
 | .s (.i .i64 y0),[]=>some (y0)
 | _,_=>none
theorem ql1 (x0:Int):fnE qYS Tryz.f42 ([.s (.i .i64 x0)]) ([]) qYT=qA9 x0:=by kernel_rfl
def qYR:HA:=fun o vs objs K=>match vs,objs with
 | [.s (.i .i64 x0)],[]=>ob (qA9 x0) fun y0=>K false (.s (.i .i64 y0)) ([])
 | _,_=>o 42 vs objs K
def qFM (o:Orc):Orc:=qP 42 (qYR o) o
theorem qGL:OQ Tryz.prog qFM:=fun _ ho=>qQ ho fun vs objs K r h=>by
 unfold qYR at h
 split at h
 ·skip
  obtain⟨t,h1,h2⟩:=qF h
  refine qa mixed ql2 ((ql1 _).trans h1) (by kernel_rfl) fun v objs' hd=>?_
  unfold qYT at hd;split at hd;(cases hd;exact h2);cases hd
 ·exact ho _ _ _ _ _ h
def qYf:Ctx:=mkC 26 (qM) [] qW
theorem qmB:CtxOK Tryz.prog qYf:=mkC_ok (qO)
def qYg:V->List Obj->Option (Int):=fun v objs=>match v,objs with
 | .s (.i .i64 y0),[]=>some (y0)
 | _,_=>none
theorem qmA (x0 x1:Int):fnE qYf Tryz.f89 ([.s (.i .i64 x0),.s (.i .i64 x1)]) ([]) qYg=qDC x0 x1:=by kernel_rfl
def qYe:HA:=fun o vs objs K=>match vs,objs with
 | [.s (.i .i64 x0),.s (.i .i64 x1)],[]=>ob (qDC x0 x1) fun y0=>K false (.s (.i .i64 y0)) ([])
 | _,_=>o 89 vs objs K
def qPx (o:Orc):Orc:=qP 89 (qYe o) o
theorem qYh:OQ Tryz.prog qPx:=fun _ ho=>qQ ho fun vs objs K r h=>by
 unfold qYe at h
 split at h
 ·skip
  obtain⟨t,h1,h2⟩:=qF h
  refine qa mixed qmB ((qmA _ _).trans h1) (by kernel_rfl) fun v objs' hd=>?_
  unfold qYg at hd;split at hd;(cases hd;exact h2);cases hd
 ·exact ho _ _ _ _ _ h
def qYc:Ctx:=mkC 35 ((qDA (qPx (qFM qM)))) [] qW
theorem ql9:CtxOK Tryz.prog qYc:=mkC_ok ((qDe _ (qYh _ (qGL _ qO))))
def qYd:V->List Obj->Option (Bool):=fun v objs=>match v,objs with
 | .s (.b y0),[]=>some (y0)
 | _,_=>none
theorem ql8 (x0 x1:Int):fnE qYc Tryz.f38 ([.s (.i .i64 x0),.s (.i .i64 x1)]) ([]) qYd=qDB x0 x1:=by kernel_rfl
def qYb:HA:=fun o vs objs K=>match vs,objs with
 | [.s (.i .i64 x0),.s (.i .i64 x1)],[]=>ob (qDB x0 x1) fun y0=>K false (.s (.b y0)) ([])
 | _,_=>o 38 vs objs K
def qLl (o:Orc):Orc:=qP 38 (qYb o) o
theorem qPw:OQ Tryz.prog qLl:=fun _ ho=>qQ ho fun vs objs K r h=>by
 unfold qYb at h
 split at h
 ·skip
  obtain⟨t,h1,h2⟩:=qF h
  refine qa mixed ql9 ((ql8 _ _).trans h1) (by kernel_rfl) fun v objs' hd=>?_
  unfold qYd at hd;split at hd;(cases hd;exact h2);cases hd
 ·exact ho _ _ _ _ _ h
def qQE:Ex->List V->List Obj->Option ((Int×LI×LI×Int)⊕(LI×LI×Int)):=fun e vs objs=>match e,vs,objs with
 | .ret,[.s (.ptr 0 0 none 0),.s (.i .i64 y0)],[.cells 29 [.arr .i8 81 y1,.arr .i8 16 y2,.one [.i .i8 y3]]]=>some (.inl (y0,y1,y2,y3))
 | .exit 0,[.s (.ptr 0 0 none 0),.s .bad],[.cells 29 [.arr .i8 81 y0,.arr .i8 16 y1,.one [.i .i8 y2]]]=>some (.inr (y0,y1,y2))
 | _,_,_=>none
def qP6:Ex->List V->List Obj->Option ((Int×Int×LI×LI×Int)⊕(Int×LI×LI×Int)):=fun e vs objs=>match e,vs,objs with
 | .ret,[.s (.ptr 0 0 none 0),.s (.i .i64 y0),.s (.i .i64 y1)],[.cells 29 [.arr .i8 81 y2,.arr .i8 16 y3,.one [.i .i8 y4]]]=>some (.inl (y0,y1,y2,y3,y4))
 | .exit 4,[.s (.ptr 0 0 none 0),.s .bad,.s (.i .i64 y0)],[.cells 29 [.arr .i8 81 y1,.arr .i8 16 y2,.one [.i .i8 y3]]]=>some (.inr (y0,y1,y2,y3))
 | _,_,_=>none
def qQG:Ex->List V->List Obj->Option ((Int×LI×LI×Int)⊕(LI×LI×Int)):=fun e vs objs=>match e,vs,objs with
 | .ret,[.s (.ptr 0 0 none 0),.s (.i .i64 y0)],[.cells 29 [.arr .i8 81 y1,.arr .i8 16 y2,.one [.i .i8 y3]]]=>some (.inl (y0,y1,y2,y3))
 | .exit 2,[.s (.ptr 0 0 none 0),.s .bad],[.cells 29 [.arr .i8 81 y0,.arr .i8 16 y1,.one [.i .i8 y2]]]=>some (.inr (y0,y1,y2))
 | _,_,_=>none
def qP8:Ex->List V->List Obj->Option ((Int×LI×LI×Int)⊕(LI×LI×Int)):=fun e vs objs=>match e,vs,objs with
 | .ret,[.s (.ptr 0 0 none 0),.s (.i .i64 y0)],[.cells 29 [.arr .i8 81 y1,.arr .i8 16 y2,.one [.i .i8 y3]]]=>some (.inl (y0,y1,y2,y3))
 | .exit 6,[.s (.ptr 0 0 none 0),.s .bad],[.cells 29 [.arr .i8 81 y0,.arr .i8 16 y1,.one [.i .i8 y2]]]=>some (.inr (y0,y1,y2))
 | _,_,_=>none
def qQA:Ex->List V->List Obj->Option ((Int×LI×LI×Int)⊕(LI×LI×Int)):=fun e vs objs=>match e,vs,objs with
 | .ret,[.s (.ptr 0 0 none 0),.s (.i .i64 y0)],[.cells 29 [.arr .i8 81 y1,.arr .i8 16 y2,.one [.i .i8 y3]]]=>some (.inl (y0,y1,y2,y3))
 | .exit 8,[.s (.ptr 0 0 none 0),.s .bad],[.cells 29 [.arr .i8 81 y0,.arr .i8 16 y1,.one [.i .i8 y2]]]=>some (.inr (y0,y1,y2))
 | _,_,_=>none
def qQC:Ex->List V->List Obj->Option ((Int)⊕(Unit)):=fun e vs objs=>match e,vs,objs with
 | .ret,[.s (.i .i64 y0)],[]=>some (.inl (y0))
 | .exit 10,[.s .bad],[]=>some (.inr ())
 | _,_,_=>none
def qQM:HL:=fun vs objs K=>match vs,objs with
 | [.s (.ptr 0 0 none 0),.s (.i .i64 x0)],[.cells 29 [.arr .i8 81 x1,.arr .i8 16 x2,.one [.i .i8 x3]]]=>ob (qBx qC x0 x1 x2 x3) fun t0=>sw t0 (fun z=>K (.ret) ([.s (.ptr 0 0 none 0),.s (.i .i64 (z.1))]) ([.cells 29 [.arr .i8 81 (z.2.1),.arr .i8 16 (z.2.2.1),.one [.i .i8 (z.2.2.2)]]])) (fun z=>K (.exit 0) ([.s (.ptr 0 0 none 0),.s .bad]) ([.cells 29 [.arr .i8 81 (z.1),.arr .i8 16 (z.2.1),.one [.i .i8 (z.2.2)]]]))
 | _,_=>none
def qQI:HL:=fun vs objs K=>match vs,objs with
 | [.s (.ptr 0 0 none 0),.s (.i .i64 x0),.s (.i .i64 x1)],[.cells 29 [.arr .i8 81 x2,.arr .i8 16 x3,.one [.i .i8 x4]]]=>ob (qBV qC x0 x1 x2 x3 x4) fun t0=>sw t0 (fun z=>K (.ret) ([.s (.ptr 0 0 none 0),.s (.i .i64 (z.1)),.s (.i .i64 (z.2.1))]) ([.cells 29 [.arr .i8 81 (z.2.2.1),.arr .i8 16 (z.2.2.2.1),.one [.i .i8 (z.2.2.2.2)]]])) (fun z=>K (.exit 4) ([.s (.ptr 0 0 none 0),.s .bad,.s (.i .i64 (z.1))]) ([.cells 29 [.arr .i8 81 (z.2.1),.arr .i8 16 (z.2.2.1),.one [.i .i8 (z.2.2.2)]]]))
 | _,_=>none
def qQN:HL:=fun vs objs K=>match vs,objs with
 | [.s (.ptr 0 0 none 0),.s (.i .i64 x0)],[.cells 29 [.arr .i8 81 x1,.arr .i8 16 x2,.one [.i .i8 x3]]]=>ob (qBN qC x0 x1 x2 x3) fun t0=>sw t0 (fun z=>K (.ret) ([.s (.ptr 0 0 none 0),.s (.i .i64 (z.1))]) ([.cells 29 [.arr .i8 81 (z.2.1),.arr .i8 16 (z.2.2.1),.one [.i .i8 (z.2.2.2)]]])) (fun z=>K (.exit 2) ([.s (.ptr 0 0 none 0),.s .bad]) ([.cells 29 [.arr .i8 81 (z.1),.arr .i8 16 (z.2.1),.one [.i .i8 (z.2.2)]]]))
 | _,_=>none
def qQJ:HL:=fun vs objs K=>match vs,objs with
 | [.s (.ptr 0 0 none 0),.s (.i .i64 x0)],[.cells 29 [.arr .i8 81 x1,.arr .i8 16 x2,.one [.i .i8 x3]]]=>ob (qBK qC x0 x1 x2 x3) fun t0=>sw t0 (fun z=>K (.ret) ([.s (.ptr 0 0 none 0),.s (.i .i64 (z.1))]) ([.cells 29 [.arr .i8 81 (z.2.1),.arr .i8 16 (z.2.2.1),.one [.i .i8 (z.2.2.2)]]])) (fun z=>K (.exit 6) ([.s (.ptr 0 0 none 0),.s .bad]) ([.cells 29 [.arr .i8 81 (z.1),.arr .i8 16 (z.2.1),.one [.i .i8 (z.2.2)]]]))
 | _,_=>none
def qQK:HL:=fun vs objs K=>match vs,objs with
 | [.s (.ptr 0 0 none 0),.s (.i .i64 x0)],[.cells 29 [.arr .i8 81 x1,.arr .i8 16 x2,.one [.i .i8 x3]]]=>ob (qBL qC x0 x1 x2 x3) fun t0=>sw t0 (fun z=>K (.ret) ([.s (.ptr 0 0 none 0),.s (.i .i64 (z.1))]) ([.cells 29 [.arr .i8 81 (z.2.1),.arr .i8 16 (z.2.2.1),.one [.i .i8 (z.2.2.2)]]])) (fun z=>K (.exit 8) ([.s (.ptr 0 0 none 0),.s .bad]) ([.cells 29 [.arr .i8 81 (z.1),.arr .i8 16 (z.2.1),.one [.i .i8 (z.2.2)]]]))
 | _,_=>none
def qQL:HL:=fun vs objs K=>match vs,objs with
 | [.s (.ptr 0 0 none 0),.s (.i .i64 x0)],[.cells 29 [.arr .i8 81 x1,.arr .i8 16 x2,.one [.i .i8 x3]]]=>ob (qBM qC x0 x1 x2 x3) fun t0=>sw t0 (fun y0=>K (.ret) ([.s (.i .i64 y0)]) ([])) (fun _=>K (.exit 10) ([.s .bad]) ([]))
 | _,_=>none
def qmg:{R:Type}->Nat->List V->List Obj->(Ex->List V->List Obj->Option R)->Option R:=fun q vs objs K=>bif Nat.beq q 4 then qQM vs objs K else bif Nat.beq q 12 then qQI vs objs K else bif Nat.beq q 9 then qQN vs objs K else bif Nat.beq q 20 then qQJ vs objs K else bif Nat.beq q 25 then qQK vs objs K else bif Nat.beq q 30 then qQL vs objs K else none
def qCF:Ctx:=mkC 103 ((qLr (qLl (qYX (qZO (qZb (qDA qM))))))) [(4,[1,3],[1,2]),(9,[1,4],[1,2]),(12,[1,4,5],[1,2,4]),(20,[1,7],[1,2]),(25,[1,8],[1,2]),(30,[1,9],[2])] qmg
theorem qGM:CtxOK Tryz.prog qCF:=mkC_ok ((qQT _ (qPw _ (ql5 _ (qmr _ (qm4 _ (qDe _ qO)))))))
def qQF (f:Nat) (x0:Int) (x1 x2:LI) (x3:Int):Option ((Int×LI×LI×Int)⊕(LI×LI×Int)):=qh qCF 0 [1,3] [1,2] (qG Tryz.f17 4) f ([.s (.ptr 0 0 none 0),.s (.i .i64 x0)]) ([.cells 29 [.arr .i8 81 x1,.arr .i8 16 x2,.one [.i .i8 x3]]]) qQE
theorem qme (f:Nat) (x0:Int) (x1 x2:LI) (x3:Int):qQF (f+1) x0 x1 x2 x3=qDj (qQF f) x0 x1 x2 x3:=by kernel_rfl
theorem qZH:∀ f,qQF f=qBx f
 | 0=>rfl
 | f+1=>by funext x0 x1 x2 x3;rw[qme,qZH f];rfl
def qP7 (f:Nat) (x0 x1:Int) (x2 x3:LI) (x4:Int):Option ((Int×Int×LI×LI×Int)⊕(Int×LI×LI×Int)):=qh qCF 0 [1,4,5] [1,2,4] (qG Tryz.f17 12) f ([.s (.ptr 0 0 none 0),.s (.i .i64 x0),.s (.i .i64 x1)]) ([.cells 29 [.arr .i8 81 x2,.arr .i8 16 x3,.one [.i .i8 x4]]]) qP6
theorem qma (f:Nat) (x0 x1:Int) (x2 x3:LI) (x4:Int):qP7 (f+1) x0 x1 x2 x3 x4=qDf (qP7 f) x0 x1 x2 x3 x4:=by kernel_rfl
theorem qZD:∀ f,qP7 f=qBV f
 | 0=>rfl
 | f+1=>by funext x0 x1 x2 x3 x4;rw[qma,qZD f];rfl
def qQH (f:Nat) (x0:Int) (x1 x2:LI) (x3:Int):Option ((Int×LI×LI×Int)⊕(LI×LI×Int)):=qh qCF 0 [1,4] [1,2] (qG Tryz.f17 9) f ([.s (.ptr 0 0 none 0),.s (.i .i64 x0)]) ([.cells 29 [.arr .i8 81 x1,.arr .i8 16 x2,.one [.i .i8 x3]]]) qQG
theorem qmf (f:Nat) (x0:Int) (x1 x2:LI) (x3:Int):qQH (f+1) x0 x1 x2 x3=qDk (qQH f) x0 x1 x2 x3:=by kernel_rfl
theorem qZI:∀ f,qQH f=qBN f
 | 0=>rfl
 | f+1=>by funext x0 x1 x2 x3;rw[qmf,qZI f];rfl
def qP9 (f:Nat) (x0:Int) (x1 x2:LI) (x3:Int):Option ((Int×LI×LI×Int)⊕(LI×LI×Int)):=qh qCF 0 [1,7] [1,2] (qG Tryz.f17 20) f ([.s (.ptr 0 0 none 0),.s (.i .i64 x0)]) ([.cells 29 [.arr .i8 81 x1,.arr .i8 16 x2,.one [.i .i8 x3]]]) qP8
theorem qmb (f:Nat) (x0:Int) (x1 x2:LI) (x3:Int):qP9 (f+1) x0 x1 x2 x3=qDg (qP9 f) x0 x1 x2 x3:=by kernel_rfl
theorem qZE:∀ f,qP9 f=qBK f
 | 0=>rfl
 | f+1=>by funext x0 x1 x2 x3;rw[qmb,qZE f];rfl
def qQB (f:Nat) (x0:Int) (x1 x2:LI) (x3:Int):Option ((Int×LI×LI×Int)⊕(LI×LI×Int)):=qh qCF 0 [1,8] [1,2] (qG Tryz.f17 25) f ([.s (.ptr 0 0 none 0),.s (.i .i64 x0)]) ([.cells 29 [.arr .i8 81 x1,.arr .i8 16 x2,.one [.i .i8 x3]]]) qQA
theorem qmc (f:Nat) (x0:Int) (x1 x2:LI) (x3:Int):qQB (f+1) x0 x1 x2 x3=qDh (qQB f) x0 x1 x2 x3:=by kernel_rfl
theorem qZF:∀ f,qQB f=qBL f
 | 0=>rfl
 | f+1=>by funext x0 x1 x2 x3;rw[qmc,qZF f];rfl
def qQD (f:Nat) (x0:Int) (x1 x2:LI) (x3:Int):Option ((Int)⊕(Unit)):=qh qCF 0 [1,9] [2] (qG Tryz.f17 30) f ([.s (.ptr 0 0 none 0),.s (.i .i64 x0)]) ([.cells 29 [.arr .i8 81 x1,.arr .i8 16 x2,.one [.i .i8 x3]]]) qQC
theorem qmd (f:Nat) (x0:Int) (x1 x2:LI) (x3:Int):qQD (f+1) x0 x1 x2 x3=qDi (qQD f) x0 x1 x2 x3:=by kernel_rfl
theorem qZG:∀ f,qQD f=qBM f
 | 0=>rfl
 | f+1=>by funext x0 x1 x2 x3;rw[qmd,qZG f];rfl
theorem qmm:qe Tryz.prog qCF 0 (qG Tryz.f17 4):=
 qj mixed qGM (qT.of (l':=[]) (by kernel_rfl) trivial) (q:=4) (kin:=[1,3]) (kout:=[1,2]) (by kernel_rfl) (by kernel_rfl) fun vs objs K r h=>by
  replace h:qQM vs objs K=some r:=h
  unfold qQM at h
  split at h
  ·skip
   obtain⟨t,h1,h2⟩:=qF h
   rw[<- qZH] at h1
   refine⟨_,qQE,t,qC,h1,fun e vs' objs' hd=>?_⟩
   unfold qQE at hd
   split at hd
   ·skip
    cases hd
    exact h2
   ·skip
    cases hd
    exact h2
   ·cases hd
  ·cases h
theorem qmi:qe Tryz.prog qCF 0 (qG Tryz.f17 12):=
 qj mixed qGM (qT.of (l':=[]) (by kernel_rfl) trivial) (q:=12) (kin:=[1,4,5]) (kout:=[1,2,4]) (by kernel_rfl) (by kernel_rfl) fun vs objs K r h=>by
  replace h:qQI vs objs K=some r:=h
  unfold qQI at h
  split at h
  ·skip
   obtain⟨t,h1,h2⟩:=qF h
   rw[<- qZD] at h1
   refine⟨_,qP6,t,qC,h1,fun e vs' objs' hd=>?_⟩
   unfold qP6 at hd
   split at hd
   ·skip
    cases hd
    exact h2
   ·skip
    cases hd
    exact h2
   ·cases hd
  ·cases h
theorem qmj:qe Tryz.prog qCF 0 (qG Tryz.f17 20):=
 qj mixed qGM (qT.of (l':=[]) (by kernel_rfl) trivial) (q:=20) (kin:=[1,7]) (kout:=[1,2]) (by kernel_rfl) (by kernel_rfl) fun vs objs K r h=>by
  replace h:qQJ vs objs K=some r:=h
  unfold qQJ at h
  split at h
  ·skip
   obtain⟨t,h1,h2⟩:=qF h
   rw[<- qZE] at h1
   refine⟨_,qP8,t,qC,h1,fun e vs' objs' hd=>?_⟩
   unfold qP8 at hd
   split at hd
   ·skip
    cases hd
    exact h2
   ·skip
    cases hd
    exact h2
   ·cases hd
  ·cases h
theorem qmk:qe Tryz.prog qCF 0 (qG Tryz.f17 25):=
 qj mixed qGM (qT.of (l':=[]) (by kernel_rfl) trivial) (q:=25) (kin:=[1,8]) (kout:=[1,2]) (by kernel_rfl) (by kernel_rfl) fun vs objs K r h=>by
  replace h:qQK vs objs K=some r:=h
  unfold qQK at h
  split at h
  ·skip
   obtain⟨t,h1,h2⟩:=qF h
   rw[<- qZF] at h1
   refine⟨_,qQA,t,qC,h1,fun e vs' objs' hd=>?_⟩
   unfold qQA at hd
   split at hd
   ·skip
    cases hd
    exact h2
   ·skip
    cases hd
    exact h2
   ·cases hd
  ·cases h
theorem qml:qe Tryz.prog qCF 0 (qG Tryz.f17 30):=
 qj mixed qGM (qT.of (l':=[]) (by kernel_rfl) trivial) (q:=30) (kin:=[1,9]) (kout:=[2]) (by kernel_rfl) (by kernel_rfl) fun vs objs K r h=>by
  replace h:qQL vs objs K=some r:=h
  unfold qQL at h
  split at h
  ·skip
   obtain⟨t,h1,h2⟩:=qF h
   rw[<- qZG] at h1
   refine⟨_,qQC,t,qC,h1,fun e vs' objs' hd=>?_⟩
   unfold qQC at hd
   split at hd
   ·skip
    cases hd
    exact h2
   ·skip
    cases hd
    exact h2
   ·cases hd
  ·cases h
theorem qmn:qe Tryz.prog qCF 0 (qG Tryz.f17 9):=
 qj mixed qGM (qT.of (l':=[qG Tryz.f17 12]) (by kernel_rfl) ⟨qmi,trivial⟩) (q:=9) (kin:=[1,4]) (kout:=[1,2]) (by kernel_rfl) (by kernel_rfl) fun vs objs K r h=>by
  replace h:qQN vs objs K=some r:=h
  unfold qQN at h
  split at h
  ·skip
   obtain⟨t,h1,h2⟩:=qF h
   rw[<- qZI] at h1
   refine⟨_,qQG,t,qC,h1,fun e vs' objs' hd=>?_⟩
   unfold qQG at hd
   split at hd
   ·skip
    cases hd
    exact h2
   ·skip
    cases hd
    exact h2
   ·cases hd
  ·cases h
def qZC:V->List Obj->Option (Int):=fun v objs=>match v,objs with
 | .s (.i .i64 y0),[]=>some (y0)
 | _,_=>none
theorem qmZ (x0 x1:LI) (x2:Int):fnE qCF Tryz.f17 ([.agg [.arr .i8 81 x0,.arr .i8 16 x1,.one [.i .i8 x2]]]) ([]) qZC=qFR x0 x1 x2:=by kernel_rfl
def qZB:HA:=fun o vs objs K=>match vs,objs with
 | [.agg [.arr .i8 81 x0,.arr .i8 16 x1,.one [.i .i8 x2]]],[]=>ob (qFR x0 x1 x2) fun y0=>K false (.s (.i .i64 y0)) ([])
 | _,_=>o 17 vs objs K
def qZJ (o:Orc):Orc:=qP 17 (qZB o) o
theorem qmh:OQ Tryz.prog qZJ:=fun _ ho=>qQ ho fun vs objs K r h=>by
 unfold qZB at h
 split at h
 ·skip
  obtain⟨t,h1,h2⟩:=qF h
  refine qAe mixed qGM (fn:=Tryz.f17) (b:=(Tryz.f17).body.getD .skip) (by kernel_rfl) (by kernel_rfl) (by kernel_rfl) ((qmZ _ _ _).trans h1) (m:=0) rfl (qT.of (l':=[qG Tryz.f17 4,qG Tryz.f17 9,qG Tryz.f17 20,qG Tryz.f17 25,qG Tryz.f17 30]) (by kernel_rfl) ⟨qmm,qmn,qmj,qmk,qml,trivial⟩) fun v objs' hd=>?_
  unfold qZC at hd;split at hd;(cases hd;exact h2);cases hd
 ·exact ho _ _ _ _ _ h
def qQV:Ex->List V->List Obj->Option (List Bool×List Bool):=fun e vs objs=>match e,vs,objs with
 | .exit 0,[.s (.ptr 0 0 none 0),.s (.ptr 1 0 none 0)],[.cells 89 [Seg.barr 81 y0],.cells 89 [Seg.barr 81 y1]]=>some (y0,y1)
 | _,_,_=>none
def qQY:HL:=fun vs objs K=>match vs,objs with
 | [.s (.ptr 0 0 none 0),.s (.ptr 1 0 none 0),.s (.ptr 2 0 none 0),.s (.i .i64 x0)],[.cells 29 [.arr .i8 81 x1,.arr .i8 16 x2,.one [.i .i8 x3]],.cells 89 [Seg.barr 81 x4],.cells 89 [Seg.barr 81 x5]]=>ob (qET qC x0 x1 x2 x3 x4 x5) fun z=>K (.exit 0) ([.s (.ptr 0 0 none 0),.s (.ptr 1 0 none 0)]) ([.cells 89 [Seg.barr 81 (z.1)],.cells 89 [Seg.barr 81 (z.2)]])
 | _,_=>none
def qmz:{R:Type}->Nat->List V->List Obj->(Ex->List V->List Obj->Option R)->Option R:=fun q vs objs K=>bif Nat.beq q 3 then qQY vs objs K else none
def qLs:Ctx:=mkC 18 (qM) [(3,[1,2,3,4],[2,3])] qmz
theorem qZU:CtxOK Tryz.prog qLs:=mkC_ok (qO)
def qQW (f:Nat) (x0:Int) (x1 x2:LI) (x3:Int) (x4 x5:List Bool):Option (List Bool×List Bool):=qh qLs 0 [1,2,3,4] [2,3] (qG Tryz.f40 3) f ([.s (.ptr 0 0 none 0),.s (.ptr 1 0 none 0),.s (.ptr 2 0 none 0),.s (.i .i64 x0)]) ([.cells 29 [.arr .i8 81 x1,.arr .i8 16 x2,.one [.i .i8 x3]],.cells 89 [Seg.barr 81 x4],.cells 89 [Seg.barr 81 x5]]) qQV
theorem qmy (f:Nat) (x0:Int) (x1 x2:LI) (x3:Int) (x4 x5:List Bool):qQW (f+1) x0 x1 x2 x3 x4 x5=qHx (qQW f) x0 x1 x2 x3 x4 x5:=by kernel_rfl
theorem qZW:∀ f,qQW f=qET f
 | 0=>rfl
 | f+1=>by funext x0 x1 x2 x3 x4 x5;rw[qmy,qZW f];rfl
theorem qm0:qe Tryz.prog qLs 0 (qG Tryz.f40 3):=
 qj mixed qZU (qT.of (l':=[]) (by kernel_rfl) trivial) (q:=3) (kin:=[1,2,3,4]) (kout:=[2,3]) (by kernel_rfl) (by kernel_rfl) fun vs objs K r h=>by
  replace h:qQY vs objs K=some r:=h
  unfold qQY at h
  split at h
  ·skip
   obtain⟨t,h1,h2⟩:=qF h
   rw[<- qZW] at h1
   refine⟨_,qQV,t,qC,h1,fun e vs' objs' hd=>?_⟩
   unfold qQV at hd;split at hd;(cases hd;exact h2);cases hd
  ·cases h
def qZV:V->List Obj->Option (List Bool):=fun v objs=>match v,objs with
 | .agg [Seg.barr 81 y0],[]=>some (y0)
 | _,_=>none
theorem qmx (x0 x1:LI) (x2:Int):fnE qLs Tryz.f40 ([.agg [.arr .i8 81 x0,.arr .i8 16 x1,.one [.i .i8 x2]]]) ([]) qZV=qES x0 x1 x2:=by kernel_rfl
def qZT:HA:=fun o vs objs K=>match vs,objs with
 | [.agg [.arr .i8 81 x0,.arr .i8 16 x1,.one [.i .i8 x2]]],[]=>ob (qES x0 x1 x2) fun y0=>K false (.agg [Seg.barr 81 y0]) ([])
 | _,_=>o 40 vs objs K
def qLt (o:Orc):Orc:=qP 40 (qZT o) o
theorem qQX:OQ Tryz.prog qLt:=fun _ ho=>qQ ho fun vs objs K r h=>by
 unfold qZT at h
 split at h
 ·skip
  obtain⟨t,h1,h2⟩:=qF h
  refine qAe mixed qZU (fn:=Tryz.f40) (b:=(Tryz.f40).body.getD .skip) (by kernel_rfl) (by kernel_rfl) (by kernel_rfl) ((qmx _ _ _).trans h1) (m:=0) rfl (qT.of (l':=[qG Tryz.f40 3]) (by kernel_rfl) ⟨qm0,trivial⟩) fun v objs' hd=>?_
  unfold qZV at hd;split at hd;(cases hd;exact h2);cases hd
 ·exact ho _ _ _ _ _ h
def qQh:Ex->List V->List Obj->Option ((Int)⊕(Unit)):=fun e vs objs=>match e,vs,objs with
 | .ret,[.s (.i .i64 y0)],[]=>some (.inl (y0))
 | .exit 0,[.s .bad],[]=>some (.inr ())
 | _,_,_=>none
def qQj:HL:=fun vs objs K=>match vs,objs with
 | [.s (.i .i64 x0),.s (.ptr 0 0 none 0),.s (.i .i64 x1)],[.cells 29 [.arr .i8 81 x2,.arr .i8 16 x3,.one [.i .i8 x4]]]=>ob (qFU qC x0 x1 x2 x3 x4) fun t0=>sw t0 (fun y0=>K (.ret) ([.s (.i .i64 y0)]) ([])) (fun _=>K (.exit 0) ([.s .bad]) ([]))
 | _,_=>none
def qnH:{R:Type}->Nat->List V->List Obj->(Ex->List V->List Obj->Option R)->Option R:=fun q vs objs K=>bif Nat.beq q 2 then qQj vs objs K else none
def qLx:Ctx:=mkC 20 (qM) [(2,[1,2,5],[4])] qnH
theorem qZp:CtxOK Tryz.prog qLx:=mkC_ok (qO)
def qQi (f:Nat) (x0 x1:Int) (x2 x3:LI) (x4:Int):Option ((Int)⊕(Unit)):=qh qLx 0 [1,2,5] [4] (qG Tryz.f41 2) f ([.s (.i .i64 x0),.s (.ptr 0 0 none 0),.s (.i .i64 x1)]) ([.cells 29 [.arr .i8 81 x2,.arr .i8 16 x3,.one [.i .i8 x4]]]) qQh
theorem qnG (f:Nat) (x0 x1:Int) (x2 x3:LI) (x4:Int):qQi (f+1) x0 x1 x2 x3 x4=qH0 (qQi f) x0 x1 x2 x3 x4:=by kernel_rfl
theorem qZr:∀ f,qQi f=qFU f
 | 0=>rfl
 | f+1=>by funext x0 x1 x2 x3 x4;rw[qnG,qZr f];rfl
theorem qnJ:qe Tryz.prog qLx 0 (qG Tryz.f41 2):=
 qj mixed qZp (qT.of (l':=[]) (by kernel_rfl) trivial) (q:=2) (kin:=[1,2,5]) (kout:=[4]) (by kernel_rfl) (by kernel_rfl) fun vs objs K r h=>by
  replace h:qQj vs objs K=some r:=h
  unfold qQj at h
  split at h
  ·skip
   obtain⟨t,h1,h2⟩:=qF h
   rw[<- qZr] at h1
   refine⟨_,qQh,t,qC,h1,fun e vs' objs' hd=>?_⟩
   unfold qQh at hd
   split at hd
   ·skip
    cases hd
    exact h2
   ·skip
    cases hd
    exact h2
   ·cases hd
  ·cases h
def qZq:V->List Obj->Option (Int):=fun v objs=>match v,objs with
 | .s (.i .i64 y0),[]=>some (y0)
 | _,_=>none
theorem qnF (x0 x1:LI) (x2 x3:Int):fnE qLx Tryz.f41 ([.agg [.arr .i8 81 x0,.arr .i8 16 x1,.one [.i .i8 x2]],.s (.i .i64 x3)]) ([]) qZq=qJb x0 x1 x2 x3:=by kernel_rfl
def qZo:HA:=fun o vs objs K=>match vs,objs with
 | [.agg [.arr .i8 81 x0,.arr .i8 16 x1,.one [.i .i8 x2]],.s (.i .i64 x3)],[]=>ob (qJb x0 x1 x2 x3) fun y0=>K false (.s (.i .i64 y0)) ([])
 | _,_=>o 41 vs objs K
def qZs (o:Orc):Orc:=qP 41 (qZo o) o
theorem qnI:OQ Tryz.prog qZs:=fun _ ho=>qQ ho fun vs objs K r h=>by
 unfold qZo at h
 split at h
 ·skip
  obtain⟨t,h1,h2⟩:=qF h
  refine qAe mixed qZp (fn:=Tryz.f41) (b:=(Tryz.f41).body.getD .skip) (by kernel_rfl) (by kernel_rfl) (by kernel_rfl) ((qnF _ _ _ _).trans h1) (m:=0) rfl (qT.of (l':=[qG Tryz.f41 2]) (by kernel_rfl) ⟨qnJ,trivial⟩) fun v objs' hd=>?_
  unfold qZq at hd;split at hd;(cases hd;exact h2);cases hd
 ·exact ho _ _ _ _ _ h
def qYn:Ctx:=mkC 8 (qM) [] qW
theorem qmG:CtxOK Tryz.prog qYn:=mkC_ok (qO)
def qYo:V->List Obj->Option (Int):=fun v objs=>match v,objs with
 | .s (.i .i64 y0),[]=>some (y0)
 | _,_=>none
theorem qmF (x0:Int):fnE qYn Tryz.f116 ([.s (.i .i64 x0)]) ([]) qYo=qFN x0:=by kernel_rfl
def qYm:HA:=fun o vs objs K=>match vs,objs with
 | [.s (.i .i64 x0)],[]=>ob (qFN x0) fun y0=>K false (.s (.i .i64 y0)) ([])
 | _,_=>o 116 vs objs K
def qYp (o:Orc):Orc:=qP 116 (qYm o) o
theorem qmH:OQ Tryz.prog qYp:=fun _ ho=>qQ ho fun vs objs K r h=>by
 unfold qYm at h
 split at h
 ·skip
  obtain⟨t,h1,h2⟩:=qF h
  refine qa mixed qmG ((qmF _).trans h1) (by kernel_rfl) fun v objs' hd=>?_
  unfold qYo at hd;split at hd;(cases hd;exact h2);cases hd
 ·exact ho _ _ _ _ _ h
def qYj:Ctx:=mkC 125 ((qDA (qFM (qYp qM)))) [] qW
theorem qmD:CtxOK Tryz.prog qYj:=mkC_ok ((qDe _ (qGL _ (qmH _ qO))))
def qYk:V->List Obj->Option (Bool):=fun v objs=>match v,objs with
 | .s (.b y0),[]=>some (y0)
 | _,_=>none
theorem qmC (x0 x1 x2:Int):fnE qYj Tryz.f90 ([.s (.i .i64 x0),.s (.i .i64 x1),.s (.i .i64 x2)]) ([]) qYk=qJX x0 x1 x2:=by kernel_rfl
def qYi:HA:=fun o vs objs K=>match vs,objs with
 | [.s (.i .i64 x0),.s (.i .i64 x1),.s (.i .i64 x2)],[]=>ob (qJX x0 x1 x2) fun y0=>K false (.s (.b y0)) ([])
 | _,_=>o 90 vs objs K
def qYl (o:Orc):Orc:=qP 90 (qYi o) o
theorem qmE:OQ Tryz.prog qYl:=fun _ ho=>qQ ho fun vs objs K r h=>by
 unfold qYi at h
 split at h
 ·skip
  obtain⟨t,h1,h2⟩:=qF h
  refine qa mixed qmD ((qmC _ _ _).trans h1) (by kernel_rfl) fun v objs' hd=>?_
  unfold qYk at hd;split at hd;(cases hd;exact h2);cases hd
 ·exact ho _ _ _ _ _ h
def qY1:Ctx:=mkC 51 (qM) [] qW
theorem qmT:CtxOK Tryz.prog qY1:=mkC_ok (qO)
def qY2:V->List Obj->Option (Int):=fun v objs=>match v,objs with
 | .s (.i .i64 y0),[]=>some (y0)
 | _,_=>none
theorem qmS (x0 x1:Int):fnE qY1 Tryz.f91 ([.s (.i .i64 x0),.s (.i .i64 x1)]) ([]) qY2=qHu x0 x1:=by kernel_rfl
def qY0:HA:=fun o vs objs K=>match vs,objs with
 | [.s (.i .i64 x0),.s (.i .i64 x1)],[]=>ob (qHu x0 x1) fun y0=>K false (.s (.i .i64 y0)) ([])
 | _,_=>o 91 vs objs K
def qP4 (o:Orc):Orc:=qP 91 (qY0 o) o
theorem qY3:OQ Tryz.prog qP4:=fun _ ho=>qQ ho fun vs objs K r h=>by
 unfold qY0 at h
 split at h
 ·skip
  obtain⟨t,h1,h2⟩:=qF h
  refine qa mixed qmT ((qmS _ _).trans h1) (by kernel_rfl) fun v objs' hd=>?_
  unfold qY2 at hd;split at hd;(cases hd;exact h2);cases hd
 ·exact ho _ _ _ _ _ h
def qY8:Ctx:=mkC 7 (qM) [] qW
theorem qmX:CtxOK Tryz.prog qY8:=mkC_ok (qO)
def qY9:V->List Obj->Option (Int):=fun v objs=>match v,objs with
 | .s (.i .i64 y0),[]=>some (y0)
 | _,_=>none
theorem qmW (x0:Int):fnE qY8 Tryz.f125 ([.s (.i .i64 x0)]) ([]) qY9=qHv x0:=by kernel_rfl
def qY7:HA:=fun o vs objs K=>match vs,objs with
 | [.s (.i .i64 x0)],[]=>ob (qHv x0) fun y0=>K false (.s (.i .i64 y0)) ([])
 | _,_=>o 125 vs objs K
def qZA (o:Orc):Orc:=qP 125 (qY7 o) o
theorem qmY:OQ Tryz.prog qZA:=fun _ ho=>qQ ho fun vs objs K r h=>by
 unfold qY7 at h
 split at h
 ·skip
  obtain⟨t,h1,h2⟩:=qF h
  refine qa mixed qmX ((qmW _).trans h1) (by kernel_rfl) fun v objs' hd=>?_
  unfold qY9 at hd;split at hd;(cases hd;exact h2);cases hd
 ·exact ho _ _ _ _ _ h
def qPy:Ex->List V->List Obj->Option (Nat×Nat×LI):=fun e vs objs=>match e,vs,objs with
 | .exit 0,[.s (.sl 0 0 y0 true)],[.sli 3 false (.arr .i64 y1 y2)]=>some (y0,y1,y2)
 | _,_,_=>none
def qP0:HL:=fun vs objs K=>match vs,objs with
 | [.s (.i .i64 x0),.s (.sl 0 0 x1 true),.s (.i .i64 x2),.s (.i .i64 x3)],[.sli 3 false (.arr .i64 x4 x5)]=>ob (qFO qC x0 x1 x2 x3 x4 x5) fun z=>K (.exit 0) ([.s (.sl 0 0 (z.1) true)]) ([.sli 3 false (.arr .i64 (z.2.1) (z.2.2))])
 | _,_=>none
def qmK:{R:Type}->Nat->List V->List Obj->(Ex->List V->List Obj->Option R)->Option R:=fun q vs objs K=>bif Nat.beq q 6 then qP0 vs objs K else none
def qLm:Ctx:=mkC 41 ((qZA (qP4 qM))) [(6,[1,5,6,7],[5])] qmK
theorem qYr:CtxOK Tryz.prog qLm:=mkC_ok ((qmY _ (qY3 _ qO)))
def qPz (f:Nat) (x0:Int) (x1:Nat) (x2 x3:Int) (x4:Nat) (x5:LI):Option (Nat×Nat×LI):=qh qLm 0 [1,5,6,7] [5] (qG Tryz.f117 6) f ([.s (.i .i64 x0),.s (.sl 0 0 x1 true),.s (.i .i64 x2),.s (.i .i64 x3)]) ([.sli 3 false (.arr .i64 x4 x5)]) qPy
theorem qmJ (f:Nat) (x0:Int) (x1:Nat) (x2 x3:Int) (x4:Nat) (x5:LI):qPz (f+1) x0 x1 x2 x3 x4 x5=qHs (qPz f) x0 x1 x2 x3 x4 x5:=by kernel_rfl
theorem qYt:∀ f,qPz f=qFO f
 | 0=>rfl
 | f+1=>by funext x0 x1 x2 x3 x4 x5;rw[qmJ,qYt f];rfl
theorem qmM:qe Tryz.prog qLm 0 (qG Tryz.f117 6):=
 qj mixed qYr (qT.of (l':=[]) (by kernel_rfl) trivial) (q:=6) (kin:=[1,5,6,7]) (kout:=[5]) (by kernel_rfl) (by kernel_rfl) fun vs objs K r h=>by
  replace h:qP0 vs objs K=some r:=h
  unfold qP0 at h
  split at h
  ·skip
   obtain⟨t,h1,h2⟩:=qF h
   rw[<- qYt] at h1
   refine⟨_,qPy,t,qC,h1,fun e vs' objs' hd=>?_⟩
   unfold qPy at hd;split at hd;(cases hd;exact h2);cases hd
  ·cases h
def qYs:V->List Obj->Option (Nat×Nat×LI):=fun v objs=>match v,objs with
 | .s (.sl 0 0 y0 true),[.sli 3 false (.arr .i64 y1 y2)]=>some (y0,y1,y2)
 | _,_=>none
theorem qmI (x0 x1:Int):fnE qLm Tryz.f117 ([.s (.i .i64 x0),.s (.i .i64 x1)]) ([]) qYs=qJY x0 x1:=by kernel_rfl
def qYq:HA:=fun o vs objs K=>match vs,objs with
 | [.s (.i .i64 x0),.s (.i .i64 x1)],[]=>ob (qJY x0 x1) fun z=>K false (.s (.sl 0 0 (z.1) true)) ([.sli 3 false (.arr .i64 (z.2.1) (z.2.2))])
 | _,_=>o 117 vs objs K
def qYu (o:Orc):Orc:=qP 117 (qYq o) o
theorem qmL:OQ Tryz.prog qYu:=fun _ ho=>qQ ho fun vs objs K r h=>by
 unfold qYq at h
 split at h
 ·skip
  obtain⟨t,h1,h2⟩:=qF h
  refine qAe mixed qYr (fn:=Tryz.f117) (b:=(Tryz.f117).body.getD .skip) (by kernel_rfl) (by kernel_rfl) (by kernel_rfl) ((qmI _ _).trans h1) (m:=0) rfl (qT.of (l':=[qG Tryz.f117 6]) (by kernel_rfl) ⟨qmM,trivial⟩) fun v objs' hd=>?_
  unfold qYs at hd;split at hd;(cases hd;exact h2);cases hd
 ·exact ho _ _ _ _ _ h
def qP1:Ex->List V->List Obj->Option ((Bool)⊕(Unit)):=fun e vs objs=>match e,vs,objs with
 | .ret,[.s (.b y0)],[]=>some (.inl (y0))
 | .exit 0,[.s .bad],[]=>some (.inr ())
 | _,_,_=>none
def qP3:HL:=fun vs objs K=>match vs,objs with
 | [.s (.ptr 0 0 none 0),.s (.sl 1 0 x0 true),.s (.i .i64 x1)],[.cells 89 [Seg.barr 81 x2],.sli 3 false (.arr .i64 x3 x4)]=>ob (qFP qC x0 x1 x2 x3 x4) fun t0=>sw t0 (fun y0=>K (.ret) ([.s (.b y0)]) ([])) (fun _=>K (.exit 0) ([.s .bad]) ([]))
 | _,_=>none
def qmP:{R:Type}->Nat->List V->List Obj->(Ex->List V->List Obj->Option R)->Option R:=fun q vs objs K=>bif Nat.beq q 3 then qP3 vs objs K else none
def qLn:Ctx:=mkC 24 ((qYu qM)) [(3,[5,7,8],[6])] qmP
theorem qYw:CtxOK Tryz.prog qLn:=mkC_ok ((qmL _ qO))
def qP2 (f:Nat) (x0:Nat) (x1:Int) (x2:List Bool) (x3:Nat) (x4:LI):Option ((Bool)⊕(Unit)):=qh qLn 0 [5,7,8] [6] (qG Tryz.f92 3) f ([.s (.ptr 0 0 none 0),.s (.sl 1 0 x0 true),.s (.i .i64 x1)]) ([.cells 89 [Seg.barr 81 x2],.sli 3 false (.arr .i64 x3 x4)]) qP1
theorem qmO (f:Nat) (x0:Nat) (x1:Int) (x2:List Bool) (x3:Nat) (x4:LI):qP2 (f+1) x0 x1 x2 x3 x4=qHt (qP2 f) x0 x1 x2 x3 x4:=by kernel_rfl
theorem qYy:∀ f,qP2 f=qFP f
 | 0=>rfl
 | f+1=>by funext x0 x1 x2 x3 x4;rw[qmO,qYy f];rfl
theorem qmR:qe Tryz.prog qLn 0 (qG Tryz.f92 3):=
 qj mixed qYw (qT.of (l':=[]) (by kernel_rfl) trivial) (q:=3) (kin:=[5,7,8]) (kout:=[6]) (by kernel_rfl) (by kernel_rfl) fun vs objs K r h=>by
  replace h:qP3 vs objs K=some r:=h
  unfold qP3 at h
  split at h
  ·skip
   obtain⟨t,h1,h2⟩:=qF h
   rw[<- qYy] at h1
   refine⟨_,qP1,t,qC,h1,fun e vs' objs' hd=>?_⟩
   unfold qP1 at hd
   split at hd
   ·skip
    cases hd
    exact h2
   ·skip
    cases hd
    exact h2
   ·cases hd
  ·cases h
def qYx:V->List Obj->Option (Bool):=fun v objs=>match v,objs with
 | .s (.b y0),[]=>some (y0)
 | _,_=>none
theorem qmN (x0 x1:Int) (x2:List Bool):fnE qLn Tryz.f92 ([.s (.i .i64 x0),.s (.i .i64 x1),.agg [Seg.barr 81 x2]]) ([]) qYx=qAt x0 x1 x2:=by kernel_rfl
def qYv:HA:=fun o vs objs K=>match vs,objs with
 | [.s (.i .i64 x0),.s (.i .i64 x1),.agg [Seg.barr 81 x2]],[]=>ob (qAt x0 x1 x2) fun y0=>K false (.s (.b y0)) ([])
 | _,_=>o 92 vs objs K
def qYz (o:Orc):Orc:=qP 92 (qYv o) o
theorem qmQ:OQ Tryz.prog qYz:=fun _ ho=>qQ ho fun vs objs K r h=>by
 unfold qYv at h
 split at h
 ·skip
  obtain⟨t,h1,h2⟩:=qF h
  refine qAe mixed qYw (fn:=Tryz.f92) (b:=(Tryz.f92).body.getD .skip) (by kernel_rfl) (by kernel_rfl) (by kernel_rfl) ((qmN _ _ _).trans h1) (m:=0) rfl (qT.of (l':=[qG Tryz.f92 3]) (by kernel_rfl) ⟨qmR,trivial⟩) fun v objs' hd=>?_
  unfold qYx at hd;split at hd;(cases hd;exact h2);cases hd
 ·exact ho _ _ _ _ _ h
def qY5:Ctx:=mkC 63 ((qYz (qDA (qFM (qP4 (qYl qM)))))) [] qW
theorem qmV:CtxOK Tryz.prog qY5:=mkC_ok ((qmQ _ (qDe _ (qGL _ (qY3 _ (qmE _ qO))))))
def qY6:V->List Obj->Option (Bool):=fun v objs=>match v,objs with
 | .s (.b y0),[]=>some (y0)
 | _,_=>none
theorem qmU (x0 x1 x2:Int) (x3:List Bool):fnE qY5 Tryz.f43 ([.s (.i .i64 x0),.s (.i .i64 x1),.s (.i .i64 x2),.agg [Seg.barr 81 x3]]) ([]) qY6=qFQ x0 x1 x2 x3:=by kernel_rfl
def qY4:HA:=fun o vs objs K=>match vs,objs with
 | [.s (.i .i64 x0),.s (.i .i64 x1),.s (.i .i64 x2),.agg [Seg.barr 81 x3]],[]=>ob (qFQ x0 x1 x2 x3) fun y0=>K false (.s (.b y0)) ([])
 | _,_=>o 43 vs objs K
def qLo (o:Orc):Orc:=qP 43 (qY4 o) o
theorem qP5:OQ Tryz.prog qLo:=fun _ ho=>qQ ho fun vs objs K r h=>by
 unfold qY4 at h
 split at h
 ·skip
  obtain⟨t,h1,h2⟩:=qF h
  refine qa mixed qmV ((qmU _ _ _ _).trans h1) (by kernel_rfl) fun v objs' hd=>?_
  unfold qY6 at hd;split at hd;(cases hd;exact h2);cases hd
 ·exact ho _ _ _ _ _ h
def qQd:Ex->List V->List Obj->Option ((Bool)⊕(Unit)):=fun e vs objs=>match e,vs,objs with
 | .ret,[.s (.b y0)],[]=>some (.inl (y0))
 | .exit 0,[.s .bad],[]=>some (.inr ())
 | _,_,_=>none
def qQg:HL:=fun vs objs K=>match vs,objs with
 | [.s (.i .i64 x0),.s (.ptr 0 0 none 0),.s (.ptr 1 0 none 0),.s (.i .i64 x1),.s (.i .i64 x2)],[.cells 29 [.arr .i8 81 x3,.arr .i8 16 x4,.one [.i .i8 x5]],.cells 89 [Seg.barr 81 x6]]=>ob (qFT qC x0 x1 x2 x3 x4 x5 x6) fun t0=>sw t0 (fun y0=>K (.ret) ([.s (.b y0)]) ([])) (fun _=>K (.exit 0) ([.s .bad]) ([]))
 | _,_=>none
def qnD:{R:Type}->Nat->List V->List Obj->(Ex->List V->List Obj->Option R)->Option R:=fun q vs objs K=>bif Nat.beq q 6 then qQg vs objs K else none
def qLv:Ctx:=mkC 39 ((qLo (qFM (qZs (qLt qM))))) [(6,[1,2,5,6,7],[4])] qnD
theorem qZl:CtxOK Tryz.prog qLv:=mkC_ok ((qP5 _ (qGL _ (qnI _ (qQX _ qO)))))
def qQe (f:Nat) (x0 x1 x2:Int) (x3 x4:LI) (x5:Int) (x6:List Bool):Option ((Bool)⊕(Unit)):=qh qLv 0 [1,2,5,6,7] [4] (qG Tryz.f18 6) f ([.s (.i .i64 x0),.s (.ptr 0 0 none 0),.s (.ptr 1 0 none 0),.s (.i .i64 x1),.s (.i .i64 x2)]) ([.cells 29 [.arr .i8 81 x3,.arr .i8 16 x4,.one [.i .i8 x5]],.cells 89 [Seg.barr 81 x6]]) qQd
theorem qnC (f:Nat) (x0 x1 x2:Int) (x3 x4:LI) (x5:Int) (x6:List Bool):qQe (f+1) x0 x1 x2 x3 x4 x5 x6=qHz (qQe f) x0 x1 x2 x3 x4 x5 x6:=by kernel_rfl
theorem qZn:∀ f,qQe f=qFT f
 | 0=>rfl
 | f+1=>by funext x0 x1 x2 x3 x4 x5 x6;rw[qnC,qZn f];rfl
theorem qnE:qe Tryz.prog qLv 0 (qG Tryz.f18 6):=
 qj mixed qZl (qT.of (l':=[]) (by kernel_rfl) trivial) (q:=6) (kin:=[1,2,5,6,7]) (kout:=[4]) (by kernel_rfl) (by kernel_rfl) fun vs objs K r h=>by
  replace h:qQg vs objs K=some r:=h
  unfold qQg at h
  split at h
  ·skip
   obtain⟨t,h1,h2⟩:=qF h
   rw[<- qZn] at h1
   refine⟨_,qQd,t,qC,h1,fun e vs' objs' hd=>?_⟩
   unfold qQd at hd
   split at hd
   ·skip
    cases hd
    exact h2
   ·skip
    cases hd
    exact h2
   ·cases hd
  ·cases h
def qZm:V->List Obj->Option (Bool):=fun v objs=>match v,objs with
 | .s (.b y0),[]=>some (y0)
 | _,_=>none
theorem qnB (x0 x1:LI) (x2 x3:Int):fnE qLv Tryz.f18 ([.agg [.arr .i8 81 x0,.arr .i8 16 x1,.one [.i .i8 x2]],.s (.i .i64 x3)]) ([]) qZm=qGN x0 x1 x2 x3:=by kernel_rfl
def qZk:HA:=fun o vs objs K=>match vs,objs with
 | [.agg [.arr .i8 81 x0,.arr .i8 16 x1,.one [.i .i8 x2]],.s (.i .i64 x3)],[]=>ob (qGN x0 x1 x2 x3) fun y0=>K false (.s (.b y0)) ([])
 | _,_=>o 18 vs objs K
def qLw (o:Orc):Orc:=qP 18 (qZk o) o
theorem qQf:OQ Tryz.prog qLw:=fun _ ho=>qQ ho fun vs objs K r h=>by
 unfold qZk at h
 split at h
 ·skip
  obtain⟨t,h1,h2⟩:=qF h
  refine qAe mixed qZl (fn:=Tryz.f18) (b:=(Tryz.f18).body.getD .skip) (by kernel_rfl) (by kernel_rfl) (by kernel_rfl) ((qnB _ _ _ _).trans h1) (m:=0) rfl (qT.of (l':=[qG Tryz.f18 6]) (by kernel_rfl) ⟨qnE,trivial⟩) fun v objs' hd=>?_
  unfold qZm at hd;split at hd;(cases hd;exact h2);cases hd
 ·exact ho _ _ _ _ _ h
def qZh:Ctx:=mkC 15 ((qLw (qZJ qM))) [] qW
theorem qnA:CtxOK Tryz.prog qZh:=mkC_ok ((qQf _ (qmh _ qO)))
def qZi:V->List Obj->Option (Int):=fun v objs=>match v,objs with
 | .s (.i .i64 y0),[]=>some (y0)
 | _,_=>none
theorem qm9 (x0 x1:LI) (x2:Int):fnE qZh Tryz.f7 ([.agg [.arr .i8 81 x0,.arr .i8 16 x1,.one [.i .i8 x2]]]) ([]) qZi=qHy x0 x1 x2:=by kernel_rfl
def qZg:HA:=fun o vs objs K=>match vs,objs with
 | [.agg [.arr .i8 81 x0,.arr .i8 16 x1,.one [.i .i8 x2]]],[]=>ob (qHy x0 x1 x2) fun y0=>K false (.s (.i .i64 y0)) ([])
 | _,_=>o 7 vs objs K
def qQc (o:Orc):Orc:=qP 7 (qZg o) o
theorem qZj:OQ Tryz.prog qQc:=fun _ ho=>qQ ho fun vs objs K r h=>by
 unfold qZg at h
 split at h
 ·skip
  obtain⟨t,h1,h2⟩:=qF h
  refine qa mixed qnA ((qm9 _ _ _).trans h1) (by kernel_rfl) fun v objs' hd=>?_
  unfold qZi at hd;split at hd;(cases hd;exact h2);cases hd
 ·exact ho _ _ _ _ _ h
def qOg:Ex->List V->List Obj->Option (Nat×LL×Int×Int×Nat×Int×Nat×LL):=fun e vs objs=>match e,vs,objs with
 | .exit 0,[.s (.ptr 1 0 none 0)],[.sli 31 true (.rows kk0 y0 y1),.cells 60 [.one [.ptr 2 0 none 0,.bad,.i .i64 y2,.i .i64 y3]],.cells 104 [.one [.sl 3 0 y4 true,.i .i64 y5]],.sli 135 false (.rows kk1 y6 y7)]=>bif decide (kk0=kL1) then bif decide (kk1=kL0) then some (y0,y1,y2,y3,y4,y5,y6,y7) else none else none
 | _,_,_=>none
def qOi:HL:=fun vs objs K=>match vs,objs with
 | [.s (.ptr 1 0 none 0),.s (.sl 0 x0 x1 false),.s (.i .i64 x2),.s (.i .i64 x3)],[.sli 31 true (.rows kk0 x4 x5),.cells 60 [.one [.ptr 2 0 none 0,.bad,.i .i64 x6,.i .i64 x7]],.cells 104 [.one [.sl 3 0 x8 true,.i .i64 x9]],.sli 135 false (.rows kk1 x10 x11)]=>bif decide (kk0=kL1) then bif decide (kk1=kL0) then ob (qFB qC x0 x1 x2 x3 x4 x5 x6 x7 x8 x9 x10 x11) fun z=>K (.exit 0) ([.s (.ptr 1 0 none 0)]) ([.sli 31 true (.rows kL1 (z.1) (z.2.1)),.cells 60 [.one [.ptr 2 0 none 0,.bad,.i .i64 (z.2.2.1),.i .i64 (z.2.2.2.1)]],.cells 104 [.one [.sl 3 0 (z.2.2.2.2.1) true,.i .i64 (z.2.2.2.2.2.1)]],.sli 135 false (.rows kL0 (z.2.2.2.2.2.2.1) (z.2.2.2.2.2.2.2))]) else none else none
 | _,_=>none
def qih:{R:Type}->Nat->List V->List Obj->(Ex->List V->List Obj->Option R)->Option R:=fun q vs objs K=>bif Nat.beq q 5 then qOi vs objs K else none
def qK2:Ctx:=mkC 46 ((qL7 (qQc (qRJ qM)))) [(5,[5,20,21,22],[5])] qih
theorem qWF:CtxOK Tryz.prog qK2:=mkC_ok ((qRM _ (qZj _ (qau _ qO))))
def qOh (f:Nat) (x0 x1:Nat) (x2 x3:Int) (x4:Nat) (x5:LL) (x6 x7:Int) (x8:Nat) (x9:Int) (x10:Nat) (x11:LL):Option (Nat×LL×Int×Int×Nat×Int×Nat×LL):=qh qK2 1 [5,20,21,22] [5] (qG Tryz.f8 5) f ([.s (.ptr 1 0 none 0),.s (.sl 0 x0 x1 false),.s (.i .i64 x2),.s (.i .i64 x3)]) ([.sli 31 true (.rows kL1 x4 x5),.cells 60 [.one [.ptr 2 0 none 0,.bad,.i .i64 x6,.i .i64 x7]],.cells 104 [.one [.sl 3 0 x8 true,.i .i64 x9]],.sli 135 false (.rows kL0 x10 x11)]) qOg
theorem qig (f:Nat) (x0 x1:Nat) (x2 x3:Int) (x4:Nat) (x5:LL) (x6 x7:Int) (x8:Nat) (x9:Int) (x10:Nat) (x11:LL):qOh (f+1) x0 x1 x2 x3 x4 x5 x6 x7 x8 x9 x10 x11=qK3 (qOh f) x0 x1 x2 x3 x4 x5 x6 x7 x8 x9 x10 x11:=by kernel_rfl
theorem qWH:∀ f,qOh f=qFB f
 | 0=>rfl
 | f+1=>by funext x0 x1 x2 x3 x4 x5 x6 x7 x8 x9 x10 x11;rw[qig,qWH f];rfl
theorem qij:qe Tryz.prog qK2 1 (qG Tryz.f8 5):=
 qj mixed qWF (qT.of (l':=[]) (by kernel_rfl) trivial) (q:=5) (kin:=[5,20,21,22]) (kout:=[5]) (by kernel_rfl) (by kernel_rfl) fun vs objs K r h=>by
  replace h:qOi vs objs K=some r:=h
  unfold qOi at h
  split at h
  ·skip
   have g:=(qN h).1
   replace h:=(qN h).2
   obtain rfl:=of_decide_eq_true g
   have g:=(qN h).1
   replace h:=(qN h).2
   obtain rfl:=of_decide_eq_true g
   obtain⟨t,h1,h2⟩:=qF h
   rw[<- qWH] at h1
   refine⟨_,qOg,t,qC,h1,fun e vs' objs' hd=>?_⟩
   unfold qOg at hd
   split at hd
   ·skip
    have g:=(qN hd).1
    replace hd:=(qN hd).2
    obtain rfl:=of_decide_eq_true g
    have g:=(qN hd).1
    replace hd:=(qN hd).2
    obtain rfl:=of_decide_eq_true g
    cases hd
    exact h2
   ·cases hd
  ·cases h
def qWG:V->List Obj->Option ((Unit)⊕(Int×Int×Nat×Int×Nat×LL)):=fun v objs=>match v,objs with
 | .s .nilp,[]=>some (.inl ())
 | .s (.ptr 1 0 none 0),[.cells 60 [.one [.ptr 2 0 none 0,.bad,.i .i64 y0,.i .i64 y1]],.cells 104 [.one [.sl 3 0 y2 true,.i .i64 y3]],.sli 135 false (.rows kk0 y4 y5)]=>bif decide (kk0=kL0) then some (.inr (y0,y1,y2,y3,y4,y5)) else none
 | _,_=>none
theorem qif (x0:Int) (x1 x2 x3:Nat) (x4:LL):fnE qK2 Tryz.f8 ([.s (.i .i64 x0),.s (.sl 0 x1 x2 false)]) ([.sli 31 true (.rows kL1 x3 x4)]) (qAc 1 qWG)=qJG x0 x1 x2 x3 x4:=by kernel_rfl
def qWE:HA:=fun o vs objs K=>match vs,List.map Obj.toRO objs with
 | [.s (.i .i64 x0),.s (.sl 0 x1 x2 false)],[.sli 31 true (.rows kk0 x3 x4)]=>bif decide (kk0=kL1) then ob (qJG x0 x1 x2 x3 x4) fun t0=>sw t0 (fun _=>K true (.s .nilp) ([])) (fun z=>K true (.s (.ptr 1 0 none 0)) ([.cells 60 [.one [.ptr 2 0 none 0,.bad,.i .i64 (z.1),.i .i64 (z.2.1)]],.cells 104 [.one [.sl 3 0 (z.2.2.1) true,.i .i64 (z.2.2.2.1)]],.sli 135 false (.rows kL0 (z.2.2.2.2.1) (z.2.2.2.2.2))])) else none
 | _,_=>o 8 vs objs K
def qWI (o:Orc):Orc:=qP 8 (qWE o) o
theorem qii:OQ Tryz.prog qWI:=fun _ ho=>qQ ho fun vs objs K r h=>by
 unfold qWE at h
 split at h
 ·skip
  have g:=(qN h).1
  replace h:=(qN h).2
  obtain rfl:=of_decide_eq_true g
  have hq:List.map Obj.toRO objs=_:=(by rename_i hq;first | exact hq | assumption)
  obtain⟨t,h1,h2⟩:=qF h
  refine qAi mixed qWF (m:=1) (fn:=Tryz.f8) (b:=(Tryz.f8).body.getD .skip) (by kernel_rfl) (by kernel_rfl) (by kernel_rfl) hq (by kernel_rfl) (by kernel_rfl) (qT.of (l':=[qG Tryz.f8 5]) (by kernel_rfl) ⟨qij,trivial⟩) ((qif _ _ _ _ _).trans h1) fun v objs' hd=>?_
  unfold qWG at hd
  split at hd
  ·skip
   cases hd
   exact h2
  ·skip
   have g:=(qN hd).1
   replace hd:=(qN hd).2
   obtain rfl:=of_decide_eq_true g
   cases hd
   exact h2
  ·cases hd
 ·exact ho _ _ _ _ _ h
def qZd:Ctx:=mkC 44 (qM) [] qW
theorem qm7:CtxOK Tryz.prog qZd:=mkC_ok (qO)
def qZe:V->List Obj->Option (Int):=fun v objs=>match v,objs with
 | .s (.i .i64 y0),[]=>some (y0)
 | _,_=>none
theorem qm6 (x0 x1 x2:Int) (x3:Bool):fnE qZd Tryz.f100 ([.agg [.one [.i .i64 x0,.i .i64 x1,.i .i64 x2,.b x3]]]) ([]) qZe=qJa x0 x1 x2 x3:=by kernel_rfl
def qZc:HA:=fun o vs objs K=>match vs,objs with
 | [.agg [.one [.i .i64 x0,.i .i64 x1,.i .i64 x2,.b x3]]],[]=>ob (qJa x0 x1 x2 x3) fun y0=>K false (.s (.i .i64 y0)) ([])
 | _,_=>o 100 vs objs K
def qZf (o:Orc):Orc:=qP 100 (qZc o) o
theorem qm8:OQ Tryz.prog qZf:=fun _ ho=>qQ ho fun vs objs K r h=>by
 unfold qZc at h
 split at h
 ·skip
  obtain⟨t,h1,h2⟩:=qF h
  refine qa mixed qm7 ((qm6 _ _ _ _).trans h1) (by kernel_rfl) fun v objs' hd=>?_
  unfold qZe at hd;split at hd;(cases hd;exact h2);cases hd
 ·exact ho _ _ _ _ _ h
def qYZ:Ctx:=mkC 15 (qM) [] qW
theorem ql7:CtxOK Tryz.prog qYZ:=mkC_ok (qO)
def qYa:V->List Obj->Option (Int):=fun v objs=>match v,objs with
 | .s (.i .i64 y0),[]=>some (y0)
 | _,_=>none
theorem ql6 (x0:Int):fnE qYZ Tryz.f101 ([.s (.i .i64 x0)]) ([]) qYa=qER x0:=by kernel_rfl
def qYY:HA:=fun o vs objs K=>match vs,objs with
 | [.s (.i .i64 x0)],[]=>ob (qER x0) fun y0=>K false (.s (.i .i64 y0)) ([])
 | _,_=>o 101 vs objs K
def qLk (o:Orc):Orc:=qP 101 (qYY o) o
theorem qPv:OQ Tryz.prog qLk:=fun _ ho=>qQ ho fun vs objs K r h=>by
 unfold qYY at h
 split at h
 ·skip
  obtain⟨t,h1,h2⟩:=qF h
  refine qa mixed ql7 ((ql6 _).trans h1) (by kernel_rfl) fun v objs' hd=>?_
  unfold qYa at hd;split at hd;(cases hd;exact h2);cases hd
 ·exact ho _ _ _ _ _ h
def qZx:Ctx:=mkC 75 ((qLk (qDA (qFM (qZf qM))))) [] qW
theorem qnN:CtxOK Tryz.prog qZx:=mkC_ok ((qPv _ (qDe _ (qGL _ (qm8 _ qO)))))
def qZy:V->List Obj->Option (Bool):=fun v objs=>match v,objs with
 | .s (.b y0),[]=>some (y0)
 | _,_=>none
theorem qnM (x0 x1:LI) (x2 x3:Int) (x4 x5:Int) (x6:Bool):fnE qZx Tryz.f51 ([.agg [.arr .i8 81 x0,.arr .i8 16 x1,.one [.i .i8 x2]],.agg [.one [.i .i64 x3,.i .i64 x4,.i .i64 x5,.b x6]]]) ([]) qZy=qJc x0 x1 x2 x3 x4 x5 x6:=by kernel_rfl
def qZw:HA:=fun o vs objs K=>match vs,objs with
 | [.agg [.arr .i8 81 x0,.arr .i8 16 x1,.one [.i .i8 x2]],.agg [.one [.i .i64 x3,.i .i64 x4,.i .i64 x5,.b x6]]],[]=>ob (qJc x0 x1 x2 x3 x4 x5 x6) fun y0=>K false (.s (.b y0)) ([])
 | _,_=>o 51 vs objs K
def qZz (o:Orc):Orc:=qP 51 (qZw o) o
theorem qnO:OQ Tryz.prog qZz:=fun _ ho=>qQ ho fun vs objs K r h=>by
 unfold qZw at h
 split at h
 ·skip
  obtain⟨t,h1,h2⟩:=qF h
  refine qa mixed qnN ((qnM _ _ _ _ _ _ _).trans h1) (by kernel_rfl) fun v objs' hd=>?_
  unfold qZy at hd;split at hd;(cases hd;exact h2);cases hd
 ·exact ho _ _ _ _ _ h
def qZ8:Ctx:=mkC 35 ((qPx (qFM (qLk (qDA qM))))) [] qW
theorem qnb:CtxOK Tryz.prog qZ8:=mkC_ok ((qYh _ (qGL _ (qPv _ (qDe _ qO)))))
def qZ9:V->List Obj->Option (Bool):=fun v objs=>match v,objs with
 | .s (.b y0),[]=>some (y0)
 | _,_=>none
theorem qna (x0 x1 x2:Int):fnE qZ8 Tryz.f52 ([.s (.i .i64 x0),.s (.i .i64 x1),.s (.i .i64 x2)]) ([]) qZ9=qJf x0 x1 x2:=by kernel_rfl
def qZ7:HA:=fun o vs objs K=>match vs,objs with
 | [.s (.i .i64 x0),.s (.i .i64 x1),.s (.i .i64 x2)],[]=>ob (qJf x0 x1 x2) fun y0=>K false (.s (.b y0)) ([])
 | _,_=>o 52 vs objs K
def qaA (o:Orc):Orc:=qP 52 (qZ7 o) o
theorem qnc:OQ Tryz.prog qaA:=fun _ ho=>qQ ho fun vs objs K r h=>by
 unfold qZ7 at h
 split at h
 ·skip
  obtain⟨t,h1,h2⟩:=qF h
  refine qa mixed qnb ((qna _ _ _).trans h1) (by kernel_rfl) fun v objs' hd=>?_
  unfold qZ9 at hd;split at hd;(cases hd;exact h2);cases hd
 ·exact ho _ _ _ _ _ h
def qaG:Ctx:=mkC 14 ((qLl (qLk (qDA qM)))) [] qW
theorem qng:CtxOK Tryz.prog qaG:=mkC_ok ((qPw _ (qPv _ (qDe _ qO))))
def qaH:V->List Obj->Option (Bool):=fun v objs=>match v,objs with
 | .s (.b y0),[]=>some (y0)
 | _,_=>none
theorem qnf (x0 x1:Int):fnE qaG Tryz.f53 ([.s (.i .i64 x0),.s (.i .i64 x1)]) ([]) qaH=qJg x0 x1:=by kernel_rfl
def qaF:HA:=fun o vs objs K=>match vs,objs with
 | [.s (.i .i64 x0),.s (.i .i64 x1)],[]=>ob (qJg x0 x1) fun y0=>K false (.s (.b y0)) ([])
 | _,_=>o 53 vs objs K
def qaI (o:Orc):Orc:=qP 53 (qaF o) o
theorem qnh:OQ Tryz.prog qaI:=fun _ ho=>qQ ho fun vs objs K r h=>by
 unfold qaF at h
 split at h
 ·skip
  obtain⟨t,h1,h2⟩:=qF h
  refine qa mixed qng ((qnf _ _).trans h1) (by kernel_rfl) fun v objs' hd=>?_
  unfold qaH at hd;split at hd;(cases hd;exact h2);cases hd
 ·exact ho _ _ _ _ _ h
def qaC:Ctx:=mkC 70 ((qaI (qaA (qLo (qLt (qLr (qLl (qZz qM)))))))) [] qW
theorem qne:CtxOK Tryz.prog qaC:=mkC_ok ((qnh _ (qnc _ (qP5 _ (qQX _ (qQT _ (qPw _ (qnO _ qO))))))))
def qaD:V->List Obj->Option (Bool):=fun v objs=>match v,objs with
 | .s (.b y0),[]=>some (y0)
 | _,_=>none
theorem qnd (x0 x1:LI) (x2 x3:Int) (x4 x5:Int) (x6:Bool):fnE qaC Tryz.f21 ([.agg [.arr .i8 81 x0,.arr .i8 16 x1,.one [.i .i8 x2]],.agg [.one [.i .i64 x3,.i .i64 x4,.i .i64 x5,.b x6]]]) ([]) qaD=qEV x0 x1 x2 x3 x4 x5 x6:=by kernel_rfl
def qaB:HA:=fun o vs objs K=>match vs,objs with
 | [.agg [.arr .i8 81 x0,.arr .i8 16 x1,.one [.i .i8 x2]],.agg [.one [.i .i64 x3,.i .i64 x4,.i .i64 x5,.b x6]]],[]=>ob (qEV x0 x1 x2 x3 x4 x5 x6) fun y0=>K false (.s (.b y0)) ([])
 | _,_=>o 21 vs objs K
def qQx (o:Orc):Orc:=qP 21 (qaB o) o
theorem qaE:OQ Tryz.prog qQx:=fun _ ho=>qQ ho fun vs objs K r h=>by
 unfold qaB at h
 split at h
 ·skip
  obtain⟨t,h1,h2⟩:=qF h
  refine qa mixed qne ((qnd _ _ _ _ _ _ _).trans h1) (by kernel_rfl) fun v objs' hd=>?_
  unfold qaD at hd;split at hd;(cases hd;exact h2);cases hd
 ·exact ho _ _ _ _ _ h
def qZu:Ctx:=mkC 82 ((qPu (qDA qM))) [] qW
theorem qnL:CtxOK Tryz.prog qZu:=mkC_ok ((qYQ _ (qDe _ qO)))
def qZv:V->List Obj->Option (LI×LI×Int):=fun v objs=>match v,objs with
 | .agg [.arr .i8 81 y0,.arr .i8 16 y1,.one [.i .i8 y2]],[]=>some (y0,y1,y2)
 | _,_=>none
theorem qnK (x0 x1:LI) (x2 x3:Int) (x4 x5:Int) (x6:Bool):fnE qZu Tryz.f11 ([.agg [.arr .i8 81 x0,.arr .i8 16 x1,.one [.i .i8 x2]],.agg [.one [.i .i64 x3,.i .i64 x4,.i .i64 x5,.b x6]]]) ([]) qZv=qEU x0 x1 x2 x3 x4 x5 x6:=by kernel_rfl
def qZt:HA:=fun o vs objs K=>match vs,objs with
 | [.agg [.arr .i8 81 x0,.arr .i8 16 x1,.one [.i .i8 x2]],.agg [.one [.i .i64 x3,.i .i64 x4,.i .i64 x5,.b x6]]],[]=>ob (qEU x0 x1 x2 x3 x4 x5 x6) fun z=>K false (.agg [.arr .i8 81 (z.1),.arr .i8 16 (z.2.1),.one [.i .i8 (z.2.2)]]) ([])
 | _,_=>o 11 vs objs K
def qLy (o:Orc):Orc:=qP 11 (qZt o) o
theorem qQk:OQ Tryz.prog qLy:=fun _ ho=>qQ ho fun vs objs K r h=>by
 unfold qZt at h
 split at h
 ·skip
  obtain⟨t,h1,h2⟩:=qF h
  refine qa mixed qnL ((qnK _ _ _ _ _ _ _).trans h1) (by kernel_rfl) fun v objs' hd=>?_
  unfold qZv at hd;split at hd;(cases hd;exact h2);cases hd
 ·exact ho _ _ _ _ _ h
def qaS:Ctx:=mkC 13 ((qLw (qLy qM))) [] qW
theorem qnp:CtxOK Tryz.prog qaS:=mkC_ok ((qQf _ (qQk _ qO)))
def qaT:V->List Obj->Option (Bool):=fun v objs=>match v,objs with
 | .s (.b y0),[]=>some (y0)
 | _,_=>none
theorem qno (x0 x1:LI) (x2 x3:Int) (x4 x5:Int) (x6:Bool):fnE qaS Tryz.f54 ([.agg [.arr .i8 81 x0,.arr .i8 16 x1,.one [.i .i8 x2]],.agg [.one [.i .i64 x3,.i .i64 x4,.i .i64 x5,.b x6]]]) ([]) qaT=qH6 x0 x1 x2 x3 x4 x5 x6:=by kernel_rfl
def qaR:HA:=fun o vs objs K=>match vs,objs with
 | [.agg [.arr .i8 81 x0,.arr .i8 16 x1,.one [.i .i8 x2]],.agg [.one [.i .i64 x3,.i .i64 x4,.i .i64 x5,.b x6]]],[]=>ob (qH6 x0 x1 x2 x3 x4 x5 x6) fun y0=>K false (.s (.b y0)) ([])
 | _,_=>o 54 vs objs K
def qQy (o:Orc):Orc:=qP 54 (qaR o) o
theorem qaU:OQ Tryz.prog qQy:=fun _ ho=>qQ ho fun vs objs K r h=>by
 unfold qaR at h
 split at h
 ·skip
  obtain⟨t,h1,h2⟩:=qF h
  refine qa mixed qnp ((qno _ _ _ _ _ _ _).trans h1) (by kernel_rfl) fun v objs' hd=>?_
  unfold qaT at hd;split at hd;(cases hd;exact h2);cases hd
 ·exact ho _ _ _ _ _ h
end
end Go.Kk.KkSL
