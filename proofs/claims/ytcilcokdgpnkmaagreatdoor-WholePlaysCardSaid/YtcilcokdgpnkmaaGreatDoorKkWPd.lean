/- Printed by a tool of this project (KkGen): the program's functions come to the plain ones. -/
import Derived.Test.YtcilcokdgpnkmaaGreatDoorKkWPc
namespace Go.Kk.KkWP
noncomputable section
open Go.Proofs Go.Kk.Pl
set_option maxRecDepth 100000
set_option maxHeartbeats 4000000
def qR9:Ex->List V->List Obj->Option (Int×Int×Nat×Int×Nat×LL×Int×Nat×Int×Int×Nat×Int×Bool×Int×Int×Nat×Nat×Int×Bool×LI×LI×Int×LL×LL×Nat×LL×Nat×LL×Nat×LL):=fun e vs objs=>match e,vs,objs with
 | .exit 0,[.s (.ptr 0 0 none 0),.s (.ptr 4 0 none 0),.s (.ptr 5 0 none 0)],[.cells 56 [.one [.ptr 1 0 none 0,.ptr 3 0 none 0,.i .i64 y0,.i .i64 y1]],.cells 59 [.one [.sl 2 0 y2 true,.i .i64 y3]],.sli 127 false (.rows kk0 y4 y5),.cells 71 [.one [.ptr 6 0 none 0,.i .u64 y6,.sl 7 0 y7 true]],.cells 40 [.one [.i .i64 y8,.i .i64 y9,.sl 8 0 y10 true,.i .i64 y11,.b y12]],.cells 40 [.one [.i .i64 y13,.i .i64 y14,.sl 9 y15 y16 false,.i .i64 y17,.b y18]],.cells 87 [.arr .i8 81 y19,.arr .i8 16 y20,.one [.i .i8 y21],.rows [.i .u64,.i .u64] 32 y22,.rows [.i .u64,.i .u64] 2 y23],.sli 119 false (.rows [.i .i64,.i .i64,.i .i64,.b,.i .i8,.i .i8] y24 y25),.sli 51 false (.rows [.i .i64,.i .i64,.i .i64,.b] y26 y27),.sli 51 false (.rows [.i .i64,.i .i64,.i .i64,.b] y28 y29)]=>bif decide (kk0=kL0) then some (y0,y1,y2,y3,y4,y5,y6,y7,y8,y9,y10,y11,y12,y13,y14,y15,y16,y17,y18,y19,y20,y21,y22,y23,y24,y25,y26,y27,y28,y29) else none
 | _,_,_=>none
def qSB:HL:=fun vs objs K=>match vs,objs with
 | [.s (.ptr 0 0 none 0),.s (.i .i64 x0),.s (.ptr 4 0 none 0),.s (.ptr 5 0 none 0),.s (.i .i64 x1)],[.cells 56 [.one [.ptr 1 0 none 0,.ptr 3 0 none 0,.i .i64 x2,.i .i64 x3]],.cells 59 [.one [.sl 2 0 x4 true,.i .i64 x5]],.sli 127 false (.rows kk0 x6 x7),.cells 71 [.one [.ptr 6 0 none 0,.i .u64 x8,.sl 7 0 x9 true]],.cells 40 [.one [.i .i64 x10,.i .i64 x11,.sl 8 0 x12 true,.i .i64 x13,.b x14]],.cells 40 [.one [.i .i64 x15,.i .i64 x16,.sl 9 x17 x18 false,.i .i64 x19,.b x20]],.cells 87 [.arr .i8 81 x21,.arr .i8 16 x22,.one [.i .i8 x23],.rows [.i .u64,.i .u64] 32 x24,.rows [.i .u64,.i .u64] 2 x25],.sli 119 false (.rows [.i .i64,.i .i64,.i .i64,.b,.i .i8,.i .i8] x26 x27),.sli 51 false (.rows [.i .i64,.i .i64,.i .i64,.b] x28 x29),.sli 51 false (.rows [.i .i64,.i .i64,.i .i64,.b] x30 x31)]=>bif decide (kk0=kL0) then ob (qDW qB x0 x1 x2 x3 x4 x5 x6 x7 x8 x9 x10 x11 x12 x13 x14 x15 x16 x17 x18 x19 x20 x21 x22 x23 x24 x25 x26 x27 x28 x29 x30 x31) fun z=>K (.exit 0) ([.s (.ptr 0 0 none 0),.s (.ptr 4 0 none 0),.s (.ptr 5 0 none 0)]) ([.cells 56 [.one [.ptr 1 0 none 0,.ptr 3 0 none 0,.i .i64 (z.1),.i .i64 (z.2.1)]],.cells 59 [.one [.sl 2 0 (z.2.2.1) true,.i .i64 (z.2.2.2.1)]],.sli 127 false (.rows kL0 (z.2.2.2.2.1) (z.2.2.2.2.2.1)),.cells 71 [.one [.ptr 6 0 none 0,.i .u64 (z.2.2.2.2.2.2.1),.sl 7 0 (z.2.2.2.2.2.2.2.1) true]],.cells 40 [.one [.i .i64 (z.2.2.2.2.2.2.2.2.1),.i .i64 (z.2.2.2.2.2.2.2.2.2.1),.sl 8 0 (z.2.2.2.2.2.2.2.2.2.2.1) true,.i .i64 (z.2.2.2.2.2.2.2.2.2.2.2.1),.b (z.2.2.2.2.2.2.2.2.2.2.2.2.1)]],.cells 40 [.one [.i .i64 (z.2.2.2.2.2.2.2.2.2.2.2.2.2.1),.i .i64 (z.2.2.2.2.2.2.2.2.2.2.2.2.2.2.1),.sl 9 (z.2.2.2.2.2.2.2.2.2.2.2.2.2.2.2.1) (z.2.2.2.2.2.2.2.2.2.2.2.2.2.2.2.2.1) false,.i .i64 (z.2.2.2.2.2.2.2.2.2.2.2.2.2.2.2.2.2.1),.b (z.2.2.2.2.2.2.2.2.2.2.2.2.2.2.2.2.2.2.1)]],.cells 87 [.arr .i8 81 (z.2.2.2.2.2.2.2.2.2.2.2.2.2.2.2.2.2.2.2.1),.arr .i8 16 (z.2.2.2.2.2.2.2.2.2.2.2.2.2.2.2.2.2.2.2.2.1),.one [.i .i8 (z.2.2.2.2.2.2.2.2.2.2.2.2.2.2.2.2.2.2.2.2.2.1)],.rows [.i .u64,.i .u64] 32 (z.2.2.2.2.2.2.2.2.2.2.2.2.2.2.2.2.2.2.2.2.2.2.1),.rows [.i .u64,.i .u64] 2 (z.2.2.2.2.2.2.2.2.2.2.2.2.2.2.2.2.2.2.2.2.2.2.2.1)],.sli 119 false (.rows [.i .i64,.i .i64,.i .i64,.b,.i .i8,.i .i8] (z.2.2.2.2.2.2.2.2.2.2.2.2.2.2.2.2.2.2.2.2.2.2.2.2.1) (z.2.2.2.2.2.2.2.2.2.2.2.2.2.2.2.2.2.2.2.2.2.2.2.2.2.1)),.sli 51 false (.rows [.i .i64,.i .i64,.i .i64,.b] (z.2.2.2.2.2.2.2.2.2.2.2.2.2.2.2.2.2.2.2.2.2.2.2.2.2.2.1) (z.2.2.2.2.2.2.2.2.2.2.2.2.2.2.2.2.2.2.2.2.2.2.2.2.2.2.2.1)),.sli 51 false (.rows [.i .i64,.i .i64,.i .i64,.b] (z.2.2.2.2.2.2.2.2.2.2.2.2.2.2.2.2.2.2.2.2.2.2.2.2.2.2.2.2.1) (z.2.2.2.2.2.2.2.2.2.2.2.2.2.2.2.2.2.2.2.2.2.2.2.2.2.2.2.2.2))]) else none
 | _,_=>none
def qq4:{R:Type}->Nat->List V->List Obj->(Ex->List V->List Obj->Option R)->Option R:=fun q vs objs K=>bif Nat.beq q 8 then qSB vs objs K else none
def qMq:Ctx:=mkC 70 ((qSE qB (qJy (qOv qK)))) [(8,[0,2,8,9,11],[0,8,9]),(2097152,[56,0,1],[])] qq4
theorem qcW:CtxOK Tryz.prog qMq:=mkC_ok ((qrB qB _ (qLj _ (qV6 _ qM))))
def qSA (f:Nat) (x0 x1:Int) (x2 x3:Int) (x4:Nat) (x5:Int) (x6:Nat) (x7:LL) (x8:Int) (x9:Nat) (x10 x11:Int) (x12:Nat) (x13:Int) (x14:Bool) (x15 x16:Int) (x17 x18:Nat) (x19:Int) (x20:Bool) (x21 x22:LI) (x23:Int) (x24 x25:LL) (x26:Nat) (x27:LL) (x28:Nat) (x29:LL) (x30:Nat) (x31:LL):Option (Int×Int×Nat×Int×Nat×LL×Int×Nat×Int×Int×Nat×Int×Bool×Int×Int×Nat×Nat×Int×Bool×LI×LI×Int×LL×LL×Nat×LL×Nat×LL×Nat×LL):=qh qMq 3 [0,2,8,9,11] [0,8,9] (qG Tryz.f8 8) f ([.s (.ptr 0 0 none 0),.s (.i .i64 x0),.s (.ptr 4 0 none 0),.s (.ptr 5 0 none 0),.s (.i .i64 x1)]) ([.cells 56 [.one [.ptr 1 0 none 0,.ptr 3 0 none 0,.i .i64 x2,.i .i64 x3]],.cells 59 [.one [.sl 2 0 x4 true,.i .i64 x5]],.sli 127 false (.rows kL0 x6 x7),.cells 71 [.one [.ptr 6 0 none 0,.i .u64 x8,.sl 7 0 x9 true]],.cells 40 [.one [.i .i64 x10,.i .i64 x11,.sl 8 0 x12 true,.i .i64 x13,.b x14]],.cells 40 [.one [.i .i64 x15,.i .i64 x16,.sl 9 x17 x18 false,.i .i64 x19,.b x20]],.cells 87 [.arr .i8 81 x21,.arr .i8 16 x22,.one [.i .i8 x23],.rows [.i .u64,.i .u64] 32 x24,.rows [.i .u64,.i .u64] 2 x25],.sli 119 false (.rows [.i .i64,.i .i64,.i .i64,.b,.i .i8,.i .i8] x26 x27),.sli 51 false (.rows [.i .i64,.i .i64,.i .i64,.b] x28 x29),.sli 51 false (.rows [.i .i64,.i .i64,.i .i64,.b] x30 x31)]) qR9
theorem qq3 (f:Nat) (x0 x1:Int) (x2 x3:Int) (x4:Nat) (x5:Int) (x6:Nat) (x7:LL) (x8:Int) (x9:Nat) (x10 x11:Int) (x12:Nat) (x13:Int) (x14:Bool) (x15 x16:Int) (x17 x18:Nat) (x19:Int) (x20:Bool) (x21 x22:LI) (x23:Int) (x24 x25:LL) (x26:Nat) (x27:LL) (x28:Nat) (x29:LL) (x30:Nat) (x31:LL):qSA (f+1) x0 x1 x2 x3 x4 x5 x6 x7 x8 x9 x10 x11 x12 x13 x14 x15 x16 x17 x18 x19 x20 x21 x22 x23 x24 x25 x26 x27 x28 x29 x30 x31=qKY (qSA f) x0 x1 x2 x3 x4 x5 x6 x7 x8 x9 x10 x11 x12 x13 x14 x15 x16 x17 x18 x19 x20 x21 x22 x23 x24 x25 x26 x27 x28 x29 x30 x31:=by kernel_rfl
theorem qcY:∀ f,qSA f=qDW f
 | 0=>rfl
 | f+1=>by funext x0 x1 x2 x3 x4 x5 x6 x7 x8 x9 x10 x11 x12 x13 x14 x15 x16 x17 x18 x19 x20 x21 x22 x23 x24 x25 x26 x27 x28 x29 x30 x31;rw[qq3,qcY f];rfl
theorem qq6:qg Tryz.prog qMq 3 (qG Tryz.f8 8):=
 qi mixed qcW (qQ.of (l':=[]) (by kernel_rfl) trivial) (q:=8) (kin:=[0,2,8,9,11]) (kout:=[0,8,9]) (by kernel_rfl) (by kernel_rfl) fun vs objs K r h=>by
  replace h:qSB vs objs K=some r:=h
  unfold qSB at h
  split at h
  ·skip
   have g:=(qV h).1
   replace h:=(qV h).2
   obtain rfl:=of_decide_eq_true g
   obtain⟨t,h1,h2⟩:=qE h
   rw[<- qcY] at h1
   refine⟨_,qR9,t,qB,h1,fun e vs' objs' hd=>?_⟩
   unfold qR9 at hd
   split at hd
   ·skip
    have g:=(qV hd).1
    replace hd:=(qV hd).2
    obtain rfl:=of_decide_eq_true g
    cases hd
    exact h2
   ·cases hd
  ·cases h
def qcX:V->List Obj->Option ((Int×Int×Nat×Int×Bool×Int×Int×Nat×Int×Nat×LL×Nat×LL)⊕(Int×Int×Nat×Nat×Int×Bool×Int×Int×Nat×Int×Nat×LL×Nat×LL)):=fun v objs=>match v,objs with
 | .agg [.one [.i .i64 y0,.i .i64 y1,.sl 3 y2 y3 false,.i .i64 y4,.b y5]],[.cells 56 [.one [.ptr 1 0 none 0,.bad,.i .i64 y6,.i .i64 y7]],.cells 59 [.one [.sl 2 0 y8 true,.i .i64 y9]],.sli 127 false (.rows kk0 y10 y11),.sli 51 false (.rows [.i .i64,.i .i64,.i .i64,.b] y12 y13)]=>bif decide (kk0=kL0) then some (.inr (y0,y1,y2,y3,y4,y5,y6,y7,y8,y9,y10,y11,y12,y13)) else none
 | _,_=>match v,objs with
 | .agg [.one [.i .i64 y0,.i .i64 y1,.sl 3 0 y2 true,.i .i64 y3,.b y4]],[.cells 56 [.one [.ptr 1 0 none 0,.bad,.i .i64 y5,.i .i64 y6]],.cells 59 [.one [.sl 2 0 y7 true,.i .i64 y8]],.sli 127 false (.rows kk0 y9 y10),.sli 51 false (.rows [.i .i64,.i .i64,.i .i64,.b] y11 y12)]=>bif decide (kk0=kL0) then some (.inl (y0,y1,y2,y3,y4,y5,y6,y7,y8,y9,y10,y11,y12)) else none
 | _,_=>none
theorem qq2 (x0 x1:LI) (x2 x3:Int) (x4 x5 x6:Int) (x7:Nat) (x8:Int) (x9:Nat) (x10:LL):fnE qMq Tryz.f8 ([.s (.ptr 0 0 none 0),.agg [.arr .i8 81 x0,.arr .i8 16 x1,.one [.i .i8 x2]],.s (.i .i64 x3),.s (.i .i64 x4)]) ([.cells 56 [.one [.ptr 1 0 none 0,.bad,.i .i64 x5,.i .i64 x6]],.cells 59 [.one [.sl 2 0 x7 true,.i .i64 x8]],.sli 127 false (.rows kL0 x9 x10)]) qcX=qE1 x0 x1 x2 x3 x4 x5 x6 x7 x8 x9 x10:=by kernel_rfl
def qcV:HA:=fun o vs objs K=>match vs,objs with
 | [.s (.ptr 0 0 none 0),.agg [.arr .i8 81 x0,.arr .i8 16 x1,.one [.i .i8 x2]],.s (.i .i64 x3),.s (.i .i64 x4)],[.cells 56 [.one [.ptr 1 0 none 0,.bad,.i .i64 x5,.i .i64 x6]],.cells 59 [.one [.sl 2 0 x7 true,.i .i64 x8]],.sli 127 false (.rows kk0 x9 x10)]=>bif decide (kk0=kL0) then ob (qE1 x0 x1 x2 x3 x4 x5 x6 x7 x8 x9 x10) fun t0=>sw t0 (fun z=>K false (.agg [.one [.i .i64 (z.1),.i .i64 (z.2.1),.sl 3 0 (z.2.2.1) true,.i .i64 (z.2.2.2.1),.b (z.2.2.2.2.1)]]) ([.cells 56 [.one [.ptr 1 0 none 0,.bad,.i .i64 (z.2.2.2.2.2.1),.i .i64 (z.2.2.2.2.2.2.1)]],.cells 59 [.one [.sl 2 0 (z.2.2.2.2.2.2.2.1) true,.i .i64 (z.2.2.2.2.2.2.2.2.1)]],.sli 127 false (.rows kL0 (z.2.2.2.2.2.2.2.2.2.1) (z.2.2.2.2.2.2.2.2.2.2.1)),.sli 51 false (.rows [.i .i64,.i .i64,.i .i64,.b] (z.2.2.2.2.2.2.2.2.2.2.2.1) (z.2.2.2.2.2.2.2.2.2.2.2.2))])) (fun z=>K false (.agg [.one [.i .i64 (z.1),.i .i64 (z.2.1),.sl 3 (z.2.2.1) (z.2.2.2.1) false,.i .i64 (z.2.2.2.2.1),.b (z.2.2.2.2.2.1)]]) ([.cells 56 [.one [.ptr 1 0 none 0,.bad,.i .i64 (z.2.2.2.2.2.2.1),.i .i64 (z.2.2.2.2.2.2.2.1)]],.cells 59 [.one [.sl 2 0 (z.2.2.2.2.2.2.2.2.1) true,.i .i64 (z.2.2.2.2.2.2.2.2.2.1)]],.sli 127 false (.rows kL0 (z.2.2.2.2.2.2.2.2.2.2.1) (z.2.2.2.2.2.2.2.2.2.2.2.1)),.sli 51 false (.rows [.i .i64,.i .i64,.i .i64,.b] (z.2.2.2.2.2.2.2.2.2.2.2.2.1) (z.2.2.2.2.2.2.2.2.2.2.2.2.2))])) else none
 | _,_=>o 8 vs objs K
def qcZ (o:Orc):Orc:=qN 8 (qcV o) o
theorem qq5:OQ Tryz.prog qcZ:=fun _ ho=>qO ho fun vs objs K r h=>by
 unfold qcV at h
 split at h
 ·skip
  have g:=(qV h).1
  replace h:=(qV h).2
  obtain rfl:=of_decide_eq_true g
  obtain⟨t,h1,h2⟩:=qE h
  refine qAR mixed qcW (fn:=Tryz.f8) (b:=(Tryz.f8).body.getD .skip) (by kernel_rfl) (by kernel_rfl) (by kernel_rfl) ((qq2 _ _ _ _ _ _ _ _ _ _ _).trans h1) (m:=3) rfl (qQ.of (l':=[qG Tryz.f8 8]) (by kernel_rfl) ⟨qq6,trivial⟩) fun v objs' hd=>?_
  unfold qcX at hd
  split at hd
  ·skip
   have g:=(qV hd).1
   replace hd:=(qV hd).2
   obtain rfl:=of_decide_eq_true g
   cases hd
   exact h2
  ·skip
   split at hd
   ·skip
    have g:=(qV hd).1
    replace hd:=(qV hd).2
    obtain rfl:=of_decide_eq_true g
    cases hd
    exact h2
   ·skip
    cases hd
 ·exact ho _ _ _ _ _ h
def qZB:Ctx:=mkC 15 (qK) [] qW
theorem qnQ:CtxOK Tryz.prog qZB:=mkC_ok (qM)
def qZC:V->List Obj->Option (Int):=fun v objs=>match v,objs with
 | .s (.i .i64 y0),[]=>some (y0)
 | _,_=>none
theorem qnP (x0:Int):fnE qZB Tryz.f48 ([.s (.i .i64 x0)]) ([]) qZC=qMD x0:=by kernel_rfl
def qZA:HA:=fun o vs objs K=>match vs,objs with
 | [.s (.i .i64 x0)],[]=>ob (qMD x0) fun y0=>K false (.s (.i .i64 y0)) ([])
 | _,_=>o 48 vs objs K
def qZD (o:Orc):Orc:=qN 48 (qZA o) o
theorem qnR:OQ Tryz.prog qZD:=fun _ ho=>qO ho fun vs objs K r h=>by
 unfold qZA at h
 split at h
 ·skip
  obtain⟨t,h1,h2⟩:=qE h
  refine qa mixed qnQ ((qnP _).trans h1) (by kernel_rfl) fun v objs' hd=>?_
  unfold qZC at hd;split at hd;(cases hd;exact h2);cases hd
 ·exact ho _ _ _ _ _ h
def qOW:Ex->List V->List Obj->Option ((Int×LI×LI×Int)⊕(LI×LI×Int)):=fun e vs objs=>match e,vs,objs with
 | .ret,[.s (.ptr 0 0 none 0),.s (.i .i64 y0)],[.cells 28 [.arr .i8 81 y1,.arr .i8 16 y2,.one [.i .i8 y3]]]=>some (.inl (y0,y1,y2,y3))
 | .exit 0,[.s (.ptr 0 0 none 0),.s .bad],[.cells 28 [.arr .i8 81 y0,.arr .i8 16 y1,.one [.i .i8 y2]]]=>some (.inr (y0,y1,y2))
 | _,_,_=>none
def qOU:Ex->List V->List Obj->Option ((Int×Int×LI×LI×Int×LL×LL)⊕(Int×LI×LI×Int×LL×LL)):=fun e vs objs=>match e,vs,objs with
 | .ret,[.s (.i .i64 y0),.s (.ptr 0 0 none 0),.s (.i .i64 y1)],[.cells 87 [.arr .i8 81 y2,.arr .i8 16 y3,.one [.i .i8 y4],.rows [.i .u64,.i .u64] 32 y5,.rows [.i .u64,.i .u64] 2 y6]]=>some (.inl (y0,y1,y2,y3,y4,y5,y6))
 | .exit 4,[.s .bad,.s (.ptr 0 0 none 0),.s (.i .i64 y0)],[.cells 87 [.arr .i8 81 y1,.arr .i8 16 y2,.one [.i .i8 y3],.rows [.i .u64,.i .u64] 32 y4,.rows [.i .u64,.i .u64] 2 y5]]=>some (.inr (y0,y1,y2,y3,y4,y5))
 | _,_,_=>none
def qOY:Ex->List V->List Obj->Option ((Int)⊕(Unit)):=fun e vs objs=>match e,vs,objs with
 | .ret,[.s (.i .i64 y0)],[]=>some (.inl (y0))
 | .exit 2,[.s .bad],[]=>some (.inr ())
 | _,_,_=>none
def qOb:HL:=fun vs objs K=>match vs,objs with
 | [.s (.ptr 0 0 none 0),.agg [.arr .i8 81 x0],.s (.i .i64 x1)],[.cells 28 [.arr .i8 81 x2,.arr .i8 16 x3,.one [.i .i8 x4]]]=>ob (qFU qB x0 x1 x2 x3 x4) fun t0=>sw t0 (fun z=>K (.ret) ([.s (.ptr 0 0 none 0),.s (.i .i64 (z.1))]) ([.cells 28 [.arr .i8 81 (z.2.1),.arr .i8 16 (z.2.2.1),.one [.i .i8 (z.2.2.2)]]])) (fun z=>K (.exit 0) ([.s (.ptr 0 0 none 0),.s .bad]) ([.cells 28 [.arr .i8 81 (z.1),.arr .i8 16 (z.2.1),.one [.i .i8 (z.2.2)]]]))
 | _,_=>none
def qOa:HL:=fun vs objs K=>match vs,objs with
 | [.s (.ptr 0 0 none 0),.s (.i .i64 x0),.s (.i .i64 x1),.s (.i .i64 x2)],[.cells 87 [.arr .i8 81 x3,.arr .i8 16 x4,.one [.i .i8 x5],.rows [.i .u64,.i .u64] 32 x6,.rows [.i .u64,.i .u64] 2 x7]]=>ob (qFS qB x0 x1 x2 x3 x4 x5 x6 x7) fun t0=>sw t0 (fun z=>K (.ret) ([.s (.i .i64 (z.1)),.s (.ptr 0 0 none 0),.s (.i .i64 (z.2.1))]) ([.cells 87 [.arr .i8 81 (z.2.2.1),.arr .i8 16 (z.2.2.2.1),.one [.i .i8 (z.2.2.2.2.1)],.rows [.i .u64,.i .u64] 32 (z.2.2.2.2.2.1),.rows [.i .u64,.i .u64] 2 (z.2.2.2.2.2.2)]])) (fun z=>K (.exit 4) ([.s .bad,.s (.ptr 0 0 none 0),.s (.i .i64 (z.1))]) ([.cells 87 [.arr .i8 81 (z.2.1),.arr .i8 16 (z.2.2.1),.one [.i .i8 (z.2.2.2.1)],.rows [.i .u64,.i .u64] 32 (z.2.2.2.2.1),.rows [.i .u64,.i .u64] 2 (z.2.2.2.2.2)]]))
 | _,_=>none
def qOc:HL:=fun vs objs K=>match vs,objs with
 | [.s (.ptr 0 0 none 0),.s (.i .i64 x0)],[.cells 87 [.arr .i8 81 x1,.arr .i8 16 x2,.one [.i .i8 x3],.rows [.i .u64,.i .u64] 32 x4,.rows [.i .u64,.i .u64] 2 x5]]=>ob (qFV qB x0 x1 x2 x3 x4 x5) fun t0=>sw t0 (fun y0=>K (.ret) ([.s (.i .i64 y0)]) ([])) (fun _=>K (.exit 2) ([.s .bad]) ([]))
 | _,_=>none
def qhi:{R:Type}->Nat->List V->List Obj->(Ex->List V->List Obj->Option R)->Option R:=fun q vs objs K=>bif Nat.beq q 2 then qOb vs objs K else bif Nat.beq q 12 then qOa vs objs K else bif Nat.beq q 9 then qOc vs objs K else none
def qFR:Ctx:=mkC 36 ((qMu (qGI (qSN (qGh (qJV (qNG qK))))))) [(2,[1,9,10],[1,2]),(9,[5,20],[2]),(12,[5,6,20,23],[2,5,20])] qhi
theorem qLD:CtxOK Tryz.prog qFR:=mkC_ok ((qSI _ (qHD _ (qc8 _ (qHj _ (qK8 _ (qSm _ qM)))))))
def qOX (f:Nat) (x0:LI) (x1:Int) (x2 x3:LI) (x4:Int):Option ((Int×LI×LI×Int)⊕(LI×LI×Int)):=qh qFR 0 [1,9,10] [1,2] (qG Tryz.f49 2) f ([.s (.ptr 0 0 none 0),.agg [.arr .i8 81 x0],.s (.i .i64 x1)]) ([.cells 28 [.arr .i8 81 x2,.arr .i8 16 x3,.one [.i .i8 x4]]]) qOW
theorem qhg (f:Nat) (x0:LI) (x1:Int) (x2 x3:LI) (x4:Int):qOX (f+1) x0 x1 x2 x3 x4=qHm (qOX f) x0 x1 x2 x3 x4:=by kernel_rfl
theorem qU9:∀ f,qOX f=qFU f
 | 0=>rfl
 | f+1=>by funext x0 x1 x2 x3 x4;rw[qhg,qU9 f];rfl
def qOV (f:Nat) (x0 x1 x2:Int) (x3 x4:LI) (x5:Int) (x6 x7:LL):Option ((Int×Int×LI×LI×Int×LL×LL)⊕(Int×LI×LI×Int×LL×LL)):=qh qFR 0 [5,6,20,23] [2,5,20] (qG Tryz.f49 12) f ([.s (.ptr 0 0 none 0),.s (.i .i64 x0),.s (.i .i64 x1),.s (.i .i64 x2)]) ([.cells 87 [.arr .i8 81 x3,.arr .i8 16 x4,.one [.i .i8 x5],.rows [.i .u64,.i .u64] 32 x6,.rows [.i .u64,.i .u64] 2 x7]]) qOU
theorem qhf (f:Nat) (x0 x1 x2:Int) (x3 x4:LI) (x5:Int) (x6 x7:LL):qOV (f+1) x0 x1 x2 x3 x4 x5 x6 x7=qFT (qOV f) x0 x1 x2 x3 x4 x5 x6 x7:=by kernel_rfl
theorem qU8:∀ f,qOV f=qFS f
 | 0=>rfl
 | f+1=>by funext x0 x1 x2 x3 x4 x5 x6 x7;rw[qhf,qU8 f];rfl
def qOZ (f:Nat) (x0:Int) (x1 x2:LI) (x3:Int) (x4 x5:LL):Option ((Int)⊕(Unit)):=qh qFR 0 [5,20] [2] (qG Tryz.f49 9) f ([.s (.ptr 0 0 none 0),.s (.i .i64 x0)]) ([.cells 87 [.arr .i8 81 x1,.arr .i8 16 x2,.one [.i .i8 x3],.rows [.i .u64,.i .u64] 32 x4,.rows [.i .u64,.i .u64] 2 x5]]) qOY
theorem qhh (f:Nat) (x0:Int) (x1 x2:LI) (x3:Int) (x4 x5:LL):qOZ (f+1) x0 x1 x2 x3 x4 x5=qHn (qOZ f) x0 x1 x2 x3 x4 x5:=by kernel_rfl
theorem qVA:∀ f,qOZ f=qFV f
 | 0=>rfl
 | f+1=>by funext x0 x1 x2 x3 x4 x5;rw[qhh,qVA f];rfl
theorem qhl:qg Tryz.prog qFR 0 (qG Tryz.f49 2):=
 qi mixed qLD (qQ.of (l':=[]) (by kernel_rfl) trivial) (q:=2) (kin:=[1,9,10]) (kout:=[1,2]) (by kernel_rfl) (by kernel_rfl) fun vs objs K r h=>by
  replace h:qOb vs objs K=some r:=h
  unfold qOb at h
  split at h
  ·skip
   obtain⟨t,h1,h2⟩:=qE h
   rw[<- qU9] at h1
   refine⟨_,qOW,t,qB,h1,fun e vs' objs' hd=>?_⟩
   unfold qOW at hd
   split at hd
   ·skip
    cases hd
    exact h2
   ·skip
    cases hd
    exact h2
   ·cases hd
  ·cases h
theorem qhk:qg Tryz.prog qFR 0 (qG Tryz.f49 12):=
 qi mixed qLD (qQ.of (l':=[]) (by kernel_rfl) trivial) (q:=12) (kin:=[5,6,20,23]) (kout:=[2,5,20]) (by kernel_rfl) (by kernel_rfl) fun vs objs K r h=>by
  replace h:qOa vs objs K=some r:=h
  unfold qOa at h
  split at h
  ·skip
   obtain⟨t,h1,h2⟩:=qE h
   rw[<- qU8] at h1
   refine⟨_,qOU,t,qB,h1,fun e vs' objs' hd=>?_⟩
   unfold qOU at hd
   split at hd
   ·skip
    cases hd
    exact h2
   ·skip
    cases hd
    exact h2
   ·cases hd
  ·cases h
theorem qhm:qg Tryz.prog qFR 0 (qG Tryz.f49 9):=
 qi mixed qLD (qQ.of (l':=[qG Tryz.f49 12]) (by kernel_rfl) ⟨qhk,trivial⟩) (q:=9) (kin:=[5,20]) (kout:=[2]) (by kernel_rfl) (by kernel_rfl) fun vs objs K r h=>by
  replace h:qOc vs objs K=some r:=h
  unfold qOc at h
  split at h
  ·skip
   obtain⟨t,h1,h2⟩:=qE h
   rw[<- qVA] at h1
   refine⟨_,qOY,t,qB,h1,fun e vs' objs' hd=>?_⟩
   unfold qOY at hd
   split at hd
   ·skip
    cases hd
    exact h2
   ·skip
    cases hd
    exact h2
   ·cases hd
  ·cases h
def qU7:V->List Obj->Option (Int):=fun v objs=>match v,objs with
 | .s (.i .i64 y0),[]=>some (y0)
 | _,_=>none
theorem qhe (x0 x1:LI) (x2:Int):fnE qFR Tryz.f49 ([.agg [.arr .i8 81 x0,.arr .i8 16 x1,.one [.i .i8 x2]]]) ([]) qU7=qGj x0 x1 x2:=by kernel_rfl
def qU6:HA:=fun o vs objs K=>match vs,objs with
 | [.agg [.arr .i8 81 x0,.arr .i8 16 x1,.one [.i .i8 x2]]],[]=>ob (qGj x0 x1 x2) fun y0=>K false (.s (.i .i64 y0)) ([])
 | _,_=>o 49 vs objs K
def qVB (o:Orc):Orc:=qN 49 (qU6 o) o
theorem qhj:OQ Tryz.prog qVB:=fun _ ho=>qO ho fun vs objs K r h=>by
 unfold qU6 at h
 split at h
 ·skip
  obtain⟨t,h1,h2⟩:=qE h
  refine qAR mixed qLD (fn:=Tryz.f49) (b:=(Tryz.f49).body.getD .skip) (by kernel_rfl) (by kernel_rfl) (by kernel_rfl) ((qhe _ _ _).trans h1) (m:=0) rfl (qQ.of (l':=[qG Tryz.f49 2,qG Tryz.f49 9]) (by kernel_rfl) ⟨qhl,qhm,trivial⟩) fun v objs' hd=>?_
  unfold qU7 at hd;split at hd;(cases hd;exact h2);cases hd
 ·exact ho _ _ _ _ _ h
def qOA:Ex->List V->List Obj->Option ((Int×LI×LI×Int×LI×LI)⊕(LI×LI×Int×LI×LI)):=fun e vs objs=>match e,vs,objs with
 | .ret,[.s (.ptr 0 0 none 0),.s (.i .i64 y0),.s (.ptr 1 0 none 0),.s (.ptr 2 0 none 0)],[.cells 28 [.arr .i8 81 y1,.arr .i8 16 y2,.one [.i .i8 y3]],.cells 63 [.arr .i64 9 y4],.cells 60 [.arr .i64 2 y5]]=>some (.inl (y0,y1,y2,y3,y4,y5))
 | .exit 0,[.s (.ptr 0 0 none 0),.s .bad,.s (.ptr 1 0 none 0),.s (.ptr 2 0 none 0)],[.cells 28 [.arr .i8 81 y0,.arr .i8 16 y1,.one [.i .i8 y2]],.cells 63 [.arr .i64 9 y3],.cells 60 [.arr .i64 2 y4]]=>some (.inr (y0,y1,y2,y3,y4))
 | _,_,_=>none
def qN6:Ex->List V->List Obj->Option ((Int×LI×Int×LI×LI×Int×LI×LI)⊕(LI×Int×LI×LI×Int×LI×LI)):=fun e vs objs=>match e,vs,objs with
 | .ret,[.s (.ptr 0 0 none 0),.s (.i .i64 y0),.s (.ptr 1 0 none 0),.s (.ptr 2 0 none 0),.agg [.arr .i8 16 y1],.s (.i .i64 y2)],[.cells 28 [.arr .i8 81 y3,.arr .i8 16 y4,.one [.i .i8 y5]],.cells 63 [.arr .i64 9 y6],.cells 60 [.arr .i64 2 y7]]=>some (.inl (y0,y1,y2,y3,y4,y5,y6,y7))
 | .exit 9,[.s (.ptr 0 0 none 0),.s .bad,.s (.ptr 1 0 none 0),.s (.ptr 2 0 none 0),.agg [.arr .i8 16 y0],.s (.i .i64 y1)],[.cells 28 [.arr .i8 81 y2,.arr .i8 16 y3,.one [.i .i8 y4]],.cells 63 [.arr .i64 9 y5],.cells 60 [.arr .i64 2 y6]]=>some (.inr (y0,y1,y2,y3,y4,y5,y6))
 | _,_,_=>none
def qN4:Ex->List V->List Obj->Option ((Int×LI×LI×Int×LI×LI)⊕(LI×LI×Int×LI×LI)):=fun e vs objs=>match e,vs,objs with
 | .ret,[.s (.ptr 0 0 none 0),.s (.i .i64 y0),.s (.ptr 1 0 none 0),.s (.ptr 2 0 none 0)],[.cells 28 [.arr .i8 81 y1,.arr .i8 16 y2,.one [.i .i8 y3]],.cells 63 [.arr .i64 9 y4],.cells 60 [.arr .i64 2 y5]]=>some (.inl (y0,y1,y2,y3,y4,y5))
 | .exit 7,[.s (.ptr 0 0 none 0),.s .bad,.s (.ptr 1 0 none 0),.s (.ptr 2 0 none 0)],[.cells 28 [.arr .i8 81 y0,.arr .i8 16 y1,.one [.i .i8 y2]],.cells 63 [.arr .i64 9 y3],.cells 60 [.arr .i64 2 y4]]=>some (.inr (y0,y1,y2,y3,y4))
 | _,_,_=>none
def qN8:Ex->List V->List Obj->Option ((Int×LI×LI×Int)⊕(LI×LI×Int)):=fun e vs objs=>match e,vs,objs with
 | .ret,[.s (.ptr 0 0 none 0),.s (.i .i64 y0)],[.cells 28 [.arr .i8 81 y1,.arr .i8 16 y2,.one [.i .i8 y3]]]=>some (.inl (y0,y1,y2,y3))
 | .exit 11,[.s (.ptr 0 0 none 0),.s .bad],[.cells 28 [.arr .i8 81 y0,.arr .i8 16 y1,.one [.i .i8 y2]]]=>some (.inr (y0,y1,y2))
 | _,_,_=>none
def qOF:HL:=fun vs objs K=>match vs,objs with
 | [.s (.ptr 0 0 none 0),.s (.ptr 1 0 none 0),.s (.ptr 2 0 none 0),.agg [.arr .i8 81 x0],.s (.i .i64 x1)],[.cells 28 [.arr .i8 81 x2,.arr .i8 16 x3,.one [.i .i8 x4]],.cells 63 [.arr .i64 9 x5],.cells 60 [.arr .i64 2 x6]]=>ob (qCZ qB x0 x1 x2 x3 x4 x5 x6) fun t0=>sw t0 (fun z=>K (.ret) ([.s (.ptr 0 0 none 0),.s (.i .i64 (z.1)),.s (.ptr 1 0 none 0),.s (.ptr 2 0 none 0)]) ([.cells 28 [.arr .i8 81 (z.2.1),.arr .i8 16 (z.2.2.1),.one [.i .i8 (z.2.2.2.1)]],.cells 63 [.arr .i64 9 (z.2.2.2.2.1)],.cells 60 [.arr .i64 2 (z.2.2.2.2.2)]])) (fun z=>K (.exit 0) ([.s (.ptr 0 0 none 0),.s .bad,.s (.ptr 1 0 none 0),.s (.ptr 2 0 none 0)]) ([.cells 28 [.arr .i8 81 (z.1),.arr .i8 16 (z.2.1),.one [.i .i8 (z.2.2.1)]],.cells 63 [.arr .i64 9 (z.2.2.2.1)],.cells 60 [.arr .i64 2 (z.2.2.2.2)]]))
 | _,_=>none
def qOD:HL:=fun vs objs K=>match vs,objs with
 | [.s (.ptr 0 0 none 0),.s (.ptr 1 0 none 0),.s (.ptr 2 0 none 0),.agg [.arr .i8 16 x0],.s (.i .i64 x1),.agg [.arr .i8 8 x2],.s (.i .i64 x3)],[.cells 28 [.arr .i8 81 x4,.arr .i8 16 x5,.one [.i .i8 x6]],.cells 63 [.arr .i64 9 x7],.cells 60 [.arr .i64 2 x8]]=>ob (qDG qB x0 x1 x2 x3 x4 x5 x6 x7 x8) fun t0=>sw t0 (fun z=>K (.ret) ([.s (.ptr 0 0 none 0),.s (.i .i64 (z.1)),.s (.ptr 1 0 none 0),.s (.ptr 2 0 none 0),.agg [.arr .i8 16 (z.2.1)],.s (.i .i64 (z.2.2.1))]) ([.cells 28 [.arr .i8 81 (z.2.2.2.1),.arr .i8 16 (z.2.2.2.2.1),.one [.i .i8 (z.2.2.2.2.2.1)]],.cells 63 [.arr .i64 9 (z.2.2.2.2.2.2.1)],.cells 60 [.arr .i64 2 (z.2.2.2.2.2.2.2)]])) (fun z=>K (.exit 9) ([.s (.ptr 0 0 none 0),.s .bad,.s (.ptr 1 0 none 0),.s (.ptr 2 0 none 0),.agg [.arr .i8 16 (z.1)],.s (.i .i64 (z.2.1))]) ([.cells 28 [.arr .i8 81 (z.2.2.1),.arr .i8 16 (z.2.2.2.1),.one [.i .i8 (z.2.2.2.2.1)]],.cells 63 [.arr .i64 9 (z.2.2.2.2.2.1)],.cells 60 [.arr .i64 2 (z.2.2.2.2.2.2)]]))
 | _,_=>none
def qOC:HL:=fun vs objs K=>match vs,objs with
 | [.s (.ptr 0 0 none 0),.s (.ptr 1 0 none 0),.s (.ptr 2 0 none 0),.agg [.arr .i8 16 x0],.s (.i .i64 x1)],[.cells 28 [.arr .i8 81 x2,.arr .i8 16 x3,.one [.i .i8 x4]],.cells 63 [.arr .i64 9 x5],.cells 60 [.arr .i64 2 x6]]=>ob (qCu qB x0 x1 x2 x3 x4 x5 x6) fun t0=>sw t0 (fun z=>K (.ret) ([.s (.ptr 0 0 none 0),.s (.i .i64 (z.1)),.s (.ptr 1 0 none 0),.s (.ptr 2 0 none 0)]) ([.cells 28 [.arr .i8 81 (z.2.1),.arr .i8 16 (z.2.2.1),.one [.i .i8 (z.2.2.2.1)]],.cells 63 [.arr .i64 9 (z.2.2.2.2.1)],.cells 60 [.arr .i64 2 (z.2.2.2.2.2)]])) (fun z=>K (.exit 7) ([.s (.ptr 0 0 none 0),.s .bad,.s (.ptr 1 0 none 0),.s (.ptr 2 0 none 0)]) ([.cells 28 [.arr .i8 81 (z.1),.arr .i8 16 (z.2.1),.one [.i .i8 (z.2.2.1)]],.cells 63 [.arr .i64 9 (z.2.2.2.1)],.cells 60 [.arr .i64 2 (z.2.2.2.2)]]))
 | _,_=>none
def qOE:HL:=fun vs objs K=>match vs,objs with
 | [.s (.ptr 0 0 none 0),.s (.ptr 1 0 none 0),.s (.i .i64 x0)],[.cells 28 [.arr .i8 81 x1,.arr .i8 16 x2,.one [.i .i8 x3]],.cells 63 [.arr .i64 9 x4]]=>ob (qDm qB x0 x1 x2 x3 x4) fun t0=>sw t0 (fun z=>K (.ret) ([.s (.ptr 0 0 none 0),.s (.i .i64 (z.1))]) ([.cells 28 [.arr .i8 81 (z.2.1),.arr .i8 16 (z.2.2.1),.one [.i .i8 (z.2.2.2)]]])) (fun z=>K (.exit 11) ([.s (.ptr 0 0 none 0),.s .bad]) ([.cells 28 [.arr .i8 81 (z.1),.arr .i8 16 (z.2.1),.one [.i .i8 (z.2.2)]]]))
 | _,_=>none
def qg5:{R:Type}->Nat->List V->List Obj->(Ex->List V->List Obj->Option R)->Option R:=fun q vs objs K=>bif Nat.beq q 6 then qOF vs objs K else bif Nat.beq q 20 then qOD vs objs K else bif Nat.beq q 17 then qOC vs objs K else bif Nat.beq q 30 then qOE vs objs K else none
def qDk:Ctx:=mkC 98 ((qVB (qZD (qMC (qEi (qCj qK)))))) [(6,[1,3,4,22,23],[1,2,3,4]),(17,[1,3,4,51,52],[1,2,3,4]),(20,[1,3,4,51,52,55,56],[1,2,3,4,51,52]),(30,[1,3,12],[1,2])] qg5
theorem qJU:CtxOK Tryz.prog qDk:=mkC_ok ((qhj _ (qnR _ (qQY _ (qFw _ (qC4 _ qM))))))
def qOB (f:Nat) (x0:LI) (x1:Int) (x2 x3:LI) (x4:Int) (x5 x6:LI):Option ((Int×LI×LI×Int×LI×LI)⊕(LI×LI×Int×LI×LI)):=qh qDk 0 [1,3,4,22,23] [1,2,3,4] (qG Tryz.f25 6) f ([.s (.ptr 0 0 none 0),.s (.ptr 1 0 none 0),.s (.ptr 2 0 none 0),.agg [.arr .i8 81 x0],.s (.i .i64 x1)]) ([.cells 28 [.arr .i8 81 x2,.arr .i8 16 x3,.one [.i .i8 x4]],.cells 63 [.arr .i64 9 x5],.cells 60 [.arr .i64 2 x6]]) qOA
theorem qg4 (f:Nat) (x0:LI) (x1:Int) (x2 x3:LI) (x4:Int) (x5 x6:LI):qOB (f+1) x0 x1 x2 x3 x4 x5 x6=qFQ (qOB f) x0 x1 x2 x3 x4 x5 x6:=by kernel_rfl
theorem qUR:∀ f,qOB f=qCZ f
 | 0=>rfl
 | f+1=>by funext x0 x1 x2 x3 x4 x5 x6;rw[qg4,qUR f];rfl
def qN7 (f:Nat) (x0:LI) (x1:Int) (x2:LI) (x3:Int) (x4 x5:LI) (x6:Int) (x7 x8:LI):Option ((Int×LI×Int×LI×LI×Int×LI×LI)⊕(LI×Int×LI×LI×Int×LI×LI)):=qh qDk 0 [1,3,4,51,52,55,56] [1,2,3,4,51,52] (qG Tryz.f25 20) f ([.s (.ptr 0 0 none 0),.s (.ptr 1 0 none 0),.s (.ptr 2 0 none 0),.agg [.arr .i8 16 x0],.s (.i .i64 x1),.agg [.arr .i8 8 x2],.s (.i .i64 x3)]) ([.cells 28 [.arr .i8 81 x4,.arr .i8 16 x5,.one [.i .i8 x6]],.cells 63 [.arr .i64 9 x7],.cells 60 [.arr .i64 2 x8]]) qN6
theorem qg2 (f:Nat) (x0:LI) (x1:Int) (x2:LI) (x3:Int) (x4 x5:LI) (x6:Int) (x7 x8:LI):qN7 (f+1) x0 x1 x2 x3 x4 x5 x6 x7 x8=qFP (qN7 f) x0 x1 x2 x3 x4 x5 x6 x7 x8:=by kernel_rfl
theorem qUP:∀ f,qN7 f=qDG f
 | 0=>rfl
 | f+1=>by funext x0 x1 x2 x3 x4 x5 x6 x7 x8;rw[qg2,qUP f];rfl
def qN5 (f:Nat) (x0:LI) (x1:Int) (x2 x3:LI) (x4:Int) (x5 x6:LI):Option ((Int×LI×LI×Int×LI×LI)⊕(LI×LI×Int×LI×LI)):=qh qDk 0 [1,3,4,51,52] [1,2,3,4] (qG Tryz.f25 17) f ([.s (.ptr 0 0 none 0),.s (.ptr 1 0 none 0),.s (.ptr 2 0 none 0),.agg [.arr .i8 16 x0],.s (.i .i64 x1)]) ([.cells 28 [.arr .i8 81 x2,.arr .i8 16 x3,.one [.i .i8 x4]],.cells 63 [.arr .i64 9 x5],.cells 60 [.arr .i64 2 x6]]) qN4
theorem qg1 (f:Nat) (x0:LI) (x1:Int) (x2 x3:LI) (x4:Int) (x5 x6:LI):qN5 (f+1) x0 x1 x2 x3 x4 x5 x6=qDl (qN5 f) x0 x1 x2 x3 x4 x5 x6:=by kernel_rfl
theorem qUO:∀ f,qN5 f=qCu f
 | 0=>rfl
 | f+1=>by funext x0 x1 x2 x3 x4 x5 x6;rw[qg1,qUO f];rfl
def qN9 (f:Nat) (x0:Int) (x1 x2:LI) (x3:Int) (x4:LI):Option ((Int×LI×LI×Int)⊕(LI×LI×Int)):=qh qDk 0 [1,3,12] [1,2] (qG Tryz.f25 30) f ([.s (.ptr 0 0 none 0),.s (.ptr 1 0 none 0),.s (.i .i64 x0)]) ([.cells 28 [.arr .i8 81 x1,.arr .i8 16 x2,.one [.i .i8 x3]],.cells 63 [.arr .i64 9 x4]]) qN8
theorem qg3 (f:Nat) (x0:Int) (x1 x2:LI) (x3:Int) (x4:LI):qN9 (f+1) x0 x1 x2 x3 x4=qHi (qN9 f) x0 x1 x2 x3 x4:=by kernel_rfl
theorem qUQ:∀ f,qN9 f=qDm f
 | 0=>rfl
 | f+1=>by funext x0 x1 x2 x3 x4;rw[qg3,qUQ f];rfl
theorem qhA:qg Tryz.prog qDk 0 (qG Tryz.f25 6):=
 qi mixed qJU (qQ.of (l':=[]) (by kernel_rfl) trivial) (q:=6) (kin:=[1,3,4,22,23]) (kout:=[1,2,3,4]) (by kernel_rfl) (by kernel_rfl) fun vs objs K r h=>by
  replace h:qOF vs objs K=some r:=h
  unfold qOF at h
  split at h
  ·skip
   obtain⟨t,h1,h2⟩:=qE h
   rw[<- qUR] at h1
   refine⟨_,qOA,t,qB,h1,fun e vs' objs' hd=>?_⟩
   unfold qOA at hd
   split at hd
   ·skip
    cases hd
    exact h2
   ·skip
    cases hd
    exact h2
   ·cases hd
  ·cases h
theorem qg8:qg Tryz.prog qDk 0 (qG Tryz.f25 20):=
 qi mixed qJU (qQ.of (l':=[]) (by kernel_rfl) trivial) (q:=20) (kin:=[1,3,4,51,52,55,56]) (kout:=[1,2,3,4,51,52]) (by kernel_rfl) (by kernel_rfl) fun vs objs K r h=>by
  replace h:qOD vs objs K=some r:=h
  unfold qOD at h
  split at h
  ·skip
   obtain⟨t,h1,h2⟩:=qE h
   rw[<- qUP] at h1
   refine⟨_,qN6,t,qB,h1,fun e vs' objs' hd=>?_⟩
   unfold qN6 at hd
   split at hd
   ·skip
    cases hd
    exact h2
   ·skip
    cases hd
    exact h2
   ·cases hd
  ·cases h
theorem qg9:qg Tryz.prog qDk 0 (qG Tryz.f25 30):=
 qi mixed qJU (qQ.of (l':=[]) (by kernel_rfl) trivial) (q:=30) (kin:=[1,3,12]) (kout:=[1,2]) (by kernel_rfl) (by kernel_rfl) fun vs objs K r h=>by
  replace h:qOE vs objs K=some r:=h
  unfold qOE at h
  split at h
  ·skip
   obtain⟨t,h1,h2⟩:=qE h
   rw[<- qUQ] at h1
   refine⟨_,qN8,t,qB,h1,fun e vs' objs' hd=>?_⟩
   unfold qN8 at hd
   split at hd
   ·skip
    cases hd
    exact h2
   ·skip
    cases hd
    exact h2
   ·cases hd
  ·cases h
theorem qg7:qg Tryz.prog qDk 0 (qG Tryz.f25 17):=
 qi mixed qJU (qQ.of (l':=[qG Tryz.f25 20]) (by kernel_rfl) ⟨qg8,trivial⟩) (q:=17) (kin:=[1,3,4,51,52]) (kout:=[1,2,3,4]) (by kernel_rfl) (by kernel_rfl) fun vs objs K r h=>by
  replace h:qOC vs objs K=some r:=h
  unfold qOC at h
  split at h
  ·skip
   obtain⟨t,h1,h2⟩:=qE h
   rw[<- qUO] at h1
   refine⟨_,qN4,t,qB,h1,fun e vs' objs' hd=>?_⟩
   unfold qN4 at hd
   split at hd
   ·skip
    cases hd
    exact h2
   ·skip
    cases hd
    exact h2
   ·cases hd
  ·cases h
def qUN:V->List Obj->Option (Int):=fun v objs=>match v,objs with
 | .s (.i .i64 y0),[]=>some (y0)
 | _,_=>none
theorem qg0 (x0 x1:LI) (x2:Int):fnE qDk Tryz.f25 ([.agg [.arr .i8 81 x0,.arr .i8 16 x1,.one [.i .i8 x2]]]) ([]) qUN=qJT x0 x1 x2:=by kernel_rfl
def qUM:HA:=fun o vs objs K=>match vs,objs with
 | [.agg [.arr .i8 81 x0,.arr .i8 16 x1,.one [.i .i8 x2]]],[]=>ob (qJT x0 x1 x2) fun y0=>K false (.s (.i .i64 y0)) ([])
 | _,_=>o 25 vs objs K
def qUS (o:Orc):Orc:=qN 25 (qUM o) o
theorem qg6:OQ Tryz.prog qUS:=fun _ ho=>qO ho fun vs objs K r h=>by
 unfold qUM at h
 split at h
 ·skip
  obtain⟨t,h1,h2⟩:=qE h
  refine qAR mixed qJU (fn:=Tryz.f25) (b:=(Tryz.f25).body.getD .skip) (by kernel_rfl) (by kernel_rfl) (by kernel_rfl) ((qg0 _ _ _).trans h1) (m:=0) rfl (qQ.of (l':=[qG Tryz.f25 6,qG Tryz.f25 17,qG Tryz.f25 30]) (by kernel_rfl) ⟨qhA,qg7,qg9,trivial⟩) fun v objs' hd=>?_
  unfold qUN at hd;split at hd;(cases hd;exact h2);cases hd
 ·exact ho _ _ _ _ _ h
def qTt:Ctx:=mkC 10 ((qIy (qKz qK))) [] qW
theorem qgI:CtxOK Tryz.prog qTt:=mkC_ok ((qKb _ (qNi _ qM)))
def qTu:V->List Obj->Option (Bool):=fun v objs=>match v,objs with
 | .s (.b y0),[]=>some (y0)
 | _,_=>none
theorem qgH (x0:Int) (x1 x2:LI) (x3:Int) (x4 x5:LL):fnE qTt Tryz.f26 ([.s (.ptr 0 0 none 0),.s (.i .i64 x0)]) ([.rcells 87 [.arr .i8 81 x1,.arr .i8 16 x2,.one [.i .i8 x3],.rows [.i .u64,.i .u64] 32 x4,.rows [.i .u64,.i .u64] 2 x5]]) (qAf 1 qTu)=qJS x0 x1 x2 x3 x4 x5:=by kernel_rfl
def qTs:HA:=fun o vs objs K=>match vs,List.map Obj.toRO objs with
 | [.s (.ptr 0 0 none 0),.s (.i .i64 x0)],[.rcells 87 [.arr .i8 81 x1,.arr .i8 16 x2,.one [.i .i8 x3],.rows [.i .u64,.i .u64] 32 x4,.rows [.i .u64,.i .u64] 2 x5]]=>ob (qJS x0 x1 x2 x3 x4 x5) fun y0=>K true (.s (.b y0)) ([])
 | _,_=>o 26 vs objs K
def qTv (o:Orc):Orc:=qN 26 (qTs o) o
theorem qgJ:OQ Tryz.prog qTv:=fun _ ho=>qO ho fun vs objs K r h=>by
 unfold qTs at h
 split at h
 ·skip
  have hq:List.map Obj.toRO objs=_:=(by rename_i hq;first | exact hq | assumption)
  obtain⟨t,h1,h2⟩:=qE h
  refine qAr mixed qgI (m:=1) (fn:=Tryz.f26) (b:=(Tryz.f26).body.getD .skip) (by kernel_rfl) (by kernel_rfl) (by kernel_rfl) hq (by kernel_rfl) (by kernel_rfl) (qQ.of (l':=[]) (by kernel_rfl) trivial) ((qgH _ _ _ _ _ _).trans h1) fun v objs' hd=>?_
  unfold qTu at hd;split at hd;(cases hd;exact h2);cases hd
 ·exact ho _ _ _ _ _ h
def qTm:Ctx:=mkC 16 ((qTv (qJV (qUS qK)))) [] qW
theorem qgD:CtxOK Tryz.prog qTm:=mkC_ok ((qgJ _ (qK8 _ (qg6 _ qM))))
def qTn:V->List Obj->Option (Int):=fun v objs=>match v,objs with
 | .s (.i .i64 y0),[]=>some (y0)
 | _,_=>none
theorem qgC (x0 x1:LI) (x2:Int):fnE qTm Tryz.f9 ([.agg [.arr .i8 81 x0,.arr .i8 16 x1,.one [.i .i8 x2]]]) ([]) qTn=qCY x0 x1 x2:=by kernel_rfl
def qTl:HA:=fun o vs objs K=>match vs,objs with
 | [.agg [.arr .i8 81 x0,.arr .i8 16 x1,.one [.i .i8 x2]]],[]=>ob (qCY x0 x1 x2) fun y0=>K false (.s (.i .i64 y0)) ([])
 | _,_=>o 9 vs objs K
def qTr (o:Orc):Orc:=qN 9 (qTl o) o
theorem qgG:OQ Tryz.prog qTr:=fun _ ho=>qO ho fun vs objs K r h=>by
 unfold qTl at h
 split at h
 ·skip
  obtain⟨t,h1,h2⟩:=qE h
  refine qa mixed qgD ((qgC _ _ _).trans h1) (by kernel_rfl) fun v objs' hd=>?_
  unfold qTn at hd;split at hd;(cases hd;exact h2);cases hd
 ·exact ho _ _ _ _ _ h
def qRA:Ex->List V->List Obj->Option (List Bool×List Bool):=fun e vs objs=>match e,vs,objs with
 | .exit 0,[.s (.ptr 0 0 none 0),.s (.ptr 1 0 none 0)],[.cells 138 [Seg.barr 81 y0],.cells 138 [Seg.barr 81 y1]]=>some (y0,y1)
 | _,_,_=>none
def qRD:HL:=fun vs objs K=>match vs,objs with
 | [.s (.ptr 0 0 none 0),.s (.ptr 1 0 none 0),.s (.ptr 2 0 none 0),.s (.i .i64 x0)],[.cells 28 [.arr .i8 81 x1,.arr .i8 16 x2,.one [.i .i8 x3]],.cells 138 [Seg.barr 81 x4],.cells 138 [Seg.barr 81 x5]]=>ob (qEw qB x0 x1 x2 x3 x4 x5) fun z=>K (.exit 0) ([.s (.ptr 0 0 none 0),.s (.ptr 1 0 none 0)]) ([.cells 138 [Seg.barr 81 (z.1)],.cells 138 [Seg.barr 81 (z.2)]])
 | _,_=>none
def qov:{R:Type}->Nat->List V->List Obj->(Ex->List V->List Obj->Option R)->Option R:=fun q vs objs K=>bif Nat.beq q 3 then qRD vs objs K else none
def qMY:Ctx:=mkC 18 (qK) [(3,[1,2,3,4],[2,3])] qov
theorem qak:CtxOK Tryz.prog qMY:=mkC_ok (qM)
def qRB (f:Nat) (x0:Int) (x1 x2:LI) (x3:Int) (x4 x5:List Bool):Option (List Bool×List Bool):=qh qMY 0 [1,2,3,4] [2,3] (qG Tryz.f100 3) f ([.s (.ptr 0 0 none 0),.s (.ptr 1 0 none 0),.s (.ptr 2 0 none 0),.s (.i .i64 x0)]) ([.cells 28 [.arr .i8 81 x1,.arr .i8 16 x2,.one [.i .i8 x3]],.cells 138 [Seg.barr 81 x4],.cells 138 [Seg.barr 81 x5]]) qRA
theorem qou (f:Nat) (x0:Int) (x1 x2:LI) (x3:Int) (x4 x5:List Bool):qRB (f+1) x0 x1 x2 x3 x4 x5=qIh (qRB f) x0 x1 x2 x3 x4 x5:=by kernel_rfl
theorem qam:∀ f,qRB f=qEw f
 | 0=>rfl
 | f+1=>by funext x0 x1 x2 x3 x4 x5;rw[qou,qam f];rfl
theorem qow:qg Tryz.prog qMY 0 (qG Tryz.f100 3):=
 qi mixed qak (qQ.of (l':=[]) (by kernel_rfl) trivial) (q:=3) (kin:=[1,2,3,4]) (kout:=[2,3]) (by kernel_rfl) (by kernel_rfl) fun vs objs K r h=>by
  replace h:qRD vs objs K=some r:=h
  unfold qRD at h
  split at h
  ·skip
   obtain⟨t,h1,h2⟩:=qE h
   rw[<- qam] at h1
   refine⟨_,qRA,t,qB,h1,fun e vs' objs' hd=>?_⟩
   unfold qRA at hd;split at hd;(cases hd;exact h2);cases hd
  ·cases h
def qal:V->List Obj->Option (List Bool):=fun v objs=>match v,objs with
 | .agg [Seg.barr 81 y0],[]=>some (y0)
 | _,_=>none
theorem qot (x0 x1:LI) (x2:Int):fnE qMY Tryz.f100 ([.agg [.arr .i8 81 x0,.arr .i8 16 x1,.one [.i .i8 x2]]]) ([]) qal=qEv x0 x1 x2:=by kernel_rfl
def qaj:HA:=fun o vs objs K=>match vs,objs with
 | [.agg [.arr .i8 81 x0,.arr .i8 16 x1,.one [.i .i8 x2]]],[]=>ob (qEv x0 x1 x2) fun y0=>K false (.agg [Seg.barr 81 y0]) ([])
 | _,_=>o 100 vs objs K
def qMZ (o:Orc):Orc:=qN 100 (qaj o) o
theorem qRC:OQ Tryz.prog qMZ:=fun _ ho=>qO ho fun vs objs K r h=>by
 unfold qaj at h
 split at h
 ·skip
  obtain⟨t,h1,h2⟩:=qE h
  refine qAR mixed qak (fn:=Tryz.f100) (b:=(Tryz.f100).body.getD .skip) (by kernel_rfl) (by kernel_rfl) (by kernel_rfl) ((qot _ _ _).trans h1) (m:=0) rfl (qQ.of (l':=[qG Tryz.f100 3]) (by kernel_rfl) ⟨qow,trivial⟩) fun v objs' hd=>?_
  unfold qal at hd;split at hd;(cases hd;exact h2);cases hd
 ·exact ho _ _ _ _ _ h
def qZr:Ctx:=mkC 23 (qK) [] qW
theorem qoF:CtxOK Tryz.prog qZr:=mkC_ok (qM)
def qZs:V->List Obj->Option (Int):=fun v objs=>match v,objs with
 | .s (.i .i64 y0),[]=>some (y0)
 | _,_=>none
theorem qoE (x0:Int):fnE qZr Tryz.f78 ([.s (.i .i64 x0)]) ([]) qZs=qAP x0:=by kernel_rfl
def qZq:HA:=fun o vs objs K=>match vs,objs with
 | [.s (.i .i64 x0)],[]=>ob (qAP x0) fun y0=>K false (.s (.i .i64 y0)) ([])
 | _,_=>o 78 vs objs K
def qD3 (o:Orc):Orc:=qN 78 (qZq o) o
theorem qEm:OQ Tryz.prog qD3:=fun _ ho=>qO ho fun vs objs K r h=>by
 unfold qZq at h
 split at h
 ·skip
  obtain⟨t,h1,h2⟩:=qE h
  refine qa mixed qoF ((qoE _).trans h1) (by kernel_rfl) fun v objs' hd=>?_
  unfold qZs at hd;split at hd;(cases hd;exact h2);cases hd
 ·exact ho _ _ _ _ _ h
def qZy:Ctx:=mkC 8 ((qD3 qK)) [] qW
theorem qoK:CtxOK Tryz.prog qZy:=mkC_ok ((qEm _ qM))
def qZz:V->List Obj->Option (Int):=fun v objs=>match v,objs with
 | .s (.i .i64 y0),[]=>some (y0)
 | _,_=>none
theorem qoJ (x0:Int):fnE qZy Tryz.f101 ([.s (.i .i64 x0)]) ([]) qZz=qA9 x0:=by kernel_rfl
def qZx:HA:=fun o vs objs K=>match vs,objs with
 | [.s (.i .i64 x0)],[]=>ob (qA9 x0) fun y0=>K false (.s (.i .i64 y0)) ([])
 | _,_=>o 101 vs objs K
def qEn (o:Orc):Orc:=qN 101 (qZx o) o
theorem qF0:OQ Tryz.prog qEn:=fun _ ho=>qO ho fun vs objs K r h=>by
 unfold qZx at h
 split at h
 ·skip
  obtain⟨t,h1,h2⟩:=qE h
  refine qa mixed qoK ((qoJ _).trans h1) (by kernel_rfl) fun v objs' hd=>?_
  unfold qZz at hd;split at hd;(cases hd;exact h2);cases hd
 ·exact ho _ _ _ _ _ h
def qaG:Ctx:=mkC 8 (qK) [] qW
theorem qoV:CtxOK Tryz.prog qaG:=mkC_ok (qM)
def qaH:V->List Obj->Option (Int):=fun v objs=>match v,objs with
 | .s (.i .i64 y0),[]=>some (y0)
 | _,_=>none
theorem qoU (x0:Int):fnE qaG Tryz.f124 ([.s (.i .i64 x0)]) ([]) qaH=qF1 x0:=by kernel_rfl
def qaF:HA:=fun o vs objs K=>match vs,objs with
 | [.s (.i .i64 x0)],[]=>ob (qF1 x0) fun y0=>K false (.s (.i .i64 y0)) ([])
 | _,_=>o 124 vs objs K
def qaI (o:Orc):Orc:=qN 124 (qaF o) o
theorem qoW:OQ Tryz.prog qaI:=fun _ ho=>qO ho fun vs objs K r h=>by
 unfold qaF at h
 split at h
 ·skip
  obtain⟨t,h1,h2⟩:=qE h
  refine qa mixed qoV ((qoU _).trans h1) (by kernel_rfl) fun v objs' hd=>?_
  unfold qaH at hd;split at hd;(cases hd;exact h2);cases hd
 ·exact ho _ _ _ _ _ h
def qaC:Ctx:=mkC 125 ((qD3 (qEn (qaI qK)))) [] qW
theorem qoS:CtxOK Tryz.prog qaC:=mkC_ok ((qEm _ (qF0 _ (qoW _ qM))))
def qaD:V->List Obj->Option (Bool):=fun v objs=>match v,objs with
 | .s (.b y0),[]=>some (y0)
 | _,_=>none
theorem qoR (x0 x1 x2:Int):fnE qaC Tryz.f114 ([.s (.i .i64 x0),.s (.i .i64 x1),.s (.i .i64 x2)]) ([]) qaD=qKE x0 x1 x2:=by kernel_rfl
def qaB:HA:=fun o vs objs K=>match vs,objs with
 | [.s (.i .i64 x0),.s (.i .i64 x1),.s (.i .i64 x2)],[]=>ob (qKE x0 x1 x2) fun y0=>K false (.s (.b y0)) ([])
 | _,_=>o 114 vs objs K
def qaE (o:Orc):Orc:=qN 114 (qaB o) o
theorem qoT:OQ Tryz.prog qaE:=fun _ ho=>qO ho fun vs objs K r h=>by
 unfold qaB at h
 split at h
 ·skip
  obtain⟨t,h1,h2⟩:=qE h
  refine qa mixed qoS ((qoR _ _ _).trans h1) (by kernel_rfl) fun v objs' hd=>?_
  unfold qaD at hd;split at hd;(cases hd;exact h2);cases hd
 ·exact ho _ _ _ _ _ h
def qaU:Ctx:=mkC 51 (qK) [] qW
theorem qoi:CtxOK Tryz.prog qaU:=mkC_ok (qM)
def qaV:V->List Obj->Option (Int):=fun v objs=>match v,objs with
 | .s (.i .i64 y0),[]=>some (y0)
 | _,_=>none
theorem qoh (x0 x1:Int):fnE qaU Tryz.f115 ([.s (.i .i64 x0),.s (.i .i64 x1)]) ([]) qaV=qIe x0 x1:=by kernel_rfl
def qaT:HA:=fun o vs objs K=>match vs,objs with
 | [.s (.i .i64 x0),.s (.i .i64 x1)],[]=>ob (qIe x0 x1) fun y0=>K false (.s (.i .i64 y0)) ([])
 | _,_=>o 115 vs objs K
def qQ4 (o:Orc):Orc:=qN 115 (qaT o) o
theorem qaW:OQ Tryz.prog qQ4:=fun _ ho=>qO ho fun vs objs K r h=>by
 unfold qaT at h
 split at h
 ·skip
  obtain⟨t,h1,h2⟩:=qE h
  refine qa mixed qoi ((qoh _ _).trans h1) (by kernel_rfl) fun v objs' hd=>?_
  unfold qaV at hd;split at hd;(cases hd;exact h2);cases hd
 ·exact ho _ _ _ _ _ h
def qab:Ctx:=mkC 7 (qK) [] qW
theorem qom:CtxOK Tryz.prog qab:=mkC_ok (qM)
def qac:V->List Obj->Option (Int):=fun v objs=>match v,objs with
 | .s (.i .i64 y0),[]=>some (y0)
 | _,_=>none
theorem qol (x0:Int):fnE qab Tryz.f129 ([.s (.i .i64 x0)]) ([]) qac=qIf x0:=by kernel_rfl
def qaa:HA:=fun o vs objs K=>match vs,objs with
 | [.s (.i .i64 x0)],[]=>ob (qIf x0) fun y0=>K false (.s (.i .i64 y0)) ([])
 | _,_=>o 129 vs objs K
def qad (o:Orc):Orc:=qN 129 (qaa o) o
theorem qon:OQ Tryz.prog qad:=fun _ ho=>qO ho fun vs objs K r h=>by
 unfold qaa at h
 split at h
 ·skip
  obtain⟨t,h1,h2⟩:=qE h
  refine qa mixed qom ((qol _).trans h1) (by kernel_rfl) fun v objs' hd=>?_
  unfold qac at hd;split at hd;(cases hd;exact h2);cases hd
 ·exact ho _ _ _ _ _ h
def qQy:Ex->List V->List Obj->Option (Nat×Nat×LI):=fun e vs objs=>match e,vs,objs with
 | .exit 0,[.s (.sl 0 0 y0 true)],[.sli 3 false (.arr .i64 y1 y2)]=>some (y0,y1,y2)
 | _,_,_=>none
def qQ0:HL:=fun vs objs K=>match vs,objs with
 | [.s (.i .i64 x0),.s (.sl 0 0 x1 true),.s (.i .i64 x2),.s (.i .i64 x3)],[.sli 3 false (.arr .i64 x4 x5)]=>ob (qF2 qB x0 x1 x2 x3 x4 x5) fun z=>K (.exit 0) ([.s (.sl 0 0 (z.1) true)]) ([.sli 3 false (.arr .i64 (z.2.1) (z.2.2))])
 | _,_=>none
def qoZ:{R:Type}->Nat->List V->List Obj->(Ex->List V->List Obj->Option R)->Option R:=fun q vs objs K=>bif Nat.beq q 6 then qQ0 vs objs K else none
def qMU:Ctx:=mkC 41 ((qad (qQ4 qK))) [(6,[1,5,6,7],[5])] qoZ
theorem qaK:CtxOK Tryz.prog qMU:=mkC_ok ((qon _ (qaW _ qM)))
def qQz (f:Nat) (x0:Int) (x1:Nat) (x2 x3:Int) (x4:Nat) (x5:LI):Option (Nat×Nat×LI):=qh qMU 0 [1,5,6,7] [5] (qG Tryz.f125 6) f ([.s (.i .i64 x0),.s (.sl 0 0 x1 true),.s (.i .i64 x2),.s (.i .i64 x3)]) ([.sli 3 false (.arr .i64 x4 x5)]) qQy
theorem qoY (f:Nat) (x0:Int) (x1:Nat) (x2 x3:Int) (x4:Nat) (x5:LI):qQz (f+1) x0 x1 x2 x3 x4 x5=qIc (qQz f) x0 x1 x2 x3 x4 x5:=by kernel_rfl
theorem qaM:∀ f,qQz f=qF2 f
 | 0=>rfl
 | f+1=>by funext x0 x1 x2 x3 x4 x5;rw[qoY,qaM f];rfl
theorem qob:qg Tryz.prog qMU 0 (qG Tryz.f125 6):=
 qi mixed qaK (qQ.of (l':=[]) (by kernel_rfl) trivial) (q:=6) (kin:=[1,5,6,7]) (kout:=[5]) (by kernel_rfl) (by kernel_rfl) fun vs objs K r h=>by
  replace h:qQ0 vs objs K=some r:=h
  unfold qQ0 at h
  split at h
  ·skip
   obtain⟨t,h1,h2⟩:=qE h
   rw[<- qaM] at h1
   refine⟨_,qQy,t,qB,h1,fun e vs' objs' hd=>?_⟩
   unfold qQy at hd;split at hd;(cases hd;exact h2);cases hd
  ·cases h
def qaL:V->List Obj->Option (Nat×Nat×LI):=fun v objs=>match v,objs with
 | .s (.sl 0 0 y0 true),[.sli 3 false (.arr .i64 y1 y2)]=>some (y0,y1,y2)
 | _,_=>none
theorem qoX (x0 x1:Int):fnE qMU Tryz.f125 ([.s (.i .i64 x0),.s (.i .i64 x1)]) ([]) qaL=qKF x0 x1:=by kernel_rfl
def qaJ:HA:=fun o vs objs K=>match vs,objs with
 | [.s (.i .i64 x0),.s (.i .i64 x1)],[]=>ob (qKF x0 x1) fun z=>K false (.s (.sl 0 0 (z.1) true)) ([.sli 3 false (.arr .i64 (z.2.1) (z.2.2))])
 | _,_=>o 125 vs objs K
def qaN (o:Orc):Orc:=qN 125 (qaJ o) o
theorem qoa:OQ Tryz.prog qaN:=fun _ ho=>qO ho fun vs objs K r h=>by
 unfold qaJ at h
 split at h
 ·skip
  obtain⟨t,h1,h2⟩:=qE h
  refine qAR mixed qaK (fn:=Tryz.f125) (b:=(Tryz.f125).body.getD .skip) (by kernel_rfl) (by kernel_rfl) (by kernel_rfl) ((qoX _ _).trans h1) (m:=0) rfl (qQ.of (l':=[qG Tryz.f125 6]) (by kernel_rfl) ⟨qob,trivial⟩) fun v objs' hd=>?_
  unfold qaL at hd;split at hd;(cases hd;exact h2);cases hd
 ·exact ho _ _ _ _ _ h
def qQ1:Ex->List V->List Obj->Option ((Bool)⊕(Unit)):=fun e vs objs=>match e,vs,objs with
 | .ret,[.s (.b y0)],[]=>some (.inl (y0))
 | .exit 0,[.s .bad],[]=>some (.inr ())
 | _,_,_=>none
def qQ3:HL:=fun vs objs K=>match vs,objs with
 | [.s (.ptr 0 0 none 0),.s (.sl 1 0 x0 true),.s (.i .i64 x1)],[.cells 138 [Seg.barr 81 x2],.sli 3 false (.arr .i64 x3 x4)]=>ob (qF3 qB x0 x1 x2 x3 x4) fun t0=>sw t0 (fun y0=>K (.ret) ([.s (.b y0)]) ([])) (fun _=>K (.exit 0) ([.s .bad]) ([]))
 | _,_=>none
def qoe:{R:Type}->Nat->List V->List Obj->(Ex->List V->List Obj->Option R)->Option R:=fun q vs objs K=>bif Nat.beq q 3 then qQ3 vs objs K else none
def qMV:Ctx:=mkC 24 ((qaN qK)) [(3,[5,7,8],[6])] qoe
theorem qaP:CtxOK Tryz.prog qMV:=mkC_ok ((qoa _ qM))
def qQ2 (f:Nat) (x0:Nat) (x1:Int) (x2:List Bool) (x3:Nat) (x4:LI):Option ((Bool)⊕(Unit)):=qh qMV 0 [5,7,8] [6] (qG Tryz.f116 3) f ([.s (.ptr 0 0 none 0),.s (.sl 1 0 x0 true),.s (.i .i64 x1)]) ([.cells 138 [Seg.barr 81 x2],.sli 3 false (.arr .i64 x3 x4)]) qQ1
theorem qod (f:Nat) (x0:Nat) (x1:Int) (x2:List Bool) (x3:Nat) (x4:LI):qQ2 (f+1) x0 x1 x2 x3 x4=qId (qQ2 f) x0 x1 x2 x3 x4:=by kernel_rfl
theorem qaR:∀ f,qQ2 f=qF3 f
 | 0=>rfl
 | f+1=>by funext x0 x1 x2 x3 x4;rw[qod,qaR f];rfl
theorem qog:qg Tryz.prog qMV 0 (qG Tryz.f116 3):=
 qi mixed qaP (qQ.of (l':=[]) (by kernel_rfl) trivial) (q:=3) (kin:=[5,7,8]) (kout:=[6]) (by kernel_rfl) (by kernel_rfl) fun vs objs K r h=>by
  replace h:qQ3 vs objs K=some r:=h
  unfold qQ3 at h
  split at h
  ·skip
   obtain⟨t,h1,h2⟩:=qE h
   rw[<- qaR] at h1
   refine⟨_,qQ1,t,qB,h1,fun e vs' objs' hd=>?_⟩
   unfold qQ1 at hd
   split at hd
   ·skip
    cases hd
    exact h2
   ·skip
    cases hd
    exact h2
   ·cases hd
  ·cases h
def qaQ:V->List Obj->Option (Bool):=fun v objs=>match v,objs with
 | .s (.b y0),[]=>some (y0)
 | _,_=>none
theorem qoc (x0 x1:Int) (x2:List Bool):fnE qMV Tryz.f116 ([.s (.i .i64 x0),.s (.i .i64 x1),.agg [Seg.barr 81 x2]]) ([]) qaQ=qAt x0 x1 x2:=by kernel_rfl
def qaO:HA:=fun o vs objs K=>match vs,objs with
 | [.s (.i .i64 x0),.s (.i .i64 x1),.agg [Seg.barr 81 x2]],[]=>ob (qAt x0 x1 x2) fun y0=>K false (.s (.b y0)) ([])
 | _,_=>o 116 vs objs K
def qaS (o:Orc):Orc:=qN 116 (qaO o) o
theorem qof:OQ Tryz.prog qaS:=fun _ ho=>qO ho fun vs objs K r h=>by
 unfold qaO at h
 split at h
 ·skip
  obtain⟨t,h1,h2⟩:=qE h
  refine qAR mixed qaP (fn:=Tryz.f116) (b:=(Tryz.f116).body.getD .skip) (by kernel_rfl) (by kernel_rfl) (by kernel_rfl) ((qoc _ _ _).trans h1) (m:=0) rfl (qQ.of (l':=[qG Tryz.f116 3]) (by kernel_rfl) ⟨qog,trivial⟩) fun v objs' hd=>?_
  unfold qaQ at hd;split at hd;(cases hd;exact h2);cases hd
 ·exact ho _ _ _ _ _ h
def qaY:Ctx:=mkC 63 ((qaS (qD3 (qEn (qQ4 (qaE qK)))))) [] qW
theorem qok:CtxOK Tryz.prog qaY:=mkC_ok ((qof _ (qEm _ (qF0 _ (qaW _ (qoT _ qM))))))
def qaZ:V->List Obj->Option (Bool):=fun v objs=>match v,objs with
 | .s (.b y0),[]=>some (y0)
 | _,_=>none
theorem qoj (x0 x1 x2:Int) (x3:List Bool):fnE qaY Tryz.f102 ([.s (.i .i64 x0),.s (.i .i64 x1),.s (.i .i64 x2),.agg [Seg.barr 81 x3]]) ([]) qaZ=qF4 x0 x1 x2 x3:=by kernel_rfl
def qaX:HA:=fun o vs objs K=>match vs,objs with
 | [.s (.i .i64 x0),.s (.i .i64 x1),.s (.i .i64 x2),.agg [Seg.barr 81 x3]],[]=>ob (qF4 x0 x1 x2 x3) fun y0=>K false (.s (.b y0)) ([])
 | _,_=>o 102 vs objs K
def qMW (o:Orc):Orc:=qN 102 (qaX o) o
theorem qQ5:OQ Tryz.prog qMW:=fun _ ho=>qO ho fun vs objs K r h=>by
 unfold qaX at h
 split at h
 ·skip
  obtain⟨t,h1,h2⟩:=qE h
  refine qa mixed qok ((qoj _ _ _ _).trans h1) (by kernel_rfl) fun v objs' hd=>?_
  unfold qaZ at hd;split at hd;(cases hd;exact h2);cases hd
 ·exact ho _ _ _ _ _ h
def qao:Ctx:=mkC 44 (qK) [] qW
theorem qoy:CtxOK Tryz.prog qao:=mkC_ok (qM)
def qap:V->List Obj->Option (Int):=fun v objs=>match v,objs with
 | .s (.i .i64 y0),[]=>some (y0)
 | _,_=>none
theorem qox (x0 x1 x2:Int) (x3:Bool):fnE qao Tryz.f126 ([.agg [.one [.i .i64 x0,.i .i64 x1,.i .i64 x2,.b x3]]]) ([]) qap=qKI x0 x1 x2 x3:=by kernel_rfl
def qan:HA:=fun o vs objs K=>match vs,objs with
 | [.agg [.one [.i .i64 x0,.i .i64 x1,.i .i64 x2,.b x3]]],[]=>ob (qKI x0 x1 x2 x3) fun y0=>K false (.s (.i .i64 y0)) ([])
 | _,_=>o 126 vs objs K
def qaq (o:Orc):Orc:=qN 126 (qan o) o
theorem qoz:OQ Tryz.prog qaq:=fun _ ho=>qO ho fun vs objs K r h=>by
 unfold qan at h
 split at h
 ·skip
  obtain⟨t,h1,h2⟩:=qE h
  refine qa mixed qoy ((qox _ _ _ _).trans h1) (by kernel_rfl) fun v objs' hd=>?_
  unfold qap at hd;split at hd;(cases hd;exact h2);cases hd
 ·exact ho _ _ _ _ _ h
def qZ1:Ctx:=mkC 15 (qK) [] qW
theorem qoM:CtxOK Tryz.prog qZ1:=mkC_ok (qM)
def qZ2:V->List Obj->Option (Int):=fun v objs=>match v,objs with
 | .s (.i .i64 y0),[]=>some (y0)
 | _,_=>none
theorem qoL (x0:Int):fnE qZ1 Tryz.f127 ([.s (.i .i64 x0)]) ([]) qZ2=qEo x0:=by kernel_rfl
def qZ0:HA:=fun o vs objs K=>match vs,objs with
 | [.s (.i .i64 x0)],[]=>ob (qEo x0) fun y0=>K false (.s (.i .i64 y0)) ([])
 | _,_=>o 127 vs objs K
def qMT (o:Orc):Orc:=qN 127 (qZ0 o) o
theorem qQv:OQ Tryz.prog qMT:=fun _ ho=>qO ho fun vs objs K r h=>by
 unfold qZ0 at h
 split at h
 ·skip
  obtain⟨t,h1,h2⟩:=qE h
  refine qa mixed qoM ((qoL _).trans h1) (by kernel_rfl) fun v objs' hd=>?_
  unfold qZ2 at hd;split at hd;(cases hd;exact h2);cases hd
 ·exact ho _ _ _ _ _ h
def qa5:Ctx:=mkC 75 ((qMT (qD3 (qEn (qaq qK))))) [] qW
theorem qpC:CtxOK Tryz.prog qa5:=mkC_ok ((qQv _ (qEm _ (qF0 _ (qoz _ qM)))))
def qa6:V->List Obj->Option (Bool):=fun v objs=>match v,objs with
 | .s (.b y0),[]=>some (y0)
 | _,_=>none
theorem qpB (x0 x1:LI) (x2 x3:Int) (x4 x5:Int) (x6:Bool):fnE qa5 Tryz.f117 ([.agg [.arr .i8 81 x0,.arr .i8 16 x1,.one [.i .i8 x2]],.agg [.one [.i .i64 x3,.i .i64 x4,.i .i64 x5,.b x6]]]) ([]) qa6=qKK x0 x1 x2 x3 x4 x5 x6:=by kernel_rfl
def qa4:HA:=fun o vs objs K=>match vs,objs with
 | [.agg [.arr .i8 81 x0,.arr .i8 16 x1,.one [.i .i8 x2]],.agg [.one [.i .i64 x3,.i .i64 x4,.i .i64 x5,.b x6]]],[]=>ob (qKK x0 x1 x2 x3 x4 x5 x6) fun y0=>K false (.s (.b y0)) ([])
 | _,_=>o 117 vs objs K
def qa7 (o:Orc):Orc:=qN 117 (qa4 o) o
theorem qpD:OQ Tryz.prog qa7:=fun _ ho=>qO ho fun vs objs K r h=>by
 unfold qa4 at h
 split at h
 ·skip
  obtain⟨t,h1,h2⟩:=qE h
  refine qa mixed qpC ((qpB _ _ _ _ _ _ _).trans h1) (by kernel_rfl) fun v objs' hd=>?_
  unfold qa6 at hd;split at hd;(cases hd;exact h2);cases hd
 ·exact ho _ _ _ _ _ h
def qZ8:Ctx:=mkC 26 (qK) [] qW
theorem qoQ:CtxOK Tryz.prog qZ8:=mkC_ok (qM)
def qZ9:V->List Obj->Option (Int):=fun v objs=>match v,objs with
 | .s (.i .i64 y0),[]=>some (y0)
 | _,_=>none
theorem qoP (x0 x1:Int):fnE qZ8 Tryz.f128 ([.s (.i .i64 x0),.s (.i .i64 x1)]) ([]) qZ9=qDT x0 x1:=by kernel_rfl
def qZ7:HA:=fun o vs objs K=>match vs,objs with
 | [.s (.i .i64 x0),.s (.i .i64 x1)],[]=>ob (qDT x0 x1) fun y0=>K false (.s (.i .i64 y0)) ([])
 | _,_=>o 128 vs objs K
def qQx (o:Orc):Orc:=qN 128 (qZ7 o) o
theorem qaA:OQ Tryz.prog qQx:=fun _ ho=>qO ho fun vs objs K r h=>by
 unfold qZ7 at h
 split at h
 ·skip
  obtain⟨t,h1,h2⟩:=qE h
  refine qa mixed qoQ ((qoP _ _).trans h1) (by kernel_rfl) fun v objs' hd=>?_
  unfold qZ9 at hd;split at hd;(cases hd;exact h2);cases hd
 ·exact ho _ _ _ _ _ h
def qZ4:Ctx:=mkC 35 ((qD3 (qQx (qEn qK)))) [] qW
theorem qoO:CtxOK Tryz.prog qZ4:=mkC_ok ((qEm _ (qaA _ (qF0 _ qM))))
def qZ5:V->List Obj->Option (Bool):=fun v objs=>match v,objs with
 | .s (.b y0),[]=>some (y0)
 | _,_=>none
theorem qoN (x0 x1:Int):fnE qZ4 Tryz.f118 ([.s (.i .i64 x0),.s (.i .i64 x1)]) ([]) qZ5=qDS x0 x1:=by kernel_rfl
def qZ3:HA:=fun o vs objs K=>match vs,objs with
 | [.s (.i .i64 x0),.s (.i .i64 x1)],[]=>ob (qDS x0 x1) fun y0=>K false (.s (.b y0)) ([])
 | _,_=>o 118 vs objs K
def qQw (o:Orc):Orc:=qN 118 (qZ3 o) o
theorem qZ6:OQ Tryz.prog qQw:=fun _ ho=>qO ho fun vs objs K r h=>by
 unfold qZ3 at h
 split at h
 ·skip
  obtain⟨t,h1,h2⟩:=qE h
  refine qa mixed qoO ((qoN _ _).trans h1) (by kernel_rfl) fun v objs' hd=>?_
  unfold qZ5 at hd;split at hd;(cases hd;exact h2);cases hd
 ·exact ho _ _ _ _ _ h
def qQ7:Ex->List V->List Obj->Option (Int):=fun e vs objs=>match e,vs,objs with
 | .exit 0,[.s (.i .i64 y0)],[]=>some (y0)
 | _,_,_=>none
def qQ9:HL:=fun vs objs K=>match vs,objs with
 | [.s (.i .i64 x0),.s (.i .i64 x1),.s (.ptr 0 0 none 0),.s (.i .i64 x2),.s (.i .i64 x3)],[.cells 28 [.arr .i8 81 x4,.arr .i8 16 x5,.one [.i .i8 x6]]]=>ob (qCl qB x0 x1 x2 x3 x4 x5 x6) fun y0=>K (.exit 0) ([.s (.i .i64 y0)]) ([])
 | _,_=>none
def qoq:{R:Type}->Nat->List V->List Obj->(Ex->List V->List Obj->Option R)->Option R:=fun q vs objs K=>bif Nat.beq q 3 then qQ9 vs objs K else none
def qMX:Ctx:=mkC 26 (qK) [(3,[1,2,3,7,8],[7])] qoq
theorem qaf:CtxOK Tryz.prog qMX:=mkC_ok (qM)
def qQ8 (f:Nat) (x0 x1:Int) (x2 x3:Int) (x4 x5:LI) (x6:Int):Option (Int):=qh qMX 0 [1,2,3,7,8] [7] (qG Tryz.f119 3) f ([.s (.i .i64 x0),.s (.i .i64 x1),.s (.ptr 0 0 none 0),.s (.i .i64 x2),.s (.i .i64 x3)]) ([.cells 28 [.arr .i8 81 x4,.arr .i8 16 x5,.one [.i .i8 x6]]]) qQ7
theorem qop (f:Nat) (x0 x1:Int) (x2 x3:Int) (x4 x5:LI) (x6:Int):qQ8 (f+1) x0 x1 x2 x3 x4 x5 x6=qD5 (qQ8 f) x0 x1 x2 x3 x4 x5 x6:=by kernel_rfl
theorem qah:∀ f,qQ8 f=qCl f
 | 0=>rfl
 | f+1=>by funext x0 x1 x2 x3 x4 x5 x6;rw[qop,qah f];rfl
theorem qos:qg Tryz.prog qMX 0 (qG Tryz.f119 3):=
 qi mixed qaf (qQ.of (l':=[]) (by kernel_rfl) trivial) (q:=3) (kin:=[1,2,3,7,8]) (kout:=[7]) (by kernel_rfl) (by kernel_rfl) fun vs objs K r h=>by
  replace h:qQ9 vs objs K=some r:=h
  unfold qQ9 at h
  split at h
  ·skip
   obtain⟨t,h1,h2⟩:=qE h
   rw[<- qah] at h1
   refine⟨_,qQ7,t,qB,h1,fun e vs' objs' hd=>?_⟩
   unfold qQ7 at hd;split at hd;(cases hd;exact h2);cases hd
  ·cases h
def qag:V->List Obj->Option (Int):=fun v objs=>match v,objs with
 | .s (.i .i64 y0),[]=>some (y0)
 | _,_=>none
theorem qoo (x0 x1:LI) (x2 x3 x4:Int):fnE qMX Tryz.f119 ([.agg [.arr .i8 81 x0,.arr .i8 16 x1,.one [.i .i8 x2]],.s (.i .i64 x3),.s (.i .i64 x4)]) ([]) qag=qD4 x0 x1 x2 x3 x4:=by kernel_rfl
def qae:HA:=fun o vs objs K=>match vs,objs with
 | [.agg [.arr .i8 81 x0,.arr .i8 16 x1,.one [.i .i8 x2]],.s (.i .i64 x3),.s (.i .i64 x4)],[]=>ob (qD4 x0 x1 x2 x3 x4) fun y0=>K false (.s (.i .i64 y0)) ([])
 | _,_=>o 119 vs objs K
def qai (o:Orc):Orc:=qN 119 (qae o) o
theorem qor:OQ Tryz.prog qai:=fun _ ho=>qO ho fun vs objs K r h=>by
 unfold qae at h
 split at h
 ·skip
  obtain⟨t,h1,h2⟩:=qE h
  refine qAR mixed qaf (fn:=Tryz.f119) (b:=(Tryz.f119).body.getD .skip) (by kernel_rfl) (by kernel_rfl) (by kernel_rfl) ((qoo _ _ _ _ _).trans h1) (m:=0) rfl (qQ.of (l':=[qG Tryz.f119 3]) (by kernel_rfl) ⟨qos,trivial⟩) fun v objs' hd=>?_
  unfold qag at hd;split at hd;(cases hd;exact h2);cases hd
 ·exact ho _ _ _ _ _ h
def qbG:Ctx:=mkC 35 ((qQx (qEn (qMT (qD3 qK))))) [] qW
theorem qpP:CtxOK Tryz.prog qbG:=mkC_ok ((qaA _ (qF0 _ (qQv _ (qEm _ qM)))))
def qbH:V->List Obj->Option (Bool):=fun v objs=>match v,objs with
 | .s (.b y0),[]=>some (y0)
 | _,_=>none
theorem qpO (x0 x1 x2:Int):fnE qbG Tryz.f120 ([.s (.i .i64 x0),.s (.i .i64 x1),.s (.i .i64 x2)]) ([]) qbH=qKM x0 x1 x2:=by kernel_rfl
def qbF:HA:=fun o vs objs K=>match vs,objs with
 | [.s (.i .i64 x0),.s (.i .i64 x1),.s (.i .i64 x2)],[]=>ob (qKM x0 x1 x2) fun y0=>K false (.s (.b y0)) ([])
 | _,_=>o 120 vs objs K
def qbI (o:Orc):Orc:=qN 120 (qbF o) o
theorem qpQ:OQ Tryz.prog qbI:=fun _ ho=>qO ho fun vs objs K r h=>by
 unfold qbF at h
 split at h
 ·skip
  obtain⟨t,h1,h2⟩:=qE h
  refine qa mixed qpP ((qpO _ _ _).trans h1) (by kernel_rfl) fun v objs' hd=>?_
  unfold qbH at hd;split at hd;(cases hd;exact h2);cases hd
 ·exact ho _ _ _ _ _ h
def qbO:Ctx:=mkC 14 ((qQw (qMT (qD3 qK)))) [] qW
theorem qpV:CtxOK Tryz.prog qbO:=mkC_ok ((qZ6 _ (qQv _ (qEm _ qM))))
def qbP:V->List Obj->Option (Bool):=fun v objs=>match v,objs with
 | .s (.b y0),[]=>some (y0)
 | _,_=>none
theorem qpU (x0 x1:Int):fnE qbO Tryz.f121 ([.s (.i .i64 x0),.s (.i .i64 x1)]) ([]) qbP=qKN x0 x1:=by kernel_rfl
def qbN:HA:=fun o vs objs K=>match vs,objs with
 | [.s (.i .i64 x0),.s (.i .i64 x1)],[]=>ob (qKN x0 x1) fun y0=>K false (.s (.b y0)) ([])
 | _,_=>o 121 vs objs K
def qbQ (o:Orc):Orc:=qN 121 (qbN o) o
theorem qpW:OQ Tryz.prog qbQ:=fun _ ho=>qO ho fun vs objs K r h=>by
 unfold qbN at h
 split at h
 ·skip
  obtain⟨t,h1,h2⟩:=qE h
  refine qa mixed qpV ((qpU _ _).trans h1) (by kernel_rfl) fun v objs' hd=>?_
  unfold qbP at hd;split at hd;(cases hd;exact h2);cases hd
 ·exact ho _ _ _ _ _ h
def qbK:Ctx:=mkC 70 ((qbQ (qbI (qMW (qMZ (qai (qQw (qa7 qK)))))))) [] qW
theorem qpS:CtxOK Tryz.prog qbK:=mkC_ok ((qpW _ (qpQ _ (qQ5 _ (qRC _ (qor _ (qZ6 _ (qpD _ qM))))))))
def qbL:V->List Obj->Option (Bool):=fun v objs=>match v,objs with
 | .s (.b y0),[]=>some (y0)
 | _,_=>none
theorem qpR (x0 x1:LI) (x2 x3:Int) (x4 x5:Int) (x6:Bool):fnE qbK Tryz.f103 ([.agg [.arr .i8 81 x0,.arr .i8 16 x1,.one [.i .i8 x2]],.agg [.one [.i .i64 x3,.i .i64 x4,.i .i64 x5,.b x6]]]) ([]) qbL=qGA x0 x1 x2 x3 x4 x5 x6:=by kernel_rfl
def qbJ:HA:=fun o vs objs K=>match vs,objs with
 | [.agg [.arr .i8 81 x0,.arr .i8 16 x1,.one [.i .i8 x2]],.agg [.one [.i .i64 x3,.i .i64 x4,.i .i64 x5,.b x6]]],[]=>ob (qGA x0 x1 x2 x3 x4 x5 x6) fun y0=>K false (.s (.b y0)) ([])
 | _,_=>o 103 vs objs K
def qbM (o:Orc):Orc:=qN 103 (qbJ o) o
theorem qpT:OQ Tryz.prog qbM:=fun _ ho=>qO ho fun vs objs K r h=>by
 unfold qbJ at h
 split at h
 ·skip
  obtain⟨t,h1,h2⟩:=qE h
  refine qa mixed qpS ((qpR _ _ _ _ _ _ _).trans h1) (by kernel_rfl) fun v objs' hd=>?_
  unfold qbL at hd;split at hd;(cases hd;exact h2);cases hd
 ·exact ho _ _ _ _ _ h
def qRM:Ex->List V->List Obj->Option (Nat×Int×LI×LI×Int×Nat×LL×List Bool):=fun e vs objs=>match e,vs,objs with
 | .exit 2,[.s (.ptr 0 0 none 0),.s (.sl 1 0 y0 true),.s (.ptr 2 0 none 0),.s (.i .i64 y1)],[.cells 28 [.arr .i8 81 y2,.arr .i8 16 y3,.one [.i .i8 y4]],.sli 51 false (.rows [.i .i64,.i .i64,.i .i64,.b] y5 y6),.cells 138 [Seg.barr 81 y7]]=>some (y0,y1,y2,y3,y4,y5,y6,y7)
 | _,_,_=>none
def qRS:Ex->List V->List Obj->Option (Nat×LI×LI×Int×Nat×LL):=fun e vs objs=>match e,vs,objs with
 | .exit 0,[.s (.ptr 0 0 none 0),.s (.sl 1 0 y0 true)],[.cells 28 [.arr .i8 81 y1,.arr .i8 16 y2,.one [.i .i8 y3]],.sli 51 false (.rows [.i .i64,.i .i64,.i .i64,.b] y4 y5)]=>some (y0,y1,y2,y3,y4,y5)
 | _,_,_=>none
def qRQ:Ex->List V->List Obj->Option (Nat×Int×LI×LI×Int×Nat×LL):=fun e vs objs=>match e,vs,objs with
 | .exit 6,[.s (.ptr 0 0 none 0),.s (.sl 1 0 y0 true),.s (.i .i64 y1)],[.cells 28 [.arr .i8 81 y2,.arr .i8 16 y3,.one [.i .i8 y4]],.sli 51 false (.rows [.i .i64,.i .i64,.i .i64,.b] y5 y6)]=>some (y0,y1,y2,y3,y4,y5,y6)
 | _,_,_=>none
def qRO:Ex->List V->List Obj->Option (Nat×Nat×LL):=fun e vs objs=>match e,vs,objs with
 | .exit 4,[.s (.sl 0 0 y0 true)],[.sli 51 false (.rows [.i .i64,.i .i64,.i .i64,.b] y1 y2)]=>some (y0,y1,y2)
 | _,_,_=>none
def qRV:HL:=fun vs objs K=>match vs,objs with
 | [.s (.ptr 0 0 none 0),.s (.sl 1 0 x0 true),.s (.ptr 2 0 none 0),.s (.i .i64 x1),.s (.i .i64 x2)],[.cells 28 [.arr .i8 81 x3,.arr .i8 16 x4,.one [.i .i8 x5]],.sli 51 false (.rows [.i .i64,.i .i64,.i .i64,.b] x6 x7),.cells 138 [Seg.barr 81 x8]]=>ob (qF8 qB x0 x1 x2 x3 x4 x5 x6 x7 x8) fun z=>K (.exit 2) ([.s (.ptr 0 0 none 0),.s (.sl 1 0 (z.1) true),.s (.ptr 2 0 none 0),.s (.i .i64 (z.2.1))]) ([.cells 28 [.arr .i8 81 (z.2.2.1),.arr .i8 16 (z.2.2.2.1),.one [.i .i8 (z.2.2.2.2.1)]],.sli 51 false (.rows [.i .i64,.i .i64,.i .i64,.b] (z.2.2.2.2.2.1) (z.2.2.2.2.2.2.1)),.cells 138 [Seg.barr 81 (z.2.2.2.2.2.2.2)]])
 | _,_=>none
def qRY:HL:=fun vs objs K=>match vs,objs with
 | [.s (.ptr 0 0 none 0),.s (.sl 1 0 x0 true),.s (.ptr 2 0 none 0),.s (.i .i64 x1)],[.cells 28 [.arr .i8 81 x2,.arr .i8 16 x3,.one [.i .i8 x4]],.sli 51 false (.rows [.i .i64,.i .i64,.i .i64,.b] x5 x6),.cells 138 [Seg.barr 81 x7]]=>ob (qD8 qB x0 x1 x2 x3 x4 x5 x6 x7) fun z=>K (.exit 0) ([.s (.ptr 0 0 none 0),.s (.sl 1 0 (z.1) true)]) ([.cells 28 [.arr .i8 81 (z.2.1),.arr .i8 16 (z.2.2.1),.one [.i .i8 (z.2.2.2.1)]],.sli 51 false (.rows [.i .i64,.i .i64,.i .i64,.b] (z.2.2.2.2.1) (z.2.2.2.2.2))])
 | _,_=>none
def qRX:HL:=fun vs objs K=>match vs,objs with
 | [.s (.ptr 0 0 none 0),.s (.sl 1 0 x0 true),.s (.i .i64 x1),.s (.i .i64 x2)],[.cells 28 [.arr .i8 81 x3,.arr .i8 16 x4,.one [.i .i8 x5]],.sli 51 false (.rows [.i .i64,.i .i64,.i .i64,.b] x6 x7)]=>ob (qF9 qB x0 x1 x2 x3 x4 x5 x6 x7) fun z=>K (.exit 6) ([.s (.ptr 0 0 none 0),.s (.sl 1 0 (z.1) true),.s (.i .i64 (z.2.1))]) ([.cells 28 [.arr .i8 81 (z.2.2.1),.arr .i8 16 (z.2.2.2.1),.one [.i .i8 (z.2.2.2.2.1)]],.sli 51 false (.rows [.i .i64,.i .i64,.i .i64,.b] (z.2.2.2.2.2.1) (z.2.2.2.2.2.2))])
 | _,_=>none
def qRW:HL:=fun vs objs K=>match vs,objs with
 | [.s (.ptr 0 0 none 0),.s (.sl 1 0 x0 true),.s (.i .i64 x1)],[.cells 28 [.arr .i8 81 x2,.arr .i8 16 x3,.one [.i .i8 x4]],.sli 51 false (.rows [.i .i64,.i .i64,.i .i64,.b] x5 x6)]=>ob (qD7 qB x0 x1 x2 x3 x4 x5 x6) fun z=>K (.exit 4) ([.s (.sl 0 0 (z.1) true)]) ([.sli 51 false (.rows [.i .i64,.i .i64,.i .i64,.b] (z.2.1) (z.2.2))])
 | _,_=>none
def qpJ:{R:Type}->Nat->List V->List Obj->(Ex->List V->List Obj->Option R)->Option R:=fun q vs objs K=>bif Nat.beq q 10 then qRV vs objs K else bif Nat.beq q 6 then qRY vs objs K else bif Nat.beq q 23 then qRX vs objs K else bif Nat.beq q 20 then qRW vs objs K else none
def qD6:Ctx:=mkC 98 ((qbM (qMW (qEn (qMZ qK))))) [(6,[1,3,4,5],[1,3]),(10,[1,3,4,5,6],[1,3,4,5]),(20,[1,3,8],[3]),(23,[1,3,8,9],[1,3,8])] qpJ
theorem qKL:CtxOK Tryz.prog qD6:=mkC_ok ((qpT _ (qQ5 _ (qF0 _ (qRC _ qM)))))
def qRN (f:Nat) (x0:Nat) (x1 x2:Int) (x3 x4:LI) (x5:Int) (x6:Nat) (x7:LL) (x8:List Bool):Option (Nat×Int×LI×LI×Int×Nat×LL×List Bool):=qh qD6 0 [1,3,4,5,6] [1,3,4,5] (qG Tryz.f74 10) f ([.s (.ptr 0 0 none 0),.s (.sl 1 0 x0 true),.s (.ptr 2 0 none 0),.s (.i .i64 x1),.s (.i .i64 x2)]) ([.cells 28 [.arr .i8 81 x3,.arr .i8 16 x4,.one [.i .i8 x5]],.sli 51 false (.rows [.i .i64,.i .i64,.i .i64,.b] x6 x7),.cells 138 [Seg.barr 81 x8]]) qRM
theorem qpF (f:Nat) (x0:Nat) (x1 x2:Int) (x3 x4:LI) (x5:Int) (x6:Nat) (x7:LL) (x8:List Bool):qRN (f+1) x0 x1 x2 x3 x4 x5 x6 x7 x8=qIm (qRN f) x0 x1 x2 x3 x4 x5 x6 x7 x8:=by kernel_rfl
theorem qbA:∀ f,qRN f=qF8 f
 | 0=>rfl
 | f+1=>by funext x0 x1 x2 x3 x4 x5 x6 x7 x8;rw[qpF,qbA f];rfl
def qRT (f:Nat) (x0:Nat) (x1:Int) (x2 x3:LI) (x4:Int) (x5:Nat) (x6:LL) (x7:List Bool):Option (Nat×LI×LI×Int×Nat×LL):=qh qD6 0 [1,3,4,5] [1,3] (qG Tryz.f74 6) f ([.s (.ptr 0 0 none 0),.s (.sl 1 0 x0 true),.s (.ptr 2 0 none 0),.s (.i .i64 x1)]) ([.cells 28 [.arr .i8 81 x2,.arr .i8 16 x3,.one [.i .i8 x4]],.sli 51 false (.rows [.i .i64,.i .i64,.i .i64,.b] x5 x6),.cells 138 [Seg.barr 81 x7]]) qRS
theorem qpI (f:Nat) (x0:Nat) (x1:Int) (x2 x3:LI) (x4:Int) (x5:Nat) (x6:LL) (x7:List Bool):qRT (f+1) x0 x1 x2 x3 x4 x5 x6 x7=qIp (qRT f) x0 x1 x2 x3 x4 x5 x6 x7:=by kernel_rfl
theorem qbD:∀ f,qRT f=qD8 f
 | 0=>rfl
 | f+1=>by funext x0 x1 x2 x3 x4 x5 x6 x7;rw[qpI,qbD f];rfl
def qRR (f:Nat) (x0:Nat) (x1 x2:Int) (x3 x4:LI) (x5:Int) (x6:Nat) (x7:LL):Option (Nat×Int×LI×LI×Int×Nat×LL):=qh qD6 0 [1,3,8,9] [1,3,8] (qG Tryz.f74 23) f ([.s (.ptr 0 0 none 0),.s (.sl 1 0 x0 true),.s (.i .i64 x1),.s (.i .i64 x2)]) ([.cells 28 [.arr .i8 81 x3,.arr .i8 16 x4,.one [.i .i8 x5]],.sli 51 false (.rows [.i .i64,.i .i64,.i .i64,.b] x6 x7)]) qRQ
theorem qpH (f:Nat) (x0:Nat) (x1 x2:Int) (x3 x4:LI) (x5:Int) (x6:Nat) (x7:LL):qRR (f+1) x0 x1 x2 x3 x4 x5 x6 x7=qIo (qRR f) x0 x1 x2 x3 x4 x5 x6 x7:=by kernel_rfl
theorem qbC:∀ f,qRR f=qF9 f
 | 0=>rfl
 | f+1=>by funext x0 x1 x2 x3 x4 x5 x6 x7;rw[qpH,qbC f];rfl
def qRP (f:Nat) (x0:Nat) (x1:Int) (x2 x3:LI) (x4:Int) (x5:Nat) (x6:LL):Option (Nat×Nat×LL):=qh qD6 0 [1,3,8] [3] (qG Tryz.f74 20) f ([.s (.ptr 0 0 none 0),.s (.sl 1 0 x0 true),.s (.i .i64 x1)]) ([.cells 28 [.arr .i8 81 x2,.arr .i8 16 x3,.one [.i .i8 x4]],.sli 51 false (.rows [.i .i64,.i .i64,.i .i64,.b] x5 x6)]) qRO
theorem qpG (f:Nat) (x0:Nat) (x1:Int) (x2 x3:LI) (x4:Int) (x5:Nat) (x6:LL):qRP (f+1) x0 x1 x2 x3 x4 x5 x6=qIn (qRP f) x0 x1 x2 x3 x4 x5 x6:=by kernel_rfl
theorem qbB:∀ f,qRP f=qD7 f
 | 0=>rfl
 | f+1=>by funext x0 x1 x2 x3 x4 x5 x6;rw[qpG,qbB f];rfl
theorem qpK:qg Tryz.prog qD6 0 (qG Tryz.f74 10):=
 qi mixed qKL (qQ.of (l':=[]) (by kernel_rfl) trivial) (q:=10) (kin:=[1,3,4,5,6]) (kout:=[1,3,4,5]) (by kernel_rfl) (by kernel_rfl) fun vs objs K r h=>by
  replace h:qRV vs objs K=some r:=h
  unfold qRV at h
  split at h
  ·skip
   obtain⟨t,h1,h2⟩:=qE h
   rw[<- qbA] at h1
   refine⟨_,qRM,t,qB,h1,fun e vs' objs' hd=>?_⟩
   unfold qRM at hd;split at hd;(cases hd;exact h2);cases hd
  ·cases h
theorem qpM:qg Tryz.prog qD6 0 (qG Tryz.f74 23):=
 qi mixed qKL (qQ.of (l':=[]) (by kernel_rfl) trivial) (q:=23) (kin:=[1,3,8,9]) (kout:=[1,3,8]) (by kernel_rfl) (by kernel_rfl) fun vs objs K r h=>by
  replace h:qRX vs objs K=some r:=h
  unfold qRX at h
  split at h
  ·skip
   obtain⟨t,h1,h2⟩:=qE h
   rw[<- qbC] at h1
   refine⟨_,qRQ,t,qB,h1,fun e vs' objs' hd=>?_⟩
   unfold qRQ at hd;split at hd;(cases hd;exact h2);cases hd
  ·cases h
theorem qpN:qg Tryz.prog qD6 0 (qG Tryz.f74 6):=
 qi mixed qKL (qQ.of (l':=[qG Tryz.f74 10]) (by kernel_rfl) ⟨qpK,trivial⟩) (q:=6) (kin:=[1,3,4,5]) (kout:=[1,3]) (by kernel_rfl) (by kernel_rfl) fun vs objs K r h=>by
  replace h:qRY vs objs K=some r:=h
  unfold qRY at h
  split at h
  ·skip
   obtain⟨t,h1,h2⟩:=qE h
   rw[<- qbD] at h1
   refine⟨_,qRS,t,qB,h1,fun e vs' objs' hd=>?_⟩
   unfold qRS at hd;split at hd;(cases hd;exact h2);cases hd
  ·cases h
theorem qpL:qg Tryz.prog qD6 0 (qG Tryz.f74 20):=
 qi mixed qKL (qQ.of (l':=[qG Tryz.f74 23]) (by kernel_rfl) ⟨qpM,trivial⟩) (q:=20) (kin:=[1,3,8]) (kout:=[3]) (by kernel_rfl) (by kernel_rfl) fun vs objs K r h=>by
  replace h:qRW vs objs K=some r:=h
  unfold qRW at h
  split at h
  ·skip
   obtain⟨t,h1,h2⟩:=qE h
   rw[<- qbB] at h1
   refine⟨_,qRO,t,qB,h1,fun e vs' objs' hd=>?_⟩
   unfold qRO at hd;split at hd;(cases hd;exact h2);cases hd
  ·cases h
def qa9:V->List Obj->Option (Nat×Nat×LL):=fun v objs=>match v,objs with
 | .s (.sl 0 0 y0 true),[.sli 51 false (.rows [.i .i64,.i .i64,.i .i64,.b] y1 y2)]=>some (y0,y1,y2)
 | _,_=>none
theorem qpE (x0 x1:LI) (x2:Int):fnE qD6 Tryz.f74 ([.agg [.arr .i8 81 x0,.arr .i8 16 x1,.one [.i .i8 x2]]]) ([]) qa9=qIl x0 x1 x2:=by kernel_rfl
def qa8:HA:=fun o vs objs K=>match vs,objs with
 | [.agg [.arr .i8 81 x0,.arr .i8 16 x1,.one [.i .i8 x2]]],[]=>ob (qIl x0 x1 x2) fun z=>K false (.s (.sl 0 0 (z.1) true)) ([.sli 51 false (.rows [.i .i64,.i .i64,.i .i64,.b] (z.2.1) (z.2.2))])
 | _,_=>o 74 vs objs K
def qRU (o:Orc):Orc:=qN 74 (qa8 o) o
theorem qbE:OQ Tryz.prog qRU:=fun _ ho=>qO ho fun vs objs K r h=>by
 unfold qa8 at h
 split at h
 ·skip
  obtain⟨t,h1,h2⟩:=qE h
  refine qAR mixed qKL (fn:=Tryz.f74) (b:=(Tryz.f74).body.getD .skip) (by kernel_rfl) (by kernel_rfl) (by kernel_rfl) ((qpE _ _ _).trans h1) (m:=0) rfl (qQ.of (l':=[qG Tryz.f74 6,qG Tryz.f74 20]) (by kernel_rfl) ⟨qpN,qpL,trivial⟩) fun v objs' hd=>?_
  unfold qa9 at hd;split at hd;(cases hd;exact h2);cases hd
 ·exact ho _ _ _ _ _ h
def qZu:Ctx:=mkC 18 (qK) [] qW
theorem qoH:CtxOK Tryz.prog qZu:=mkC_ok (qM)
def qZv:V->List Obj->Option (Int):=fun v objs=>match v,objs with
 | .s (.i .i64 y0),[]=>some (y0)
 | _,_=>none
theorem qoG (x0:Int):fnE qZu Tryz.f77 ([.s (.i .i64 x0)]) ([]) qZv=qIb x0:=by kernel_rfl
def qZt:HA:=fun o vs objs K=>match vs,objs with
 | [.s (.i .i64 x0)],[]=>ob (qIb x0) fun y0=>K false (.s (.i .i64 y0)) ([])
 | _,_=>o 77 vs objs K
def qZw (o:Orc):Orc:=qN 77 (qZt o) o
theorem qoI:OQ Tryz.prog qZw:=fun _ ho=>qO ho fun vs objs K r h=>by
 unfold qZt at h
 split at h
 ·skip
  obtain⟨t,h1,h2⟩:=qE h
  refine qa mixed qoH ((qoG _).trans h1) (by kernel_rfl) fun v objs' hd=>?_
  unfold qZv at hd;split at hd;(cases hd;exact h2);cases hd
 ·exact ho _ _ _ _ _ h
def qa2:Ctx:=mkC 82 ((qZw (qD3 qK))) [] qW
theorem qpA:CtxOK Tryz.prog qa2:=mkC_ok ((qoI _ (qEm _ qM)))
def qa3:V->List Obj->Option (LI×LI×Int):=fun v objs=>match v,objs with
 | .agg [.arr .i8 81 y0,.arr .i8 16 y1,.one [.i .i8 y2]],[]=>some (y0,y1,y2)
 | _,_=>none
theorem qo9 (x0 x1:LI) (x2 x3:Int) (x4 x5:Int) (x6:Bool):fnE qa2 Tryz.f36 ([.agg [.arr .i8 81 x0,.arr .i8 16 x1,.one [.i .i8 x2]],.agg [.one [.i .i64 x3,.i .i64 x4,.i .i64 x5,.b x6]]]) ([]) qa3=qF7 x0 x1 x2 x3 x4 x5 x6:=by kernel_rfl
def qa1:HA:=fun o vs objs K=>match vs,objs with
 | [.agg [.arr .i8 81 x0,.arr .i8 16 x1,.one [.i .i8 x2]],.agg [.one [.i .i64 x3,.i .i64 x4,.i .i64 x5,.b x6]]],[]=>ob (qF7 x0 x1 x2 x3 x4 x5 x6) fun z=>K false (.agg [.arr .i8 81 (z.1),.arr .i8 16 (z.2.1),.one [.i .i8 (z.2.2)]]) ([])
 | _,_=>o 36 vs objs K
def qMc (o:Orc):Orc:=qN 36 (qa1 o) o
theorem qRL:OQ Tryz.prog qMc:=fun _ ho=>qO ho fun vs objs K r h=>by
 unfold qa1 at h
 split at h
 ·skip
  obtain⟨t,h1,h2⟩:=qE h
  refine qa mixed qpA ((qo9 _ _ _ _ _ _ _).trans h1) (by kernel_rfl) fun v objs' hd=>?_
  unfold qa3 at hd;split at hd;(cases hd;exact h2);cases hd
 ·exact ho _ _ _ _ _ h
end
end Go.Kk.KkWP
