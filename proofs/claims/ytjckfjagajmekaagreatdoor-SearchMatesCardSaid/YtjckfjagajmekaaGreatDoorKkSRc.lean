/- Printed by a tool of this project (KkGen): the program's functions come to the plain ones. -/
import Derived.Test.YtjckfjagajmekaaGreatDoorKkSRb
namespace Go.Kk.KkSR
noncomputable section
open Go.Proofs Go.Kk.Pl
set_option maxRecDepth 100000
set_option maxHeartbeats 4000000
def qOM:Ex->List V->List Obj->Option (Nat×LI×LI×Int×LL×LL×Int×Int×Int×Int×Bool×Nat×LL×List (LI×LI)):=fun e vs objs=>match e,vs,objs with
 | .exit 0,[.s (.ptr 0 0 none 0),.s (.ptr 1 0 none 0),.s (.sl 2 0 y0 true)],[.cells 84 [.arr .i8 81 y1,.arr .i8 16 y2,.one [.i .i8 y3],.rows [.i .u64,.i .u64] 32 y4,.rows [.i .u64,.i .u64] 2 y5],.cells 75 [.one [.ptr 0 0 none 0,.i .i64 y6,.i .i64 y7,.i .u64 y8,.i .u64 y9,.mp 3,.b y10]],.sli 41 false (.rows [.i .i64,.i .i64,.i .i64,.b] y11 y12),.map false true [.i .i64] [.i .u64,.i .u64] y13]=>some (y0,y1,y2,y3,y4,y5,y6,y7,y8,y9,y10,y11,y12,y13)
 | _,_,_=>none
def qOK:Ex->List V->List Obj->Option (Nat×LI×LI×Int×LL×LL×Nat×LL):=fun e vs objs=>match e,vs,objs with
 | .exit 2,[.s (.sl 1 0 y0 true)],[.cells 84 [.arr .i8 81 y1,.arr .i8 16 y2,.one [.i .i8 y3],.rows [.i .u64,.i .u64] 32 y4,.rows [.i .u64,.i .u64] 2 y5],.sli 41 false (.rows [.i .i64,.i .i64,.i .i64,.b] y6 y7)]=>some (y0,y1,y2,y3,y4,y5,y6,y7)
 | _,_,_=>none
def qOP:HL:=fun vs objs K=>match vs,objs with
 | [.s (.ptr 0 0 none 0),.s (.ptr 1 0 none 0),.s (.sl 2 0 x0 true),.s (.sl 3 0 x1 true),.s (.i .i64 x2),.s (.i .i64 x3)],[.cells 84 [.arr .i8 81 x4,.arr .i8 16 x5,.one [.i .i8 x6],.rows [.i .u64,.i .u64] 32 x7,.rows [.i .u64,.i .u64] 2 x8],.cells 75 [.one [.ptr 0 0 none 0,.i .i64 x9,.i .i64 x10,.i .u64 x11,.i .u64 x12,.mp 4,.b x13]],.sli 41 false (.rows [.i .i64,.i .i64,.i .i64,.b] x14 x15),.sli 41 false (.rows [.i .i64,.i .i64,.i .i64,.b] x16 x17),.map false true [.i .i64] [.i .u64,.i .u64] x18]=>ob (qE7 qC x0 x1 x2 x3 x4 x5 x6 x7 x8 x9 x10 x11 x12 x13 x14 x15 x16 x17 x18) fun z=>K (.exit 0) ([.s (.ptr 0 0 none 0),.s (.ptr 1 0 none 0),.s (.sl 2 0 (z.1) true)]) ([.cells 84 [.arr .i8 81 (z.2.1),.arr .i8 16 (z.2.2.1),.one [.i .i8 (z.2.2.2.1)],.rows [.i .u64,.i .u64] 32 (z.2.2.2.2.1),.rows [.i .u64,.i .u64] 2 (z.2.2.2.2.2.1)],.cells 75 [.one [.ptr 0 0 none 0,.i .i64 (z.2.2.2.2.2.2.1),.i .i64 (z.2.2.2.2.2.2.2.1),.i .u64 (z.2.2.2.2.2.2.2.2.1),.i .u64 (z.2.2.2.2.2.2.2.2.2.1),.mp 3,.b (z.2.2.2.2.2.2.2.2.2.2.1)]],.sli 41 false (.rows [.i .i64,.i .i64,.i .i64,.b] (z.2.2.2.2.2.2.2.2.2.2.2.1) (z.2.2.2.2.2.2.2.2.2.2.2.2.1)),.map false true [.i .i64] [.i .u64,.i .u64] (z.2.2.2.2.2.2.2.2.2.2.2.2.2)])
 | _,_=>none
def qOO:HL:=fun vs objs K=>match vs,objs with
 | [.s (.ptr 0 0 none 0),.s (.sl 1 0 x0 true),.s (.sl 2 0 x1 true),.s (.i .i64 x2),.s (.i .i64 x3)],[.cells 84 [.arr .i8 81 x4,.arr .i8 16 x5,.one [.i .i8 x6],.rows [.i .u64,.i .u64] 32 x7,.rows [.i .u64,.i .u64] 2 x8],.sli 41 false (.rows [.i .i64,.i .i64,.i .i64,.b] x9 x10),.sli 41 false (.rows [.i .i64,.i .i64,.i .i64,.b] x11 x12)]=>ob (qEI qC x0 x1 x2 x3 x4 x5 x6 x7 x8 x9 x10 x11 x12) fun z=>K (.exit 2) ([.s (.sl 1 0 (z.1) true)]) ([.cells 84 [.arr .i8 81 (z.2.1),.arr .i8 16 (z.2.2.1),.one [.i .i8 (z.2.2.2.1)],.rows [.i .u64,.i .u64] 32 (z.2.2.2.2.1),.rows [.i .u64,.i .u64] 2 (z.2.2.2.2.2.1)],.sli 41 false (.rows [.i .i64,.i .i64,.i .i64,.b] (z.2.2.2.2.2.2.1) (z.2.2.2.2.2.2.2))])
 | _,_=>none
def qhU:{R:Type}->Nat->List V->List Obj->(Ex->List V->List Obj->Option R)->Option R:=fun q vs objs K=>bif Nat.beq q 4 then qOP vs objs K else bif Nat.beq q 10 then qOO vs objs K else none
def qHH:Ctx:=mkC 51 ((qVp (qUf (qOV (qNc (qJP (qOU qO))))))) [(4,[0,3,4,13,14,15],[0,3,4]),(10,[0,4,30,31,32],[4])] qhU
theorem qOJ:CtxOK Tryz.prog qHH:=mkC_ok ((qha _ (qgA _ (qVx _ (qUa _ (qLi _ (qVt _ qP)))))))
def qON (f:Nat) (x0 x1:Nat) (x2 x3:Int) (x4 x5:LI) (x6:Int) (x7 x8:LL) (x9 x10:Int) (x11 x12:Int) (x13:Bool) (x14:Nat) (x15:LL) (x16:Nat) (x17:LL) (x18:List (LI×LI)):Option (Nat×LI×LI×Int×LL×LL×Int×Int×Int×Int×Bool×Nat×LL×List (LI×LI)):=qh qHH 1 [0,3,4,13,14,15] [0,3,4] (qI Tryz.f14 4) f ([.s (.ptr 0 0 none 0),.s (.ptr 1 0 none 0),.s (.sl 2 0 x0 true),.s (.sl 3 0 x1 true),.s (.i .i64 x2),.s (.i .i64 x3)]) ([.cells 84 [.arr .i8 81 x4,.arr .i8 16 x5,.one [.i .i8 x6],.rows [.i .u64,.i .u64] 32 x7,.rows [.i .u64,.i .u64] 2 x8],.cells 75 [.one [.ptr 0 0 none 0,.i .i64 x9,.i .i64 x10,.i .u64 x11,.i .u64 x12,.mp 4,.b x13]],.sli 41 false (.rows [.i .i64,.i .i64,.i .i64,.b] x14 x15),.sli 41 false (.rows [.i .i64,.i .i64,.i .i64,.b] x16 x17),.map false true [.i .i64] [.i .u64,.i .u64] x18]) qOM
theorem qhT (f:Nat) (x0 x1:Nat) (x2 x3:Int) (x4 x5:LI) (x6:Int) (x7 x8:LL) (x9 x10:Int) (x11 x12:Int) (x13:Bool) (x14:Nat) (x15:LL) (x16:Nat) (x17:LL) (x18:List (LI×LI)):qON (f+1) x0 x1 x2 x3 x4 x5 x6 x7 x8 x9 x10 x11 x12 x13 x14 x15 x16 x17 x18=qHJ (qON f) x0 x1 x2 x3 x4 x5 x6 x7 x8 x9 x10 x11 x12 x13 x14 x15 x16 x17 x18:=by kernel_rfl
theorem qVk:∀ f,qON f=qE7 f
 | 0=>rfl
 | f+1=>by funext x0 x1 x2 x3 x4 x5 x6 x7 x8 x9 x10 x11 x12 x13 x14 x15 x16 x17 x18;rw[qhT,qVk f];rfl
def qOL (f:Nat) (x0 x1:Nat) (x2 x3:Int) (x4 x5:LI) (x6:Int) (x7 x8:LL) (x9:Nat) (x10:LL) (x11:Nat) (x12:LL):Option (Nat×LI×LI×Int×LL×LL×Nat×LL):=qh qHH 1 [0,4,30,31,32] [4] (qI Tryz.f14 10) f ([.s (.ptr 0 0 none 0),.s (.sl 1 0 x0 true),.s (.sl 2 0 x1 true),.s (.i .i64 x2),.s (.i .i64 x3)]) ([.cells 84 [.arr .i8 81 x4,.arr .i8 16 x5,.one [.i .i8 x6],.rows [.i .u64,.i .u64] 32 x7,.rows [.i .u64,.i .u64] 2 x8],.sli 41 false (.rows [.i .i64,.i .i64,.i .i64,.b] x9 x10),.sli 41 false (.rows [.i .i64,.i .i64,.i .i64,.b] x11 x12)]) qOK
theorem qhS (f:Nat) (x0 x1:Nat) (x2 x3:Int) (x4 x5:LI) (x6:Int) (x7 x8:LL) (x9:Nat) (x10:LL) (x11:Nat) (x12:LL):qOL (f+1) x0 x1 x2 x3 x4 x5 x6 x7 x8 x9 x10 x11 x12=qHI (qOL f) x0 x1 x2 x3 x4 x5 x6 x7 x8 x9 x10 x11 x12:=by kernel_rfl
theorem qVj:∀ f,qOL f=qEI f
 | 0=>rfl
 | f+1=>by funext x0 x1 x2 x3 x4 x5 x6 x7 x8 x9 x10 x11 x12;rw[qhS,qVj f];rfl
theorem qhW:qd Tryz.prog qHH 1 (qI Tryz.f14 4):=
 ql mixed qOJ (qT.of (l':=[]) (by kernel_rfl) trivial) (q:=4) (kin:=[0,3,4,13,14,15]) (kout:=[0,3,4]) (by kernel_rfl) (by kernel_rfl) fun vs objs K r h=>by
  replace h:qOP vs objs K=some r:=h
  unfold qOP at h
  split at h
  ·skip
   obtain⟨t,h1,h2⟩:=qG h
   rw[<- qVk] at h1
   refine⟨_,qOM,t,qC,h1,fun e vs' objs' hd=>?_⟩
   unfold qOM at hd;split at hd;(cases hd;exact h2);cases hd
  ·cases h
theorem qhV:qd Tryz.prog qHH 1 (qI Tryz.f14 10):=
 ql mixed qOJ (qT.of (l':=[]) (by kernel_rfl) trivial) (q:=10) (kin:=[0,4,30,31,32]) (kout:=[4]) (by kernel_rfl) (by kernel_rfl) fun vs objs K r h=>by
  replace h:qOO vs objs K=some r:=h
  unfold qOO at h
  split at h
  ·skip
   obtain⟨t,h1,h2⟩:=qG h
   rw[<- qVj] at h1
   refine⟨_,qOK,t,qC,h1,fun e vs' objs' hd=>?_⟩
   unfold qOK at hd;split at hd;(cases hd;exact h2);cases hd
  ·cases h
def qVi:V->List Obj->Option (Nat×LI×LI×Int×LL×LL×Nat×LL):=fun v objs=>match v,objs with
 | .s (.sl 1 0 y0 true),[.cells 84 [.arr .i8 81 y1,.arr .i8 16 y2,.one [.i .i8 y3],.rows [.i .u64,.i .u64] 32 y4,.rows [.i .u64,.i .u64] 2 y5],.sli 41 false (.rows [.i .i64,.i .i64,.i .i64,.b] y6 y7)]=>some (y0,y1,y2,y3,y4,y5,y6,y7)
 | _,_=>none
theorem qhR (x0 x1:LI) (x2:Int) (x3 x4:LL):fnE qHH Tryz.f14 ([.s (.ptr 0 0 none 0)]) ([.cells 84 [.arr .i8 81 x0,.arr .i8 16 x1,.one [.i .i8 x2],.rows [.i .u64,.i .u64] 32 x3,.rows [.i .u64,.i .u64] 2 x4]]) qVi=qBM x0 x1 x2 x3 x4:=by kernel_rfl
def qVh:HA:=fun o vs objs K=>match vs,objs with
 | [.s (.ptr 0 0 none 0)],[.cells 84 [.arr .i8 81 x0,.arr .i8 16 x1,.one [.i .i8 x2],.rows [.i .u64,.i .u64] 32 x3,.rows [.i .u64,.i .u64] 2 x4]]=>ob (qBM x0 x1 x2 x3 x4) fun z=>K false (.s (.sl 1 0 (z.1) true)) ([.cells 84 [.arr .i8 81 (z.2.1),.arr .i8 16 (z.2.2.1),.one [.i .i8 (z.2.2.2.1)],.rows [.i .u64,.i .u64] 32 (z.2.2.2.2.1),.rows [.i .u64,.i .u64] 2 (z.2.2.2.2.2.1)],.sli 41 false (.rows [.i .i64,.i .i64,.i .i64,.b] (z.2.2.2.2.2.2.1) (z.2.2.2.2.2.2.2))])
 | _,_=>o 14 vs objs K
def qHK (o:Orc):Orc:=qR 14 (qVh o) o
theorem qIs:OQ Tryz.prog qHK:=fun _ ho=>qS ho fun vs objs K r h=>by
 unfold qVh at h
 split at h
 ·skip
  obtain⟨t,h1,h2⟩:=qG h
  refine qAY mixed qOJ (fn:=Tryz.f14) (b:=(Tryz.f14).body.getD .skip) (by kernel_rfl) (by kernel_rfl) (by kernel_rfl) ((qhR _ _ _ _ _).trans h1) (m:=1) rfl (qT.of (l':=[qI Tryz.f14 4,qI Tryz.f14 10]) (by kernel_rfl) ⟨qhW,qhV,trivial⟩) fun v objs' hd=>?_
  unfold qVi at hd;split at hd;(cases hd;exact h2);cases hd
 ·exact ho _ _ _ _ _ h
def qcL:Ctx:=mkC 27 (qO) [] qW
theorem qpb:CtxOK Tryz.prog qcL:=mkC_ok (qP)
def qcM:V->List Obj->Option (Int):=fun v objs=>match v,objs with
 | .s (.i .i64 y0),[]=>some (y0)
 | _,_=>none
theorem qpa (x0:Int):fnE qcL Tryz.f96 ([.s (.i .i64 x0)]) ([]) qcM=qFb x0:=by kernel_rfl
def qcK:HA:=fun o vs objs K=>match vs,objs with
 | [.s (.i .i64 x0)],[]=>ob (qFb x0) fun y0=>K false (.s (.i .i64 y0)) ([])
 | _,_=>o 96 vs objs K
def qRq (o:Orc):Orc:=qR 96 (qcK o) o
theorem qcN:OQ Tryz.prog qRq:=fun _ ho=>qS ho fun vs objs K r h=>by
 unfold qcK at h
 split at h
 ·skip
  obtain⟨t,h1,h2⟩:=qG h
  refine qa mixed qpb ((qpa _).trans h1) (by kernel_rfl) fun v objs' hd=>?_
  unfold qcM at hd;split at hd;(cases hd;exact h2);cases hd
 ·exact ho _ _ _ _ _ h
def qcP:Ctx:=mkC 8 (qO) [] qW
theorem qpd:CtxOK Tryz.prog qcP:=mkC_ok (qP)
def qcQ:V->List Obj->Option (Int):=fun v objs=>match v,objs with
 | .s (.i .i64 y0),[]=>some (y0)
 | _,_=>none
theorem qpc (x0:Int):fnE qcP Tryz.f119 ([.s (.i .i64 x0)]) ([]) qcQ=qMF x0:=by kernel_rfl
def qcO:HA:=fun o vs objs K=>match vs,objs with
 | [.s (.i .i64 x0)],[]=>ob (qMF x0) fun y0=>K false (.s (.i .i64 y0)) ([])
 | _,_=>o 119 vs objs K
def qcR (o:Orc):Orc:=qR 119 (qcO o) o
theorem qpe:OQ Tryz.prog qcR:=fun _ ho=>qS ho fun vs objs K r h=>by
 unfold qcO at h
 split at h
 ·skip
  obtain⟨t,h1,h2⟩:=qG h
  refine qa mixed qpd ((qpc _).trans h1) (by kernel_rfl) fun v objs' hd=>?_
  unfold qcQ at hd;split at hd;(cases hd;exact h2);cases hd
 ·exact ho _ _ _ _ _ h
def qcT:Ctx:=mkC 20 ((qLq (qcR (qLk qO)))) [] qW
theorem qpg:CtxOK Tryz.prog qcT:=mkC_ok ((qQt _ (qpe _ (qQk _ qP))))
def qcU:V->List Obj->Option (Int):=fun v objs=>match v,objs with
 | .s (.i .i64 y0),[]=>some (y0)
 | _,_=>none
theorem qpf (x0:Int):fnE qcT Tryz.f97 ([.s (.i .i64 x0)]) ([]) qcU=qIH x0:=by kernel_rfl
def qcS:HA:=fun o vs objs K=>match vs,objs with
 | [.s (.i .i64 x0)],[]=>ob (qIH x0) fun y0=>K false (.s (.i .i64 y0)) ([])
 | _,_=>o 97 vs objs K
def qcV (o:Orc):Orc:=qR 97 (qcS o) o
theorem qph:OQ Tryz.prog qcV:=fun _ ho=>qS ho fun vs objs K r h=>by
 unfold qcS at h
 split at h
 ·skip
  obtain⟨t,h1,h2⟩:=qG h
  refine qa mixed qpg ((qpf _).trans h1) (by kernel_rfl) fun v objs' hd=>?_
  unfold qcU at hd;split at hd;(cases hd;exact h2);cases hd
 ·exact ho _ _ _ _ _ h
def qcB:Ctx:=mkC 15 ((qRq qO)) [] qW
theorem qpQ:CtxOK Tryz.prog qcB:=mkC_ok ((qcN _ qP))
def qcC:V->List Obj->Option (Int):=fun v objs=>match v,objs with
 | .s (.i .i64 y0),[]=>some (y0)
 | _,_=>none
theorem qpP (x0:Int):fnE qcB Tryz.f98 ([.s (.i .i64 x0)]) ([]) qcC=qJg x0:=by kernel_rfl
def qcA:HA:=fun o vs objs K=>match vs,objs with
 | [.s (.i .i64 x0)],[]=>ob (qJg x0) fun y0=>K false (.s (.i .i64 y0)) ([])
 | _,_=>o 98 vs objs K
def qcD (o:Orc):Orc:=qR 98 (qcA o) o
theorem qpR:OQ Tryz.prog qcD:=fun _ ho=>qS ho fun vs objs K r h=>by
 unfold qcA at h
 split at h
 ·skip
  obtain⟨t,h1,h2⟩:=qG h
  refine qa mixed qpQ ((qpP _).trans h1) (by kernel_rfl) fun v objs' hd=>?_
  unfold qcC at hd;split at hd;(cases hd;exact h2);cases hd
 ·exact ho _ _ _ _ _ h
def qRk:Ex->List V->List Obj->Option (LI×LI×Int×LI):=fun e vs objs=>match e,vs,objs with
 | .exit 0,[.s (.ptr 0 0 none 0),.s (.ptr 1 0 none 0)],[.cells 29 [.arr .i8 81 y0,.arr .i8 16 y1,.one [.i .i8 y2]],.cells 131 [.arr .i64 2 y3]]=>some (y0,y1,y2,y3)
 | _,_,_=>none
def qRi:Ex->List V->List Obj->Option (LI×Int×LI×LI×Int×LI):=fun e vs objs=>match e,vs,objs with
 | .exit 4,[.s (.ptr 0 0 none 0),.s (.ptr 1 0 none 0),.agg [.arr .i8 16 y0],.s (.i .i64 y1)],[.cells 29 [.arr .i8 81 y2,.arr .i8 16 y3,.one [.i .i8 y4]],.cells 131 [.arr .i64 2 y5]]=>some (y0,y1,y2,y3,y4,y5)
 | _,_,_=>none
def qRg:Ex->List V->List Obj->Option (LI×LI×Int×LI):=fun e vs objs=>match e,vs,objs with
 | .exit 2,[.s (.ptr 0 0 none 0),.s (.ptr 1 0 none 0)],[.cells 29 [.arr .i8 81 y0,.arr .i8 16 y1,.one [.i .i8 y2]],.cells 131 [.arr .i64 2 y3]]=>some (y0,y1,y2,y3)
 | _,_,_=>none
def qRp:HL:=fun vs objs K=>match vs,objs with
 | [.s (.ptr 0 0 none 0),.s (.ptr 1 0 none 0),.agg [.arr .i8 81 x0],.s (.i .i64 x1)],[.cells 29 [.arr .i8 81 x2,.arr .i8 16 x3,.one [.i .i8 x4]],.cells 131 [.arr .i64 2 x5]]=>ob (qB3 qC x0 x1 x2 x3 x4 x5) fun z=>K (.exit 0) ([.s (.ptr 0 0 none 0),.s (.ptr 1 0 none 0)]) ([.cells 29 [.arr .i8 81 (z.1),.arr .i8 16 (z.2.1),.one [.i .i8 (z.2.2.1)]],.cells 131 [.arr .i64 2 (z.2.2.2)]])
 | _,_=>none
def qRo:HL:=fun vs objs K=>match vs,objs with
 | [.s (.ptr 0 0 none 0),.s (.ptr 1 0 none 0),.s (.i .i64 x0),.agg [.arr .i8 16 x1],.s (.i .i64 x2),.agg [.arr .i8 8 x3],.s (.i .i64 x4)],[.cells 29 [.arr .i8 81 x5,.arr .i8 16 x6,.one [.i .i8 x7]],.cells 131 [.arr .i64 2 x8]]=>ob (qCd qC x0 x1 x2 x3 x4 x5 x6 x7 x8) fun z=>K (.exit 4) ([.s (.ptr 0 0 none 0),.s (.ptr 1 0 none 0),.agg [.arr .i8 16 (z.1)],.s (.i .i64 (z.2.1))]) ([.cells 29 [.arr .i8 81 (z.2.2.1),.arr .i8 16 (z.2.2.2.1),.one [.i .i8 (z.2.2.2.2.1)]],.cells 131 [.arr .i64 2 (z.2.2.2.2.2)]])
 | _,_=>none
def qRn:HL:=fun vs objs K=>match vs,objs with
 | [.s (.ptr 0 0 none 0),.s (.ptr 1 0 none 0),.agg [.arr .i8 16 x0],.s (.i .i64 x1)],[.cells 29 [.arr .i8 81 x2,.arr .i8 16 x3,.one [.i .i8 x4]],.cells 131 [.arr .i64 2 x5]]=>ob (qFa qC x0 x1 x2 x3 x4 x5) fun z=>K (.exit 2) ([.s (.ptr 0 0 none 0),.s (.ptr 1 0 none 0)]) ([.cells 29 [.arr .i8 81 (z.1),.arr .i8 16 (z.2.1),.one [.i .i8 (z.2.2.1)]],.cells 131 [.arr .i64 2 (z.2.2.2)]])
 | _,_=>none
def qpW:{R:Type}->Nat->List V->List Obj->(Ex->List V->List Obj->Option R)->Option R:=fun q vs objs K=>bif Nat.beq q 3 then qRp vs objs K else bif Nat.beq q 13 then qRo vs objs K else bif Nat.beq q 10 then qRn vs objs K else none
def qFZ:Ctx:=mkC 74 ((qcD (qcV (qRq (qCs (qFA qO)))))) [(3,[1,3,12,13],[1,3]),(10,[1,3,39,40],[1,3]),(13,[1,3,7,39,40,44,45],[1,3,39,40])] qpW
theorem qMC:CtxOK Tryz.prog qFZ:=mkC_ok ((qpR _ (qph _ (qcN _ (qC3 _ (qF4 _ qP))))))
def qRl (f:Nat) (x0:LI) (x1:Int) (x2 x3:LI) (x4:Int) (x5:LI):Option (LI×LI×Int×LI):=qh qFZ 0 [1,3,12,13] [1,3] (qI Tryz.f45 3) f ([.s (.ptr 0 0 none 0),.s (.ptr 1 0 none 0),.agg [.arr .i8 81 x0],.s (.i .i64 x1)]) ([.cells 29 [.arr .i8 81 x2,.arr .i8 16 x3,.one [.i .i8 x4]],.cells 131 [.arr .i64 2 x5]]) qRk
theorem qpV (f:Nat) (x0:LI) (x1:Int) (x2 x3:LI) (x4:Int) (x5:LI):qRl (f+1) x0 x1 x2 x3 x4 x5=qME (qRl f) x0 x1 x2 x3 x4 x5:=by kernel_rfl
theorem qcI:∀ f,qRl f=qB3 f
 | 0=>rfl
 | f+1=>by funext x0 x1 x2 x3 x4 x5;rw[qpV,qcI f];rfl
def qRj (f:Nat) (x0:Int) (x1:LI) (x2:Int) (x3:LI) (x4:Int) (x5 x6:LI) (x7:Int) (x8:LI):Option (LI×Int×LI×LI×Int×LI):=qh qFZ 0 [1,3,7,39,40,44,45] [1,3,39,40] (qI Tryz.f45 13) f ([.s (.ptr 0 0 none 0),.s (.ptr 1 0 none 0),.s (.i .i64 x0),.agg [.arr .i8 16 x1],.s (.i .i64 x2),.agg [.arr .i8 8 x3],.s (.i .i64 x4)]) ([.cells 29 [.arr .i8 81 x5,.arr .i8 16 x6,.one [.i .i8 x7]],.cells 131 [.arr .i64 2 x8]]) qRi
theorem qpU (f:Nat) (x0:Int) (x1:LI) (x2:Int) (x3:LI) (x4:Int) (x5 x6:LI) (x7:Int) (x8:LI):qRj (f+1) x0 x1 x2 x3 x4 x5 x6 x7 x8=qMD (qRj f) x0 x1 x2 x3 x4 x5 x6 x7 x8:=by kernel_rfl
theorem qcH:∀ f,qRj f=qCd f
 | 0=>rfl
 | f+1=>by funext x0 x1 x2 x3 x4 x5 x6 x7 x8;rw[qpU,qcH f];rfl
def qRh (f:Nat) (x0:LI) (x1:Int) (x2 x3:LI) (x4:Int) (x5:LI):Option (LI×LI×Int×LI):=qh qFZ 0 [1,3,39,40] [1,3] (qI Tryz.f45 10) f ([.s (.ptr 0 0 none 0),.s (.ptr 1 0 none 0),.agg [.arr .i8 16 x0],.s (.i .i64 x1)]) ([.cells 29 [.arr .i8 81 x2,.arr .i8 16 x3,.one [.i .i8 x4]],.cells 131 [.arr .i64 2 x5]]) qRg
theorem qpT (f:Nat) (x0:LI) (x1:Int) (x2 x3:LI) (x4:Int) (x5:LI):qRh (f+1) x0 x1 x2 x3 x4 x5=qJh (qRh f) x0 x1 x2 x3 x4 x5:=by kernel_rfl
theorem qcG:∀ f,qRh f=qFa f
 | 0=>rfl
 | f+1=>by funext x0 x1 x2 x3 x4 x5;rw[qpT,qcG f];rfl
theorem qpZ:qd Tryz.prog qFZ 0 (qI Tryz.f45 3):=
 ql mixed qMC (qT.of (l':=[]) (by kernel_rfl) trivial) (q:=3) (kin:=[1,3,12,13]) (kout:=[1,3]) (by kernel_rfl) (by kernel_rfl) fun vs objs K r h=>by
  replace h:qRp vs objs K=some r:=h
  unfold qRp at h
  split at h
  ·skip
   obtain⟨t,h1,h2⟩:=qG h
   rw[<- qcI] at h1
   refine⟨_,qRk,t,qC,h1,fun e vs' objs' hd=>?_⟩
   unfold qRk at hd;split at hd;(cases hd;exact h2);cases hd
  ·cases h
theorem qpY:qd Tryz.prog qFZ 0 (qI Tryz.f45 13):=
 ql mixed qMC (qT.of (l':=[]) (by kernel_rfl) trivial) (q:=13) (kin:=[1,3,7,39,40,44,45]) (kout:=[1,3,39,40]) (by kernel_rfl) (by kernel_rfl) fun vs objs K r h=>by
  replace h:qRo vs objs K=some r:=h
  unfold qRo at h
  split at h
  ·skip
   obtain⟨t,h1,h2⟩:=qG h
   rw[<- qcH] at h1
   refine⟨_,qRi,t,qC,h1,fun e vs' objs' hd=>?_⟩
   unfold qRi at hd;split at hd;(cases hd;exact h2);cases hd
  ·cases h
theorem qpX:qd Tryz.prog qFZ 0 (qI Tryz.f45 10):=
 ql mixed qMC (qT.of (l':=[qI Tryz.f45 13]) (by kernel_rfl) ⟨qpY,trivial⟩) (q:=10) (kin:=[1,3,39,40]) (kout:=[1,3]) (by kernel_rfl) (by kernel_rfl) fun vs objs K r h=>by
  replace h:qRn vs objs K=some r:=h
  unfold qRn at h
  split at h
  ·skip
   obtain⟨t,h1,h2⟩:=qG h
   rw[<- qcG] at h1
   refine⟨_,qRg,t,qC,h1,fun e vs' objs' hd=>?_⟩
   unfold qRg at hd;split at hd;(cases hd;exact h2);cases hd
  ·cases h
def qcF:V->List Obj->Option (Int):=fun v objs=>match v,objs with
 | .s (.i .i64 y0),[]=>some (y0)
 | _,_=>none
theorem qpS (x0 x1:LI) (x2:Int):fnE qFZ Tryz.f45 ([.agg [.arr .i8 81 x0,.arr .i8 16 x1,.one [.i .i8 x2]]]) ([]) qcF=qGY x0 x1 x2:=by kernel_rfl
def qcE:HA:=fun o vs objs K=>match vs,objs with
 | [.agg [.arr .i8 81 x0,.arr .i8 16 x1,.one [.i .i8 x2]]],[]=>ob (qGY x0 x1 x2) fun y0=>K false (.s (.i .i64 y0)) ([])
 | _,_=>o 45 vs objs K
def qRm (o:Orc):Orc:=qR 45 (qcE o) o
theorem qcJ:OQ Tryz.prog qRm:=fun _ ho=>qS ho fun vs objs K r h=>by
 unfold qcE at h
 split at h
 ·skip
  obtain⟨t,h1,h2⟩:=qG h
  refine qAY mixed qMC (fn:=Tryz.f45) (b:=(Tryz.f45).body.getD .skip) (by kernel_rfl) (by kernel_rfl) (by kernel_rfl) ((qpS _ _ _).trans h1) (m:=0) rfl (qT.of (l':=[qI Tryz.f45 3,qI Tryz.f45 10]) (by kernel_rfl) ⟨qpZ,qpX,trivial⟩) fun v objs' hd=>?_
  unfold qcF at hd;split at hd;(cases hd;exact h2);cases hd
 ·exact ho _ _ _ _ _ h
def qbs:Ctx:=mkC 19 (qO) [] qW
theorem qo1:CtxOK Tryz.prog qbs:=mkC_ok (qP)
def qbt:V->List Obj->Option (Empty):=fun v objs=>match v,objs with
 | _,_=>none
theorem qo0 (x0 x1:LI) (x2:Int):fnE qbs Tryz.f99 ([.s .nilp,.agg [.arr .i8 81 x0,.arr .i8 16 x1,.one [.i .i8 x2]]]) ([]) qbt=qRY x0 x1 x2:=by kernel_rfl
def qbr:HA:=fun o vs objs K=>match vs,objs with
 | [.s .nilp,.agg [.arr .i8 81 x0,.arr .i8 16 x1,.one [.i .i8 x2]]],[]=>ob (qRY x0 x1 x2) fun _=>none
 | _,_=>o 99 vs objs K
def qbu (o:Orc):Orc:=qR 99 (qbr o) o
theorem qo2:OQ Tryz.prog qbu:=fun _ ho=>qS ho fun vs objs K r h=>by
 unfold qbr at h
 split at h
 ·skip
  obtain⟨t,h1,h2⟩:=qG h
  refine qa mixed qo1 ((qo0 _ _ _).trans h1) (by kernel_rfl) fun v objs' hd=>?_
  unfold qbt at hd
  split at hd
  ·cases hd
 ·exact ho _ _ _ _ _ h
def qbg:Ctx:=mkC 28 ((qbu qO)) [] qW
theorem qos:CtxOK Tryz.prog qbg:=mkC_ok ((qo2 _ qP))
def qbh:V->List Obj->Option (Empty):=fun v objs=>match v,objs with
 | _,_=>none
theorem qor (x0 x1:LI) (x2:Int):fnE qbg Tryz.f46 ([.s .nilp,.agg [.arr .i8 81 x0,.arr .i8 16 x1,.one [.i .i8 x2]]]) ([]) qbh=qRX x0 x1 x2:=by kernel_rfl
def qbf:HA:=fun o vs objs K=>match vs,objs with
 | [.s .nilp,.agg [.arr .i8 81 x0,.arr .i8 16 x1,.one [.i .i8 x2]]],[]=>ob (qRX x0 x1 x2) fun _=>none
 | _,_=>o 46 vs objs K
def qbi (o:Orc):Orc:=qR 46 (qbf o) o
theorem qot:OQ Tryz.prog qbi:=fun _ ho=>qS ho fun vs objs K r h=>by
 unfold qbf at h
 split at h
 ·skip
  obtain⟨t,h1,h2⟩:=qG h
  refine qa mixed qos ((qor _ _ _).trans h1) (by kernel_rfl) fun v objs' hd=>?_
  unfold qbh at hd
  split at hd
  ·cases hd
 ·exact ho _ _ _ _ _ h
def qQg:Ctx:=mkC 217 ((qbi (qRm (qHK qO)))) [(25,[0,1,2,3,4,13,19,20,21,140,141,142],[0,1,2,3,4,10,11,12,13,19,20]),(1048601,[5],[])] qW
theorem qZh:CtxOK Tryz.prog qQg:=mkC_ok ((qot _ (qcJ _ (qIs _ qP))))
theorem qmo:qd Tryz.prog qQg 4 (qI Tryz.f20 25):=
 ql mixed qZh (qT.of (l':=[]) (by kernel_rfl) trivial) (q:=25) (kin:=[0,1,2,3,4,13,19,20,21,140,141,142]) (kout:=[0,1,2,3,4,10,11,12,13,19,20]) (by kernel_rfl) (by kernel_rfl) fun vs objs K r h=>by
  replace h:none=some r:=h
  cases h
def qZi:V->List Obj->Option (Int×Nat×Bool×Int×Int×Int×Nat×LI×LI×Int×LL×LL×Nat×LL×Nat×LL):=fun v objs=>match v,objs with
 | .tup [W.s (.i .i64 y0),W.s (.sl 4 0 y1 true),W.s (.b y2)],[.cells 60 [.one [.nilp,.ptr 1 0 none 0,.i .i64 y3,.i .i64 y4]],.cells 65 [.one [.ptr 2 0 none 0,.i .u64 y5,.sl 3 0 y6 true]],.cells 84 [.arr .i8 81 y7,.arr .i8 16 y8,.one [.i .i8 y9],.rows [.i .u64,.i .u64] 32 y10,.rows [.i .u64,.i .u64] 2 y11],.sli 125 false (.rows [.i .i64,.i .i64,.i .i64,.b,.i .i8,.i .i8] y12 y13),.sli 41 false (.rows [.i .i64,.i .i64,.i .i64,.b] y14 y15)]=>some (y0,y1,y2,y3,y4,y5,y6,y7,y8,y9,y10,y11,y12,y13,y14,y15)
 | _,_=>none
theorem qmf (x0 x1:Int) (x2 x3:Int) (x4 x5 x6:Int) (x7:Nat) (x8 x9:LI) (x10:Int) (x11 x12:LL) (x13:Nat) (x14:LL):fnE qQg Tryz.f20 ([.s (.ptr 0 0 none 0),.s (.i .i64 x0),.s (.i .i64 x1),.s (.i .i64 x2),.s (.i .i64 x3)]) ([.cells 60 [.one [.nilp,.ptr 1 0 none 0,.i .i64 x4,.i .i64 x5]],.cells 65 [.one [.ptr 2 0 none 0,.i .u64 x6,.sl 3 0 x7 true]],.cells 84 [.arr .i8 81 x8,.arr .i8 16 x9,.one [.i .i8 x10],.rows [.i .u64,.i .u64] 32 x11,.rows [.i .u64,.i .u64] 2 x12],.sli 125 false (.rows [.i .i64,.i .i64,.i .i64,.b,.i .i8,.i .i8] x13 x14)]) qZi=qQa x0 x1 x2 x3 x4 x5 x6 x7 x8 x9 x10 x11 x12 x13 x14:=by kernel_rfl
def qZg:HA:=fun o vs objs K=>match vs,objs with
 | [.s (.ptr 0 0 none 0),.s (.i .i64 x0),.s (.i .i64 x1),.s (.i .i64 x2),.s (.i .i64 x3)],[.cells 60 [.one [.nilp,.ptr 1 0 none 0,.i .i64 x4,.i .i64 x5]],.cells 65 [.one [.ptr 2 0 none 0,.i .u64 x6,.sl 3 0 x7 true]],.cells 84 [.arr .i8 81 x8,.arr .i8 16 x9,.one [.i .i8 x10],.rows [.i .u64,.i .u64] 32 x11,.rows [.i .u64,.i .u64] 2 x12],.sli 125 false (.rows [.i .i64,.i .i64,.i .i64,.b,.i .i8,.i .i8] x13 x14)]=>ob (qQa x0 x1 x2 x3 x4 x5 x6 x7 x8 x9 x10 x11 x12 x13 x14) fun z=>K false (.tup [W.s (.i .i64 (z.1)),W.s (.sl 4 0 (z.2.1) true),W.s (.b (z.2.2.1))]) ([.cells 60 [.one [.nilp,.ptr 1 0 none 0,.i .i64 (z.2.2.2.1),.i .i64 (z.2.2.2.2.1)]],.cells 65 [.one [.ptr 2 0 none 0,.i .u64 (z.2.2.2.2.2.1),.sl 3 0 (z.2.2.2.2.2.2.1) true]],.cells 84 [.arr .i8 81 (z.2.2.2.2.2.2.2.1),.arr .i8 16 (z.2.2.2.2.2.2.2.2.1),.one [.i .i8 (z.2.2.2.2.2.2.2.2.2.1)],.rows [.i .u64,.i .u64] 32 (z.2.2.2.2.2.2.2.2.2.2.1),.rows [.i .u64,.i .u64] 2 (z.2.2.2.2.2.2.2.2.2.2.2.1)],.sli 125 false (.rows [.i .i64,.i .i64,.i .i64,.b,.i .i8,.i .i8] (z.2.2.2.2.2.2.2.2.2.2.2.2.1) (z.2.2.2.2.2.2.2.2.2.2.2.2.2.1)),.sli 41 false (.rows [.i .i64,.i .i64,.i .i64,.b] (z.2.2.2.2.2.2.2.2.2.2.2.2.2.2.1) (z.2.2.2.2.2.2.2.2.2.2.2.2.2.2.2))])
 | _,_=>o 20 vs objs K
def qZj (o:Orc):Orc:=qR 20 (qZg o) o
theorem qmn:OQ Tryz.prog qZj:=fun _ ho=>qS ho fun vs objs K r h=>by
 unfold qZg at h
 split at h
 ·skip
  obtain⟨t,h1,h2⟩:=qG h
  refine qAY mixed qZh (fn:=Tryz.f20) (b:=(Tryz.f20).body.getD .skip) (by kernel_rfl) (by kernel_rfl) (by kernel_rfl) ((qmf _ _ _ _ _ _ _ _ _ _ _ _ _ _ _).trans h1) (m:=4) rfl (qT.of (l':=[qI Tryz.f20 25]) (by kernel_rfl) ⟨qmo,trivial⟩) fun v objs' hd=>?_
  unfold qZi at hd;split at hd;(cases hd;exact h2);cases hd
 ·exact ho _ _ _ _ _ h
def qQW:Ex->List V->List Obj->Option (Int×Int×Int×Nat×Int×Int×Nat×Int×Bool×Int×Int×Nat×Nat×Int×Bool×LI×LI×Int×LL×LL×Nat×LL×Nat×LL×Nat×LL):=fun e vs objs=>match e,vs,objs with
 | .exit 0,[.s (.ptr 0 0 none 0),.s (.ptr 2 0 none 0),.s (.ptr 3 0 none 0)],[.cells 60 [.one [.nilp,.ptr 1 0 none 0,.i .i64 y0,.i .i64 y1]],.cells 65 [.one [.ptr 4 0 none 0,.i .u64 y2,.sl 5 0 y3 true]],.cells 38 [.one [.i .i64 y4,.i .i64 y5,.sl 6 0 y6 true,.i .i64 y7,.b y8]],.cells 38 [.one [.i .i64 y9,.i .i64 y10,.sl 7 y11 y12 false,.i .i64 y13,.b y14]],.cells 84 [.arr .i8 81 y15,.arr .i8 16 y16,.one [.i .i8 y17],.rows [.i .u64,.i .u64] 32 y18,.rows [.i .u64,.i .u64] 2 y19],.sli 125 false (.rows [.i .i64,.i .i64,.i .i64,.b,.i .i8,.i .i8] y20 y21),.sli 41 false (.rows [.i .i64,.i .i64,.i .i64,.b] y22 y23),.sli 41 false (.rows [.i .i64,.i .i64,.i .i64,.b] y24 y25)]=>some (y0,y1,y2,y3,y4,y5,y6,y7,y8,y9,y10,y11,y12,y13,y14,y15,y16,y17,y18,y19,y20,y21,y22,y23,y24,y25)
 | _,_,_=>none
def qQZ:HL:=fun vs objs K=>match vs,objs with
 | [.s (.ptr 0 0 none 0),.s (.i .i64 x0),.s (.ptr 2 0 none 0),.s (.ptr 3 0 none 0),.s (.i .i64 x1)],[.cells 60 [.one [.nilp,.ptr 1 0 none 0,.i .i64 x2,.i .i64 x3]],.cells 65 [.one [.ptr 4 0 none 0,.i .u64 x4,.sl 5 0 x5 true]],.cells 38 [.one [.i .i64 x6,.i .i64 x7,.sl 6 0 x8 true,.i .i64 x9,.b x10]],.cells 38 [.one [.i .i64 x11,.i .i64 x12,.sl 7 x13 x14 false,.i .i64 x15,.b x16]],.cells 84 [.arr .i8 81 x17,.arr .i8 16 x18,.one [.i .i8 x19],.rows [.i .u64,.i .u64] 32 x20,.rows [.i .u64,.i .u64] 2 x21],.sli 125 false (.rows [.i .i64,.i .i64,.i .i64,.b,.i .i8,.i .i8] x22 x23),.sli 41 false (.rows [.i .i64,.i .i64,.i .i64,.b] x24 x25),.sli 41 false (.rows [.i .i64,.i .i64,.i .i64,.b] x26 x27)]=>ob (qLf qC x0 x1 x2 x3 x4 x5 x6 x7 x8 x9 x10 x11 x12 x13 x14 x15 x16 x17 x18 x19 x20 x21 x22 x23 x24 x25 x26 x27) fun z=>K (.exit 0) ([.s (.ptr 0 0 none 0),.s (.ptr 2 0 none 0),.s (.ptr 3 0 none 0)]) ([.cells 60 [.one [.nilp,.ptr 1 0 none 0,.i .i64 (z.1),.i .i64 (z.2.1)]],.cells 65 [.one [.ptr 4 0 none 0,.i .u64 (z.2.2.1),.sl 5 0 (z.2.2.2.1) true]],.cells 38 [.one [.i .i64 (z.2.2.2.2.1),.i .i64 (z.2.2.2.2.2.1),.sl 6 0 (z.2.2.2.2.2.2.1) true,.i .i64 (z.2.2.2.2.2.2.2.1),.b (z.2.2.2.2.2.2.2.2.1)]],.cells 38 [.one [.i .i64 (z.2.2.2.2.2.2.2.2.2.1),.i .i64 (z.2.2.2.2.2.2.2.2.2.2.1),.sl 7 (z.2.2.2.2.2.2.2.2.2.2.2.1) (z.2.2.2.2.2.2.2.2.2.2.2.2.1) false,.i .i64 (z.2.2.2.2.2.2.2.2.2.2.2.2.2.1),.b (z.2.2.2.2.2.2.2.2.2.2.2.2.2.2.1)]],.cells 84 [.arr .i8 81 (z.2.2.2.2.2.2.2.2.2.2.2.2.2.2.2.1),.arr .i8 16 (z.2.2.2.2.2.2.2.2.2.2.2.2.2.2.2.2.1),.one [.i .i8 (z.2.2.2.2.2.2.2.2.2.2.2.2.2.2.2.2.2.1)],.rows [.i .u64,.i .u64] 32 (z.2.2.2.2.2.2.2.2.2.2.2.2.2.2.2.2.2.2.1),.rows [.i .u64,.i .u64] 2 (z.2.2.2.2.2.2.2.2.2.2.2.2.2.2.2.2.2.2.2.1)],.sli 125 false (.rows [.i .i64,.i .i64,.i .i64,.b,.i .i8,.i .i8] (z.2.2.2.2.2.2.2.2.2.2.2.2.2.2.2.2.2.2.2.2.1) (z.2.2.2.2.2.2.2.2.2.2.2.2.2.2.2.2.2.2.2.2.2.1)),.sli 41 false (.rows [.i .i64,.i .i64,.i .i64,.b] (z.2.2.2.2.2.2.2.2.2.2.2.2.2.2.2.2.2.2.2.2.2.2.1) (z.2.2.2.2.2.2.2.2.2.2.2.2.2.2.2.2.2.2.2.2.2.2.2.1)),.sli 41 false (.rows [.i .i64,.i .i64,.i .i64,.b] (z.2.2.2.2.2.2.2.2.2.2.2.2.2.2.2.2.2.2.2.2.2.2.2.2.1) (z.2.2.2.2.2.2.2.2.2.2.2.2.2.2.2.2.2.2.2.2.2.2.2.2.2))])
 | _,_=>none
def qmd:{R:Type}->Nat->List V->List Obj->(Ex->List V->List Obj->Option R)->Option R:=fun q vs objs K=>bif Nat.beq q 8 then qQZ vs objs K else none
def qLe:Ctx:=mkC 70 ((qZj (qHK (qJ9 qO)))) [(8,[0,2,8,9,11],[0,8,9]),(2097152,[60,0,1],[])] qmd
theorem qZZ:CtxOK Tryz.prog qLe:=mkC_ok ((qmn _ (qIs _ (qNH _ qP))))
def qQX (f:Nat) (x0 x1:Int) (x2 x3 x4:Int) (x5:Nat) (x6 x7:Int) (x8:Nat) (x9:Int) (x10:Bool) (x11 x12:Int) (x13 x14:Nat) (x15:Int) (x16:Bool) (x17 x18:LI) (x19:Int) (x20 x21:LL) (x22:Nat) (x23:LL) (x24:Nat) (x25:LL) (x26:Nat) (x27:LL):Option (Int×Int×Int×Nat×Int×Int×Nat×Int×Bool×Int×Int×Nat×Nat×Int×Bool×LI×LI×Int×LL×LL×Nat×LL×Nat×LL×Nat×LL):=qh qLe 1 [0,2,8,9,11] [0,8,9] (qI Tryz.f9 8) f ([.s (.ptr 0 0 none 0),.s (.i .i64 x0),.s (.ptr 2 0 none 0),.s (.ptr 3 0 none 0),.s (.i .i64 x1)]) ([.cells 60 [.one [.nilp,.ptr 1 0 none 0,.i .i64 x2,.i .i64 x3]],.cells 65 [.one [.ptr 4 0 none 0,.i .u64 x4,.sl 5 0 x5 true]],.cells 38 [.one [.i .i64 x6,.i .i64 x7,.sl 6 0 x8 true,.i .i64 x9,.b x10]],.cells 38 [.one [.i .i64 x11,.i .i64 x12,.sl 7 x13 x14 false,.i .i64 x15,.b x16]],.cells 84 [.arr .i8 81 x17,.arr .i8 16 x18,.one [.i .i8 x19],.rows [.i .u64,.i .u64] 32 x20,.rows [.i .u64,.i .u64] 2 x21],.sli 125 false (.rows [.i .i64,.i .i64,.i .i64,.b,.i .i8,.i .i8] x22 x23),.sli 41 false (.rows [.i .i64,.i .i64,.i .i64,.b] x24 x25),.sli 41 false (.rows [.i .i64,.i .i64,.i .i64,.b] x26 x27)]) qQW
theorem qmc (f:Nat) (x0 x1:Int) (x2 x3 x4:Int) (x5:Nat) (x6 x7:Int) (x8:Nat) (x9:Int) (x10:Bool) (x11 x12:Int) (x13 x14:Nat) (x15:Int) (x16:Bool) (x17 x18:LI) (x19:Int) (x20 x21:LL) (x22:Nat) (x23:LL) (x24:Nat) (x25:LL) (x26:Nat) (x27:LL):qQX (f+1) x0 x1 x2 x3 x4 x5 x6 x7 x8 x9 x10 x11 x12 x13 x14 x15 x16 x17 x18 x19 x20 x21 x22 x23 x24 x25 x26 x27=qZc (qQX f) x0 x1 x2 x3 x4 x5 x6 x7 x8 x9 x10 x11 x12 x13 x14 x15 x16 x17 x18 x19 x20 x21 x22 x23 x24 x25 x26 x27:=by kernel_rfl
theorem qZb:∀ f,qQX f=qLf f
 | 0=>rfl
 | f+1=>by funext x0 x1 x2 x3 x4 x5 x6 x7 x8 x9 x10 x11 x12 x13 x14 x15 x16 x17 x18 x19 x20 x21 x22 x23 x24 x25 x26 x27;rw[qmc,qZb f];rfl
theorem qme:qd Tryz.prog qLe 1 (qI Tryz.f9 8):=
 ql mixed qZZ (qT.of (l':=[]) (by kernel_rfl) trivial) (q:=8) (kin:=[0,2,8,9,11]) (kout:=[0,8,9]) (by kernel_rfl) (by kernel_rfl) fun vs objs K r h=>by
  replace h:qQZ vs objs K=some r:=h
  unfold qQZ at h
  split at h
  ·skip
   obtain⟨t,h1,h2⟩:=qG h
   rw[<- qZb] at h1
   refine⟨_,qQW,t,qC,h1,fun e vs' objs' hd=>?_⟩
   unfold qQW at hd;split at hd;(cases hd;exact h2);cases hd
  ·cases h
def qZa:V->List Obj->Option ((Int×Int×Nat×Int×Bool×Int×Int×Nat×LL)⊕(Int×Int×Nat×Nat×Int×Bool×Int×Int×Nat×LL)):=fun v objs=>match v,objs with
 | .agg [.one [.i .i64 y0,.i .i64 y1,.sl 1 y2 y3 false,.i .i64 y4,.b y5]],[.cells 60 [.one [.nilp,.bad,.i .i64 y6,.i .i64 y7]],.sli 41 false (.rows [.i .i64,.i .i64,.i .i64,.b] y8 y9)]=>some (.inr (y0,y1,y2,y3,y4,y5,y6,y7,y8,y9))
 | _,_=>match v,objs with
 | .agg [.one [.i .i64 y0,.i .i64 y1,.sl 1 0 y2 true,.i .i64 y3,.b y4]],[.cells 60 [.one [.nilp,.bad,.i .i64 y5,.i .i64 y6]],.sli 41 false (.rows [.i .i64,.i .i64,.i .i64,.b] y7 y8)]=>some (.inl (y0,y1,y2,y3,y4,y5,y6,y7,y8))
 | _,_=>none
theorem qmX (x0 x1:LI) (x2 x3:Int) (x4 x5 x6:Int):fnE qLe Tryz.f9 ([.s (.ptr 0 0 none 0),.agg [.arr .i8 81 x0,.arr .i8 16 x1,.one [.i .i8 x2]],.s (.i .i64 x3),.s (.i .i64 x4)]) ([.cells 60 [.one [.nilp,.bad,.i .i64 x5,.i .i64 x6]]]) qZa=qLc x0 x1 x2 x3 x4 x5 x6:=by kernel_rfl
def qZY:HA:=fun o vs objs K=>match vs,objs with
 | [.s (.ptr 0 0 none 0),.agg [.arr .i8 81 x0,.arr .i8 16 x1,.one [.i .i8 x2]],.s (.i .i64 x3),.s (.i .i64 x4)],[.cells 60 [.one [.nilp,.bad,.i .i64 x5,.i .i64 x6]]]=>ob (qLc x0 x1 x2 x3 x4 x5 x6) fun t0=>sw t0 (fun z=>K false (.agg [.one [.i .i64 (z.1),.i .i64 (z.2.1),.sl 1 0 (z.2.2.1) true,.i .i64 (z.2.2.2.1),.b (z.2.2.2.2.1)]]) ([.cells 60 [.one [.nilp,.bad,.i .i64 (z.2.2.2.2.2.1),.i .i64 (z.2.2.2.2.2.2.1)]],.sli 41 false (.rows [.i .i64,.i .i64,.i .i64,.b] (z.2.2.2.2.2.2.2.1) (z.2.2.2.2.2.2.2.2))])) (fun z=>K false (.agg [.one [.i .i64 (z.1),.i .i64 (z.2.1),.sl 1 (z.2.2.1) (z.2.2.2.1) false,.i .i64 (z.2.2.2.2.1),.b (z.2.2.2.2.2.1)]]) ([.cells 60 [.one [.nilp,.bad,.i .i64 (z.2.2.2.2.2.2.1),.i .i64 (z.2.2.2.2.2.2.2.1)]],.sli 41 false (.rows [.i .i64,.i .i64,.i .i64,.b] (z.2.2.2.2.2.2.2.2.1) (z.2.2.2.2.2.2.2.2.2))]))
 | _,_=>o 9 vs objs K
def qQY (o:Orc):Orc:=qR 9 (qZY o) o
theorem qZd:OQ Tryz.prog qQY:=fun _ ho=>qS ho fun vs objs K r h=>by
 unfold qZY at h
 split at h
 ·skip
  obtain⟨t,h1,h2⟩:=qG h
  refine qAY mixed qZZ (fn:=Tryz.f9) (b:=(Tryz.f9).body.getD .skip) (by kernel_rfl) (by kernel_rfl) (by kernel_rfl) ((qmX _ _ _ _ _ _ _).trans h1) (m:=1) rfl (qT.of (l':=[qI Tryz.f9 8]) (by kernel_rfl) ⟨qme,trivial⟩) fun v objs' hd=>?_
  unfold qZa at hd
  split at hd
  ·skip
   cases hd
   exact h2
  ·skip
   split at hd
   ·skip
    cases hd
    exact h2
   ·skip
    cases hd
 ·exact ho _ _ _ _ _ h
def qbw:Ctx:=mkC 19 ((qN1 qO)) [] qW
theorem qo3:CtxOK Tryz.prog qbw:=mkC_ok ((qVE _ qP))
def qbx:V->List Obj->Option (Nat):=fun v objs=>match v,objs with
 | .s (.ptr 1 0 (some (y0,1)) 0),[]=>some (y0)
 | _,_=>none
theorem qoz (x0 x1:LI) (x2:Int) (x3:Nat) (x4:Int) (x5:Nat) (x6:LL):fnE qbw Tryz.f99 ([.s (.ptr 0 0 none 0),.agg [.arr .i8 81 x0,.arr .i8 16 x1,.one [.i .i8 x2]]]) ([.rcells 104 [.one [.sl 1 0 x3 true,.i .i64 x4]],.sli 135 true (.rows kL0 x5 x6)]) (qAo 2 qbx)=qEe x0 x1 x2 x3 x4 x5 x6:=by kernel_rfl
def qbv:HA:=fun o vs objs K=>match vs,List.map Obj.toRO objs with
 | [.s (.ptr 0 0 none 0),.agg [.arr .i8 81 x0,.arr .i8 16 x1,.one [.i .i8 x2]]],[.rcells 104 [.one [.sl 1 0 x3 true,.i .i64 x4]],.sli 135 true (.rows kk0 x5 x6)]=>bif decide (kk0=kL0) then ob (qEe x0 x1 x2 x3 x4 x5 x6) fun y0=>K true (.s (.ptr 1 0 (some (y0,1)) 0)) ([]) else none
 | _,_=>o 99 vs objs K
def qRZ (o:Orc):Orc:=qR 99 (qbv o) o
theorem qby:OQ Tryz.prog qRZ:=fun _ ho=>qS ho fun vs objs K r h=>by
 unfold qbv at h
 split at h
 ·skip
  have g:=(qU h).1
  replace h:=(qU h).2
  obtain rfl:=of_decide_eq_true g
  have hq:List.map Obj.toRO objs=_:=(by rename_i hq;first | exact hq | assumption)
  obtain⟨t,h1,h2⟩:=qG h
  refine qA5 mixed qo3 (m:=2) (fn:=Tryz.f99) (b:=(Tryz.f99).body.getD .skip) (by kernel_rfl) (by kernel_rfl) (by kernel_rfl) hq (by kernel_rfl) (by kernel_rfl) (qT.of (l':=[]) (by kernel_rfl) trivial) ((qoz _ _ _ _ _ _ _).trans h1) fun v objs' hd=>?_
  unfold qbx at hd;split at hd;(cases hd;exact h2);cases hd
 ·exact ho _ _ _ _ _ h
def qbk:Ctx:=mkC 28 ((qRZ qO)) [] qW
theorem qou:CtxOK Tryz.prog qbk:=mkC_ok ((qby _ qP))
def qbl:V->List Obj->Option (Int×Int×Int×Int×Int×Int×Bool×Bool):=fun v objs=>match v,objs with
 | .tup [W.agg [.one [.i .i64 y0,.i .i64 y1,.i .i64 y2,.i .i64 y3,.i .i64 y4,.i .i64 y5,.b y6]],W.s (.b y7)],[]=>some (y0,y1,y2,y3,y4,y5,y6,y7)
 | _,_=>none
theorem qoq (x0 x1:LI) (x2:Int) (x3:Nat) (x4:Int) (x5:Nat) (x6:LL):fnE qbk Tryz.f46 ([.s (.ptr 0 0 none 0),.agg [.arr .i8 81 x0,.arr .i8 16 x1,.one [.i .i8 x2]]]) ([.rcells 104 [.one [.sl 1 0 x3 true,.i .i64 x4]],.sli 135 true (.rows kL0 x5 x6)]) (qAo 2 qbl)=qDx x0 x1 x2 x3 x4 x5 x6:=by kernel_rfl
def qbj:HA:=fun o vs objs K=>match vs,List.map Obj.toRO objs with
 | [.s (.ptr 0 0 none 0),.agg [.arr .i8 81 x0,.arr .i8 16 x1,.one [.i .i8 x2]]],[.rcells 104 [.one [.sl 1 0 x3 true,.i .i64 x4]],.sli 135 true (.rows kk0 x5 x6)]=>bif decide (kk0=kL0) then ob (qDx x0 x1 x2 x3 x4 x5 x6) fun z=>K true (.tup [W.agg [.one [.i .i64 (z.1),.i .i64 (z.2.1),.i .i64 (z.2.2.1),.i .i64 (z.2.2.2.1),.i .i64 (z.2.2.2.2.1),.i .i64 (z.2.2.2.2.2.1),.b (z.2.2.2.2.2.2.1)]],W.s (.b (z.2.2.2.2.2.2.2))]) ([]) else none
 | _,_=>o 46 vs objs K
def qbm (o:Orc):Orc:=qR 46 (qbj o) o
theorem qov:OQ Tryz.prog qbm:=fun _ ho=>qS ho fun vs objs K r h=>by
 unfold qbj at h
 split at h
 ·skip
  have g:=(qU h).1
  replace h:=(qU h).2
  obtain rfl:=of_decide_eq_true g
  have hq:List.map Obj.toRO objs=_:=(by rename_i hq;first | exact hq | assumption)
  obtain⟨t,h1,h2⟩:=qG h
  refine qA5 mixed qou (m:=2) (fn:=Tryz.f46) (b:=(Tryz.f46).body.getD .skip) (by kernel_rfl) (by kernel_rfl) (by kernel_rfl) hq (by kernel_rfl) (by kernel_rfl) (qT.of (l':=[]) (by kernel_rfl) trivial) ((qoq _ _ _ _ _ _ _).trans h1) fun v objs' hd=>?_
  unfold qbl at hd;split at hd;(cases hd;exact h2);cases hd
 ·exact ho _ _ _ _ _ h
def qZl:Ctx:=mkC 18 (qO) [] qW
theorem qmq:CtxOK Tryz.prog qZl:=mkC_ok (qP)
def qZm:V->List Obj->Option (Int):=fun v objs=>match v,objs with
 | .s (.i .i64 y0),[]=>some (y0)
 | _,_=>none
theorem qmp (x0 x1:Int):fnE qZl Tryz.f47 ([.s (.i .i64 x0),.s (.i .i64 x1)]) ([]) qZm=qAw x0 x1:=by kernel_rfl
def qZk:HA:=fun o vs objs K=>match vs,objs with
 | [.s (.i .i64 x0),.s (.i .i64 x1)],[]=>ob (qAw x0 x1) fun y0=>K false (.s (.i .i64 y0)) ([])
 | _,_=>o 47 vs objs K
def qZn (o:Orc):Orc:=qR 47 (qZk o) o
theorem qmr:OQ Tryz.prog qZn:=fun _ ho=>qS ho fun vs objs K r h=>by
 unfold qZk at h
 split at h
 ·skip
  obtain⟨t,h1,h2⟩:=qG h
  refine qa mixed qmq ((qmp _ _).trans h1) (by kernel_rfl) fun v objs' hd=>?_
  unfold qZm at hd;split at hd;(cases hd;exact h2);cases hd
 ·exact ho _ _ _ _ _ h
def qQ8:Ex->List V->List Obj->Option ((Int×Nat×LL)⊕(Nat×LL)):=fun e vs objs=>match e,vs,objs with
 | .ret,[.s (.i .i64 y0)],[.sli 41 true (.rows [.i .i64,.i .i64,.i .i64,.b] y1 y2)]=>some (.inl (y0,y1,y2))
 | .exit 0,[.s .bad],[.sli 41 true (.rows [.i .i64,.i .i64,.i .i64,.b] y0 y1)]=>some (.inr (y0,y1))
 | _,_,_=>none
def qRA:HL:=fun vs objs K=>match vs,objs with
 | [.s (.sl 0 0 x0 true),.s (.ptr 1 0 none 0),.s (.i .i64 x1),.s (.i .i64 x2)],[.sli 41 true (.rows [.i .i64,.i .i64,.i .i64,.b] x3 x4),.cells 41 [.one [.i .i64 x5,.i .i64 x6,.i .i64 x7,.b x8]]]=>ob (qDu qC x0 x1 x2 x3 x4 x5 x6 x7 x8) fun t0=>sw t0 (fun z=>K (.ret) ([.s (.i .i64 (z.1))]) ([.sli 41 true (.rows [.i .i64,.i .i64,.i .i64,.b] (z.2.1) (z.2.2))])) (fun z=>K (.exit 0) ([.s .bad]) ([.sli 41 true (.rows [.i .i64,.i .i64,.i .i64,.b] (z.1) (z.2))]))
 | _,_=>none
def qnx:{R:Type}->Nat->List V->List Obj->(Ex->List V->List Obj->Option R)->Option R:=fun q vs objs K=>bif Nat.beq q 2 then qRA vs objs K else none
def qL0:Ctx:=mkC 19 (qO) [(2,[0,3,7,8],[4])] qnx
theorem qaw:CtxOK Tryz.prog qL0:=mkC_ok (qP)
def qQ9 (f:Nat) (x0:Nat) (x1 x2:Int) (x3:Nat) (x4:LL) (x5 x6 x7:Int) (x8:Bool):Option ((Int×Nat×LL)⊕(Nat×LL)):=qh qL0 1 [0,3,7,8] [4] (qI Tryz.f48 2) f ([.s (.sl 0 0 x0 true),.s (.ptr 1 0 none 0),.s (.i .i64 x1),.s (.i .i64 x2)]) ([.sli 41 true (.rows [.i .i64,.i .i64,.i .i64,.b] x3 x4),.cells 41 [.one [.i .i64 x5,.i .i64 x6,.i .i64 x7,.b x8]]]) qQ8
theorem qnw (f:Nat) (x0:Nat) (x1 x2:Int) (x3:Nat) (x4:LL) (x5 x6 x7:Int) (x8:Bool):qQ9 (f+1) x0 x1 x2 x3 x4 x5 x6 x7 x8=qL1 (qQ9 f) x0 x1 x2 x3 x4 x5 x6 x7 x8:=by kernel_rfl
theorem qay:∀ f,qQ9 f=qDu f
 | 0=>rfl
 | f+1=>by funext x0 x1 x2 x3 x4 x5 x6 x7 x8;rw[qnw,qay f];rfl
theorem qnz:qd Tryz.prog qL0 1 (qI Tryz.f48 2):=
 ql mixed qaw (qT.of (l':=[]) (by kernel_rfl) trivial) (q:=2) (kin:=[0,3,7,8]) (kout:=[4]) (by kernel_rfl) (by kernel_rfl) fun vs objs K r h=>by
  replace h:qRA vs objs K=some r:=h
  unfold qRA at h
  split at h
  ·skip
   obtain⟨t,h1,h2⟩:=qG h
   rw[<- qay] at h1
   refine⟨_,qQ8,t,qC,h1,fun e vs' objs' hd=>?_⟩
   unfold qQ8 at hd
   split at hd
   ·skip
    cases hd
    exact h2
   ·skip
    cases hd
    exact h2
   ·cases hd
  ·cases h
def qax:V->List Obj->Option (Int):=fun v objs=>match v,objs with
 | .s (.i .i64 y0),[]=>some (y0)
 | _,_=>none
theorem qnv (x0:Nat) (x1 x2 x3:Int) (x4:Bool) (x5:Nat) (x6:LL):fnE qL0 Tryz.f48 ([.s (.sl 0 0 x0 true),.agg [.one [.i .i64 x1,.i .i64 x2,.i .i64 x3,.b x4]]]) ([.sli 41 true (.rows [.i .i64,.i .i64,.i .i64,.b] x5 x6)]) (qAo 1 qax)=qCu x0 x1 x2 x3 x4 x5 x6:=by kernel_rfl
def qav:HA:=fun o vs objs K=>match vs,List.map Obj.toRO objs with
 | [.s (.sl 0 0 x0 true),.agg [.one [.i .i64 x1,.i .i64 x2,.i .i64 x3,.b x4]]],[.sli 41 true (.rows [.i .i64,.i .i64,.i .i64,.b] x5 x6)]=>ob (qCu x0 x1 x2 x3 x4 x5 x6) fun y0=>K true (.s (.i .i64 y0)) ([])
 | _,_=>o 48 vs objs K
def qaz (o:Orc):Orc:=qR 48 (qav o) o
theorem qny:OQ Tryz.prog qaz:=fun _ ho=>qS ho fun vs objs K r h=>by
 unfold qav at h
 split at h
 ·skip
  have hq:List.map Obj.toRO objs=_:=(by rename_i hq;first | exact hq | assumption)
  obtain⟨t,h1,h2⟩:=qG h
  refine qA5 mixed qaw (m:=1) (fn:=Tryz.f48) (b:=(Tryz.f48).body.getD .skip) (by kernel_rfl) (by kernel_rfl) (by kernel_rfl) hq (by kernel_rfl) (by kernel_rfl) (qT.of (l':=[qI Tryz.f48 2]) (by kernel_rfl) ⟨qnz,trivial⟩) ((qnv _ _ _ _ _ _ _).trans h1) fun v objs' hd=>?_
  unfold qax at hd;split at hd;(cases hd;exact h2);cases hd
 ·exact ho _ _ _ _ _ h
def qWR:Ctx:=mkC 48 (qO) [] qW
theorem qiE:CtxOK Tryz.prog qWR:=mkC_ok (qP)
def qWS:V->List Obj->Option (Int):=fun v objs=>match v,objs with
 | .s (.i .i64 y0),[]=>some (y0)
 | _,_=>none
theorem qiD (x0 x1 x2:Int) (x3:Bool):fnE qWR Tryz.f115 ([.agg [.one [.i .i64 x0,.i .i64 x1,.i .i64 x2,.b x3]]]) ([]) qWS=qDb x0 x1 x2 x3:=by kernel_rfl
def qWQ:HA:=fun o vs objs K=>match vs,objs with
 | [.agg [.one [.i .i64 x0,.i .i64 x1,.i .i64 x2,.b x3]]],[]=>ob (qDb x0 x1 x2 x3) fun y0=>K false (.s (.i .i64 y0)) ([])
 | _,_=>o 115 vs objs K
def qWT (o:Orc):Orc:=qR 115 (qWQ o) o
theorem qiF:OQ Tryz.prog qWT:=fun _ ho=>qS ho fun vs objs K r h=>by
 unfold qWQ at h
 split at h
 ·skip
  obtain⟨t,h1,h2⟩:=qG h
  refine qa mixed qiE ((qiD _ _ _ _).trans h1) (by kernel_rfl) fun v objs' hd=>?_
  unfold qWS at hd;split at hd;(cases hd;exact h2);cases hd
 ·exact ho _ _ _ _ _ h
def qTg:Ctx:=mkC 104 ((qK7 (qCs (qFA (qFl (qJw (qWT qO))))))) [] qW
theorem qe8:CtxOK Tryz.prog qTg:=mkC_ok ((qO5 _ (qC3 _ (qF4 _ (qGn _ (qMr _ (qiF _ qP)))))))
def qTh:V->List Obj->Option (Bool):=fun v objs=>match v,objs with
 | .s (.b y0),[]=>some (y0)
 | _,_=>none
theorem qe7 (x0 x1 x2:Int) (x3:Bool) (x4:Int) (x5:Nat) (x6 x7:LI) (x8:Int) (x9 x10:LL) (x11:Nat) (x12:LL):fnE qTg Tryz.f83 ([.s (.ptr 0 0 none 0),.agg [.one [.i .i64 x0,.i .i64 x1,.i .i64 x2,.b x3]]]) ([.rcells 65 [.one [.ptr 1 0 none 0,.i .u64 x4,.sl 2 0 x5 true]],.rcells 84 [.arr .i8 81 x6,.arr .i8 16 x7,.one [.i .i8 x8],.rows [.i .u64,.i .u64] 32 x9,.rows [.i .u64,.i .u64] 2 x10],.sli 125 true (.rows [.i .i64,.i .i64,.i .i64,.b,.i .i8,.i .i8] x11 x12)]) (qAo 3 qTh)=qDN x0 x1 x2 x3 x4 x5 x6 x7 x8 x9 x10 x11 x12:=by kernel_rfl
def qTf:HA:=fun o vs objs K=>match vs,List.map Obj.toRO objs with
 | [.s (.ptr 0 0 none 0),.agg [.one [.i .i64 x0,.i .i64 x1,.i .i64 x2,.b x3]]],[.rcells 65 [.one [.ptr 1 0 none 0,.i .u64 x4,.sl 2 0 x5 true]],.rcells 84 [.arr .i8 81 x6,.arr .i8 16 x7,.one [.i .i8 x8],.rows [.i .u64,.i .u64] 32 x9,.rows [.i .u64,.i .u64] 2 x10],.sli 125 true (.rows [.i .i64,.i .i64,.i .i64,.b,.i .i8,.i .i8] x11 x12)]=>ob (qDN x0 x1 x2 x3 x4 x5 x6 x7 x8 x9 x10 x11 x12) fun y0=>K true (.s (.b y0)) ([])
 | _,_=>o 83 vs objs K
def qTi (o:Orc):Orc:=qR 83 (qTf o) o
theorem qe9:OQ Tryz.prog qTi:=fun _ ho=>qS ho fun vs objs K r h=>by
 unfold qTf at h
 split at h
 ·skip
  have hq:List.map Obj.toRO objs=_:=(by rename_i hq;first | exact hq | assumption)
  obtain⟨t,h1,h2⟩:=qG h
  refine qA5 mixed qe8 (m:=3) (fn:=Tryz.f83) (b:=(Tryz.f83).body.getD .skip) (by kernel_rfl) (by kernel_rfl) (by kernel_rfl) hq (by kernel_rfl) (by kernel_rfl) (qT.of (l':=[]) (by kernel_rfl) trivial) ((qe7 _ _ _ _ _ _ _ _ _ _ _ _ _).trans h1) fun v objs' hd=>?_
  unfold qTh at hd;split at hd;(cases hd;exact h2);cases hd
 ·exact ho _ _ _ _ _ h
def qTo:Ctx:=mkC 54 ((qNu (qJw qO))) [] qW
theorem qfD:CtxOK Tryz.prog qTo:=mkC_ok ((qU8 _ (qMr _ qP)))
def qTp:V->List Obj->Option (Int×Nat×LI×LI×Int×LL×LL×Nat×LL):=fun v objs=>match v,objs with
 | .tup [],[.cells 65 [.one [.ptr 1 0 none 0,.i .u64 y0,.sl 2 0 y1 true]],.cells 84 [.arr .i8 81 y2,.arr .i8 16 y3,.one [.i .i8 y4],.rows [.i .u64,.i .u64] 32 y5,.rows [.i .u64,.i .u64] 2 y6],.sli 125 false (.rows [.i .i64,.i .i64,.i .i64,.b,.i .i8,.i .i8] y7 y8)]=>some (y0,y1,y2,y3,y4,y5,y6,y7,y8)
 | _,_=>none
theorem qfC (x0 x1:Int) (x2 x3:Int) (x4:Nat) (x5 x6:LI) (x7:Int) (x8 x9:LL) (x10:Nat) (x11:LL):fnE qTo Tryz.f84 ([.s (.ptr 0 0 none 0),.s (.i .i64 x0),.s (.i .i64 x1),.s (.i .i64 x2)]) ([.cells 65 [.one [.ptr 1 0 none 0,.i .u64 x3,.sl 2 0 x4 true]],.cells 84 [.arr .i8 81 x5,.arr .i8 16 x6,.one [.i .i8 x7],.rows [.i .u64,.i .u64] 32 x8,.rows [.i .u64,.i .u64] 2 x9],.sli 125 false (.rows [.i .i64,.i .i64,.i .i64,.b,.i .i8,.i .i8] x10 x11)]) qTp=qCz x0 x1 x2 x3 x4 x5 x6 x7 x8 x9 x10 x11:=by kernel_rfl
def qTn:HA:=fun o vs objs K=>match vs,objs with
 | [.s (.ptr 0 0 none 0),.s (.i .i64 x0),.s (.i .i64 x1),.s (.i .i64 x2)],[.cells 65 [.one [.ptr 1 0 none 0,.i .u64 x3,.sl 2 0 x4 true]],.cells 84 [.arr .i8 81 x5,.arr .i8 16 x6,.one [.i .i8 x7],.rows [.i .u64,.i .u64] 32 x8,.rows [.i .u64,.i .u64] 2 x9],.sli 125 false (.rows [.i .i64,.i .i64,.i .i64,.b,.i .i8,.i .i8] x10 x11)]=>ob (qCz x0 x1 x2 x3 x4 x5 x6 x7 x8 x9 x10 x11) fun z=>K false (.tup []) ([.cells 65 [.one [.ptr 1 0 none 0,.i .u64 (z.1),.sl 2 0 (z.2.1) true]],.cells 84 [.arr .i8 81 (z.2.2.1),.arr .i8 16 (z.2.2.2.1),.one [.i .i8 (z.2.2.2.2.1)],.rows [.i .u64,.i .u64] 32 (z.2.2.2.2.2.1),.rows [.i .u64,.i .u64] 2 (z.2.2.2.2.2.2.1)],.sli 125 false (.rows [.i .i64,.i .i64,.i .i64,.b,.i .i8,.i .i8] (z.2.2.2.2.2.2.2.1) (z.2.2.2.2.2.2.2.2))])
 | _,_=>o 84 vs objs K
def qNE (o:Orc):Orc:=qR 84 (qTn o) o
theorem qTq:OQ Tryz.prog qNE:=fun _ ho=>qS ho fun vs objs K r h=>by
 unfold qTn at h
 split at h
 ·skip
  obtain⟨t,h1,h2⟩:=qG h
  refine qa mixed qfD ((qfC _ _ _ _ _ _ _ _ _ _ _ _).trans h1) (by kernel_rfl) fun v objs' hd=>?_
  unfold qTp at hd;split at hd;(cases hd;exact h2);cases hd
 ·exact ho _ _ _ _ _ h
def qTs:Ctx:=mkC 32 ((qJz (qN5 (qFl qO)))) [] qW
theorem qfF:CtxOK Tryz.prog qTs:=mkC_ok ((qMy _ (qVI _ (qGn _ qP))))
def qTt:V->List Obj->Option (Int×Nat×LI×LI×Int×LL×LL×Nat×LL):=fun v objs=>match v,objs with
 | .tup [],[.cells 65 [.one [.ptr 1 0 none 0,.i .u64 y0,.sl 2 0 y1 true]],.cells 84 [.arr .i8 81 y2,.arr .i8 16 y3,.one [.i .i8 y4],.rows [.i .u64,.i .u64] 32 y5,.rows [.i .u64,.i .u64] 2 y6],.sli 125 false (.rows [.i .i64,.i .i64,.i .i64,.b,.i .i8,.i .i8] y7 y8)]=>some (y0,y1,y2,y3,y4,y5,y6,y7,y8)
 | _,_=>none
theorem qfE (x0 x1 x2:Int) (x3:Nat) (x4 x5:LI) (x6:Int) (x7 x8:LL) (x9:Nat) (x10:LL):fnE qTs Tryz.f85 ([.s (.ptr 0 0 none 0),.s (.i .i64 x0),.s (.i .i8 x1)]) ([.cells 65 [.one [.ptr 1 0 none 0,.i .u64 x2,.sl 2 0 x3 true]],.cells 84 [.arr .i8 81 x4,.arr .i8 16 x5,.one [.i .i8 x6],.rows [.i .u64,.i .u64] 32 x7,.rows [.i .u64,.i .u64] 2 x8],.sli 125 false (.rows [.i .i64,.i .i64,.i .i64,.b,.i .i8,.i .i8] x9 x10)]) qTt=qBI x0 x1 x2 x3 x4 x5 x6 x7 x8 x9 x10:=by kernel_rfl
def qTr:HA:=fun o vs objs K=>match vs,objs with
 | [.s (.ptr 0 0 none 0),.s (.i .i64 x0),.s (.i .i8 x1)],[.cells 65 [.one [.ptr 1 0 none 0,.i .u64 x2,.sl 2 0 x3 true]],.cells 84 [.arr .i8 81 x4,.arr .i8 16 x5,.one [.i .i8 x6],.rows [.i .u64,.i .u64] 32 x7,.rows [.i .u64,.i .u64] 2 x8],.sli 125 false (.rows [.i .i64,.i .i64,.i .i64,.b,.i .i8,.i .i8] x9 x10)]=>ob (qBI x0 x1 x2 x3 x4 x5 x6 x7 x8 x9 x10) fun z=>K false (.tup []) ([.cells 65 [.one [.ptr 1 0 none 0,.i .u64 (z.1),.sl 2 0 (z.2.1) true]],.cells 84 [.arr .i8 81 (z.2.2.1),.arr .i8 16 (z.2.2.2.1),.one [.i .i8 (z.2.2.2.2.1)],.rows [.i .u64,.i .u64] 32 (z.2.2.2.2.2.1),.rows [.i .u64,.i .u64] 2 (z.2.2.2.2.2.2.1)],.sli 125 false (.rows [.i .i64,.i .i64,.i .i64,.b,.i .i8,.i .i8] (z.2.2.2.2.2.2.2.1) (z.2.2.2.2.2.2.2.2))])
 | _,_=>o 85 vs objs K
def qNF (o:Orc):Orc:=qR 85 (qTr o) o
theorem qTu:OQ Tryz.prog qNF:=fun _ ho=>qS ho fun vs objs K r h=>by
 unfold qTr at h
 split at h
 ·skip
  obtain⟨t,h1,h2⟩:=qG h
  refine qa mixed qfF ((qfE _ _ _ _ _ _ _ _ _ _ _).trans h1) (by kernel_rfl) fun v objs' hd=>?_
  unfold qTt at hd;split at hd;(cases hd;exact h2);cases hd
 ·exact ho _ _ _ _ _ h
def qTw:Ctx:=mkC 26 ((qN6 qO)) [] qW
theorem qfH:CtxOK Tryz.prog qTw:=mkC_ok ((qVM _ qP))
def qTx:V->List Obj->Option (Int×Nat×LI×LI×Int×LL×LL×Nat×LL):=fun v objs=>match v,objs with
 | .tup [],[.cells 65 [.one [.ptr 1 0 none 0,.i .u64 y0,.sl 2 0 y1 true]],.cells 84 [.arr .i8 81 y2,.arr .i8 16 y3,.one [.i .i8 y4],.rows [.i .u64,.i .u64] 32 y5,.rows [.i .u64,.i .u64] 2 y6],.sli 125 false (.rows [.i .i64,.i .i64,.i .i64,.b,.i .i8,.i .i8] y7 y8)]=>some (y0,y1,y2,y3,y4,y5,y6,y7,y8)
 | _,_=>none
theorem qfG (x0:Int) (x1:Nat) (x2 x3:LI) (x4:Int) (x5 x6:LL) (x7:Nat) (x8:LL):fnE qTw Tryz.f88 ([.s (.ptr 0 0 none 0)]) ([.cells 65 [.one [.ptr 1 0 none 0,.i .u64 x0,.sl 2 0 x1 true]],.cells 84 [.arr .i8 81 x2,.arr .i8 16 x3,.one [.i .i8 x4],.rows [.i .u64,.i .u64] 32 x5,.rows [.i .u64,.i .u64] 2 x6],.sli 125 false (.rows [.i .i64,.i .i64,.i .i64,.b,.i .i8,.i .i8] x7 x8)]) qTx=qB8 x0 x1 x2 x3 x4 x5 x6 x7 x8:=by kernel_rfl
def qTv:HA:=fun o vs objs K=>match vs,objs with
 | [.s (.ptr 0 0 none 0)],[.cells 65 [.one [.ptr 1 0 none 0,.i .u64 x0,.sl 2 0 x1 true]],.cells 84 [.arr .i8 81 x2,.arr .i8 16 x3,.one [.i .i8 x4],.rows [.i .u64,.i .u64] 32 x5,.rows [.i .u64,.i .u64] 2 x6],.sli 125 false (.rows [.i .i64,.i .i64,.i .i64,.b,.i .i8,.i .i8] x7 x8)]=>ob (qB8 x0 x1 x2 x3 x4 x5 x6 x7 x8) fun z=>K false (.tup []) ([.cells 65 [.one [.ptr 1 0 none 0,.i .u64 (z.1),.sl 2 0 (z.2.1) true]],.cells 84 [.arr .i8 81 (z.2.2.1),.arr .i8 16 (z.2.2.2.1),.one [.i .i8 (z.2.2.2.2.1)],.rows [.i .u64,.i .u64] 32 (z.2.2.2.2.2.1),.rows [.i .u64,.i .u64] 2 (z.2.2.2.2.2.2.1)],.sli 125 false (.rows [.i .i64,.i .i64,.i .i64,.b,.i .i8,.i .i8] (z.2.2.2.2.2.2.2.1) (z.2.2.2.2.2.2.2.2))])
 | _,_=>o 88 vs objs K
def qNG (o:Orc):Orc:=qR 88 (qTv o) o
theorem qTy:OQ Tryz.prog qNG:=fun _ ho=>qS ho fun vs objs K r h=>by
 unfold qTv at h
 split at h
 ·skip
  obtain⟨t,h1,h2⟩:=qG h
  refine qa mixed qfH ((qfG _ _ _ _ _ _ _ _ _).trans h1) (by kernel_rfl) fun v objs' hd=>?_
  unfold qTx at hd;split at hd;(cases hd;exact h2);cases hd
 ·exact ho _ _ _ _ _ h
def qWy:Ctx:=mkC 13 ((qF3 qO)) [] qW
theorem qjn:CtxOK Tryz.prog qWy:=mkC_ok ((qHZ _ qP))
def qWz:V->List Obj->Option (Int):=fun v objs=>match v,objs with
 | .s (.i .i64 y0),[]=>some (y0)
 | _,_=>none
theorem qjm (x0:Int):fnE qWy Tryz.f87 ([.s (.i .i64 x0)]) ([]) qWz=qDd x0:=by kernel_rfl
def qWx:HA:=fun o vs objs K=>match vs,objs with
 | [.s (.i .i64 x0)],[]=>ob (qDd x0) fun y0=>K false (.s (.i .i64 y0)) ([])
 | _,_=>o 87 vs objs K
def qO4 (o:Orc):Orc:=qR 87 (qWx o) o
theorem qW0:OQ Tryz.prog qO4:=fun _ ho=>qS ho fun vs objs K r h=>by
 unfold qWx at h
 split at h
 ·skip
  obtain⟨t,h1,h2⟩:=qG h
  refine qa mixed qjn ((qjm _).trans h1) (by kernel_rfl) fun v objs' hd=>?_
  unfold qWz at hd;split at hd;(cases hd;exact h2);cases hd
 ·exact ho _ _ _ _ _ h
def qTk:Ctx:=mkC 97 ((qO4 (qK7 (qCs (qNG (qNF (qNE (qF3 (qFl (qTi qO)))))))))) [] qW
theorem qfB:CtxOK Tryz.prog qTk:=mkC_ok ((qW0 _ (qO5 _ (qC3 _ (qTy _ (qTu _ (qTq _ (qHZ _ (qGn _ (qe9 _ qP))))))))))
def qTl:V->List Obj->Option ((Bool×Int×Nat×LI×LI×Int×LL×LL×Nat×LL)⊕(Bool×Int×Nat×LI×LI×Int×LL×LL×Nat×LL)):=fun v objs=>match v,objs with
 | .s (.b y0),[.cells 65 [.one [.ptr 1 0 none 0,.i .u64 y1,.sl 2 0 y2 true]],.cells 84 [.arr .i8 81 y3,.arr .i8 16 y4,.one [.i .i8 y5],.rows [.i .u64,.i .u64] 32 y6,.rows [.i .u64,.i .u64] 2 y7],.sli 125 false (.rows [.i .i64,.i .i64,.i .i64,.b,.i .i8,.i .i8] y8 y9)]=>some (.inl (y0,y1,y2,y3,y4,y5,y6,y7,y8,y9))
 | .s (.b y0),[.cells 65 [.one [.ptr 1 0 none 0,.i .u64 y1,.sl 3 0 y2 true]],.cells 84 [.arr .i8 81 y3,.arr .i8 16 y4,.one [.i .i8 y5],.rows [.i .u64,.i .u64] 32 y6,.rows [.i .u64,.i .u64] 2 y7],Obj.dead,.sli 125 false (.rows [.i .i64,.i .i64,.i .i64,.b,.i .i8,.i .i8] y8 y9)]=>some (.inr (y0,y1,y2,y3,y4,y5,y6,y7,y8,y9))
 | _,_=>none
theorem qfA (x0 x1 x2:Int) (x3:Bool) (x4:Int) (x5:Nat) (x6 x7:LI) (x8:Int) (x9 x10:LL) (x11:Nat) (x12:LL):fnE qTk Tryz.f34 ([.s (.ptr 0 0 none 0),.agg [.one [.i .i64 x0,.i .i64 x1,.i .i64 x2,.b x3]]]) ([.cells 65 [.one [.ptr 1 0 none 0,.i .u64 x4,.sl 2 0 x5 true]],.cells 84 [.arr .i8 81 x6,.arr .i8 16 x7,.one [.i .i8 x8],.rows [.i .u64,.i .u64] 32 x9,.rows [.i .u64,.i .u64] 2 x10],.sli 125 false (.rows [.i .i64,.i .i64,.i .i64,.b,.i .i8,.i .i8] x11 x12)]) qTl=qCO x0 x1 x2 x3 x4 x5 x6 x7 x8 x9 x10 x11 x12:=by kernel_rfl
def qTj:HA:=fun o vs objs K=>match vs,objs with
 | [.s (.ptr 0 0 none 0),.agg [.one [.i .i64 x0,.i .i64 x1,.i .i64 x2,.b x3]]],[.cells 65 [.one [.ptr 1 0 none 0,.i .u64 x4,.sl 2 0 x5 true]],.cells 84 [.arr .i8 81 x6,.arr .i8 16 x7,.one [.i .i8 x8],.rows [.i .u64,.i .u64] 32 x9,.rows [.i .u64,.i .u64] 2 x10],.sli 125 false (.rows [.i .i64,.i .i64,.i .i64,.b,.i .i8,.i .i8] x11 x12)]=>ob (qCO x0 x1 x2 x3 x4 x5 x6 x7 x8 x9 x10 x11 x12) fun t0=>sw t0 (fun z=>K false (.s (.b (z.1))) ([.cells 65 [.one [.ptr 1 0 none 0,.i .u64 (z.2.1),.sl 2 0 (z.2.2.1) true]],.cells 84 [.arr .i8 81 (z.2.2.2.1),.arr .i8 16 (z.2.2.2.2.1),.one [.i .i8 (z.2.2.2.2.2.1)],.rows [.i .u64,.i .u64] 32 (z.2.2.2.2.2.2.1),.rows [.i .u64,.i .u64] 2 (z.2.2.2.2.2.2.2.1)],.sli 125 false (.rows [.i .i64,.i .i64,.i .i64,.b,.i .i8,.i .i8] (z.2.2.2.2.2.2.2.2.1) (z.2.2.2.2.2.2.2.2.2))])) (fun z=>K false (.s (.b (z.1))) ([.cells 65 [.one [.ptr 1 0 none 0,.i .u64 (z.2.1),.sl 3 0 (z.2.2.1) true]],.cells 84 [.arr .i8 81 (z.2.2.2.1),.arr .i8 16 (z.2.2.2.2.1),.one [.i .i8 (z.2.2.2.2.2.1)],.rows [.i .u64,.i .u64] 32 (z.2.2.2.2.2.2.1),.rows [.i .u64,.i .u64] 2 (z.2.2.2.2.2.2.2.1)],Obj.dead,.sli 125 false (.rows [.i .i64,.i .i64,.i .i64,.b,.i .i8,.i .i8] (z.2.2.2.2.2.2.2.2.1) (z.2.2.2.2.2.2.2.2.2))]))
 | _,_=>o 34 vs objs K
def qND (o:Orc):Orc:=qR 34 (qTj o) o
theorem qTm:OQ Tryz.prog qND:=fun _ ho=>qS ho fun vs objs K r h=>by
 unfold qTj at h
 split at h
 ·skip
  obtain⟨t,h1,h2⟩:=qG h
  refine qa mixed qfB ((qfA _ _ _ _ _ _ _ _ _ _ _ _ _).trans h1) (by kernel_rfl) fun v objs' hd=>?_
  unfold qTl at hd
  split at hd
  ·skip
   cases hd
   exact h2
  ·skip
   cases hd
   exact h2
  ·cases hd
 ·exact ho _ _ _ _ _ h
def qbo:Ctx:=mkC 27 ((qRZ qO)) [] qW
theorem qox:CtxOK Tryz.prog qbo:=mkC_ok ((qby _ qP))
def qbp:V->List Obj->Option (Nat×Int×Nat×LL):=fun v objs=>match v,objs with
 | .tup [],[.cells 104 [.one [.sl 1 0 y0 true,.i .i64 y1]],.sli 135 false (.rows kk0 y2 y3)]=>bif decide (kk0=kL0) then some (y0,y1,y2,y3) else none
 | _,_=>none
theorem qow (x0 x1:LI) (x2 x3:Int) (x4 x5:Int) (x6 x7 x8:Int) (x9:Bool) (x10:Nat) (x11:Int) (x12:Nat) (x13:LL):fnE qbo Tryz.f50 ([.s (.ptr 0 0 none 0),.agg [.arr .i8 81 x0,.arr .i8 16 x1,.one [.i .i8 x2]],.agg [.one [.i .i64 x3,.i .i64 x4,.i .i64 x5,.i .i64 x6,.i .i64 x7,.i .i64 x8,.b x9]]]) ([.cells 104 [.one [.sl 1 0 x10 true,.i .i64 x11]],.sli 135 false (.rows kL0 x12 x13)]) qbp=qj x0 x1 x2 x3 x4 x5 x6 x7 x8 x9 x10 x11 x12 x13:=by kernel_rfl
def qbn:HA:=fun o vs objs K=>match vs,objs with
 | [.s (.ptr 0 0 none 0),.agg [.arr .i8 81 x0,.arr .i8 16 x1,.one [.i .i8 x2]],.agg [.one [.i .i64 x3,.i .i64 x4,.i .i64 x5,.i .i64 x6,.i .i64 x7,.i .i64 x8,.b x9]]],[.cells 104 [.one [.sl 1 0 x10 true,.i .i64 x11]],.sli 135 false (.rows kk0 x12 x13)]=>bif decide (kk0=kL0) then ob (qj x0 x1 x2 x3 x4 x5 x6 x7 x8 x9 x10 x11 x12 x13) fun z=>K false (.tup []) ([.cells 104 [.one [.sl 1 0 (z.1) true,.i .i64 (z.2.1)]],.sli 135 false (.rows kL0 (z.2.2.1) (z.2.2.2))]) else none
 | _,_=>o 50 vs objs K
def qbq (o:Orc):Orc:=qR 50 (qbn o) o
theorem qoy:OQ Tryz.prog qbq:=fun _ ho=>qS ho fun vs objs K r h=>by
 unfold qbn at h
 split at h
 ·skip
  have g:=(qU h).1
  replace h:=(qU h).2
  obtain rfl:=of_decide_eq_true g
  obtain⟨t,h1,h2⟩:=qG h
  refine qa mixed qox ((qow _ _ _ _ _ _ _ _ _ _ _ _ _ _).trans h1) (by kernel_rfl) fun v objs' hd=>?_
  unfold qbp at hd
  split at hd
  ·skip
   have g:=(qU hd).1
   replace hd:=(qU hd).2
   obtain rfl:=of_decide_eq_true g
   cases hd
   exact h2
  ·cases hd
 ·exact ho _ _ _ _ _ h
def qTc:Ctx:=mkC 87 ((qO4 (qCs (qNE (qNF (qNG qO)))))) [] qW
theorem qe5:CtxOK Tryz.prog qTc:=mkC_ok ((qW0 _ (qC3 _ (qTq _ (qTu _ (qTy _ qP))))))
def qTd:V->List Obj->Option (Bool×Int×Nat×LI×LI×Int×LL×LL×Nat×LL):=fun v objs=>match v,objs with
 | .s (.b y0),[.cells 65 [.one [.ptr 1 0 none 0,.i .u64 y1,.sl 2 0 y2 true]],.cells 84 [.arr .i8 81 y3,.arr .i8 16 y4,.one [.i .i8 y5],.rows [.i .u64,.i .u64] 32 y6,.rows [.i .u64,.i .u64] 2 y7],.sli 125 false (.rows [.i .i64,.i .i64,.i .i64,.b,.i .i8,.i .i8] y8 y9)]=>some (y0,y1,y2,y3,y4,y5,y6,y7,y8,y9)
 | _,_=>none
theorem qe4 (x0:Int) (x1:Nat) (x2 x3:LI) (x4:Int) (x5 x6:LL) (x7:Nat) (x8:LL):fnE qTc Tryz.f49 ([.s (.ptr 0 0 none 0)]) ([.cells 65 [.one [.ptr 1 0 none 0,.i .u64 x0,.sl 2 0 x1 true]],.cells 84 [.arr .i8 81 x2,.arr .i8 16 x3,.one [.i .i8 x4],.rows [.i .u64,.i .u64] 32 x5,.rows [.i .u64,.i .u64] 2 x6],.sli 125 false (.rows [.i .i64,.i .i64,.i .i64,.b,.i .i8,.i .i8] x7 x8)]) qTd=qEB x0 x1 x2 x3 x4 x5 x6 x7 x8:=by kernel_rfl
def qTb:HA:=fun o vs objs K=>match vs,objs with
 | [.s (.ptr 0 0 none 0)],[.cells 65 [.one [.ptr 1 0 none 0,.i .u64 x0,.sl 2 0 x1 true]],.cells 84 [.arr .i8 81 x2,.arr .i8 16 x3,.one [.i .i8 x4],.rows [.i .u64,.i .u64] 32 x5,.rows [.i .u64,.i .u64] 2 x6],.sli 125 false (.rows [.i .i64,.i .i64,.i .i64,.b,.i .i8,.i .i8] x7 x8)]=>ob (qEB x0 x1 x2 x3 x4 x5 x6 x7 x8) fun z=>K false (.s (.b (z.1))) ([.cells 65 [.one [.ptr 1 0 none 0,.i .u64 (z.2.1),.sl 2 0 (z.2.2.1) true]],.cells 84 [.arr .i8 81 (z.2.2.2.1),.arr .i8 16 (z.2.2.2.2.1),.one [.i .i8 (z.2.2.2.2.2.1)],.rows [.i .u64,.i .u64] 32 (z.2.2.2.2.2.2.1),.rows [.i .u64,.i .u64] 2 (z.2.2.2.2.2.2.2.1)],.sli 125 false (.rows [.i .i64,.i .i64,.i .i64,.b,.i .i8,.i .i8] (z.2.2.2.2.2.2.2.2.1) (z.2.2.2.2.2.2.2.2.2))])
 | _,_=>o 49 vs objs K
def qTe (o:Orc):Orc:=qR 49 (qTb o) o
theorem qe6:OQ Tryz.prog qTe:=fun _ ho=>qS ho fun vs objs K r h=>by
 unfold qTb at h
 split at h
 ·skip
  obtain⟨t,h1,h2⟩:=qG h
  refine qa mixed qe5 ((qe4 _ _ _ _ _ _ _ _ _).trans h1) (by kernel_rfl) fun v objs' hd=>?_
  unfold qTd at hd;split at hd;(cases hd;exact h2);cases hd
 ·exact ho _ _ _ _ _ h
end
end Go.Kk.KkSR
