/- Printed by a tool of this project (KkGen): the program's functions come to the plain ones. -/
import Derived.Test.YtjckfjagajmekaaGreatDoorKkSRb
namespace Go.Kk.KkSR
noncomputable section
open Go.Proofs Go.Kk.Pl
set_option maxRecDepth 100000
set_option maxHeartbeats 4000000
def qNg:Ex->List V->List Obj->Option (Nat×LI×LI×Int×LL×LL×Int×Int×Int×Int×Bool×Nat×LL×List (LI×LI)):=fun e vs objs=>match e,vs,objs with
 | .exit 0,[.s (.ptr 0 0 none 0),.s (.ptr 1 0 none 0),.s (.sl 2 0 y0 true)],[.cells 84 [.arr .i8 81 y1,.arr .i8 16 y2,.one [.i .i8 y3],.rows [.i .u64,.i .u64] 32 y4,.rows [.i .u64,.i .u64] 2 y5],.cells 75 [.one [.ptr 0 0 none 0,.i .i64 y6,.i .i64 y7,.i .u64 y8,.i .u64 y9,.mp 3,.b y10]],.sli 41 false (.rows [.i .i64,.i .i64,.i .i64,.b] y11 y12),.map false true [.i .i64] [.i .u64,.i .u64] y13]=>some (y0,y1,y2,y3,y4,y5,y6,y7,y8,y9,y10,y11,y12,y13)
 | _,_,_=>none
def qNe:Ex->List V->List Obj->Option (Nat×LI×LI×Int×LL×LL×Nat×LL):=fun e vs objs=>match e,vs,objs with
 | .exit 2,[.s (.sl 1 0 y0 true)],[.cells 84 [.arr .i8 81 y1,.arr .i8 16 y2,.one [.i .i8 y3],.rows [.i .u64,.i .u64] 32 y4,.rows [.i .u64,.i .u64] 2 y5],.sli 41 false (.rows [.i .i64,.i .i64,.i .i64,.b] y6 y7)]=>some (y0,y1,y2,y3,y4,y5,y6,y7)
 | _,_,_=>none
def qNj:HL:=fun vs objs K=>match vs,objs with
 | [.s (.ptr 0 0 none 0),.s (.ptr 1 0 none 0),.s (.sl 2 0 x0 true),.s (.sl 3 0 x1 true),.s (.i .i64 x2),.s (.i .i64 x3)],[.cells 84 [.arr .i8 81 x4,.arr .i8 16 x5,.one [.i .i8 x6],.rows [.i .u64,.i .u64] 32 x7,.rows [.i .u64,.i .u64] 2 x8],.cells 75 [.one [.ptr 0 0 none 0,.i .i64 x9,.i .i64 x10,.i .u64 x11,.i .u64 x12,.mp 4,.b x13]],.sli 41 false (.rows [.i .i64,.i .i64,.i .i64,.b] x14 x15),.sli 41 false (.rows [.i .i64,.i .i64,.i .i64,.b] x16 x17),.map false true [.i .i64] [.i .u64,.i .u64] x18]=>ob (qEP qC x0 x1 x2 x3 x4 x5 x6 x7 x8 x9 x10 x11 x12 x13 x14 x15 x16 x17 x18) fun z=>K (.exit 0) ([.s (.ptr 0 0 none 0),.s (.ptr 1 0 none 0),.s (.sl 2 0 (z.1) true)]) ([.cells 84 [.arr .i8 81 (z.2.1),.arr .i8 16 (z.2.2.1),.one [.i .i8 (z.2.2.2.1)],.rows [.i .u64,.i .u64] 32 (z.2.2.2.2.1),.rows [.i .u64,.i .u64] 2 (z.2.2.2.2.2.1)],.cells 75 [.one [.ptr 0 0 none 0,.i .i64 (z.2.2.2.2.2.2.1),.i .i64 (z.2.2.2.2.2.2.2.1),.i .u64 (z.2.2.2.2.2.2.2.2.1),.i .u64 (z.2.2.2.2.2.2.2.2.2.1),.mp 3,.b (z.2.2.2.2.2.2.2.2.2.2.1)]],.sli 41 false (.rows [.i .i64,.i .i64,.i .i64,.b] (z.2.2.2.2.2.2.2.2.2.2.2.1) (z.2.2.2.2.2.2.2.2.2.2.2.2.1)),.map false true [.i .i64] [.i .u64,.i .u64] (z.2.2.2.2.2.2.2.2.2.2.2.2.2)])
 | _,_=>none
def qNi:HL:=fun vs objs K=>match vs,objs with
 | [.s (.ptr 0 0 none 0),.s (.sl 1 0 x0 true),.s (.sl 2 0 x1 true),.s (.i .i64 x2),.s (.i .i64 x3)],[.cells 84 [.arr .i8 81 x4,.arr .i8 16 x5,.one [.i .i8 x6],.rows [.i .u64,.i .u64] 32 x7,.rows [.i .u64,.i .u64] 2 x8],.sli 41 false (.rows [.i .i64,.i .i64,.i .i64,.b] x9 x10),.sli 41 false (.rows [.i .i64,.i .i64,.i .i64,.b] x11 x12)]=>ob (qDd qC x0 x1 x2 x3 x4 x5 x6 x7 x8 x9 x10 x11 x12) fun z=>K (.exit 2) ([.s (.sl 1 0 (z.1) true)]) ([.cells 84 [.arr .i8 81 (z.2.1),.arr .i8 16 (z.2.2.1),.one [.i .i8 (z.2.2.2.1)],.rows [.i .u64,.i .u64] 32 (z.2.2.2.2.1),.rows [.i .u64,.i .u64] 2 (z.2.2.2.2.2.1)],.sli 41 false (.rows [.i .i64,.i .i64,.i .i64,.b] (z.2.2.2.2.2.2.1) (z.2.2.2.2.2.2.2))])
 | _,_=>none
def qhA:{R:Type}->Nat->List V->List Obj->(Ex->List V->List Obj->Option R)->Option R:=fun q vs objs K=>bif Nat.beq q 4 then qNj vs objs K else bif Nat.beq q 10 then qNi vs objs K else none
def qGj:Ctx:=mkC 51 ((qU5 (qT9 (qNo (qM5 (qIw (qNn qH))))))) [(4,[0,3,4,13,14,15],[0,3,4]),(10,[0,4,30,31,32],[4])] qhA
theorem qNd:CtxOK Tryz.prog qGj:=mkC_ok ((qhG _ (qf3 _ (qVD _ (qT4 _ (qLB _ (qU9 _ qI)))))))
def qNh (f:Nat) (x0 x1:Nat) (x2 x3:Int) (x4 x5:LI) (x6:Int) (x7 x8:LL) (x9 x10:Int) (x11 x12:Int) (x13:Bool) (x14:Nat) (x15:LL) (x16:Nat) (x17:LL) (x18:List (LI×LI)):Option (Nat×LI×LI×Int×LL×LL×Int×Int×Int×Int×Bool×Nat×LL×List (LI×LI)):=qe qGj 1 [0,3,4,13,14,15] [0,3,4] (qF Tryz.f14 4) f ([.s (.ptr 0 0 none 0),.s (.ptr 1 0 none 0),.s (.sl 2 0 x0 true),.s (.sl 3 0 x1 true),.s (.i .i64 x2),.s (.i .i64 x3)]) ([.cells 84 [.arr .i8 81 x4,.arr .i8 16 x5,.one [.i .i8 x6],.rows [.i .u64,.i .u64] 32 x7,.rows [.i .u64,.i .u64] 2 x8],.cells 75 [.one [.ptr 0 0 none 0,.i .i64 x9,.i .i64 x10,.i .u64 x11,.i .u64 x12,.mp 4,.b x13]],.sli 41 false (.rows [.i .i64,.i .i64,.i .i64,.b] x14 x15),.sli 41 false (.rows [.i .i64,.i .i64,.i .i64,.b] x16 x17),.map false true [.i .i64] [.i .u64,.i .u64] x18]) qNg
theorem qg9 (f:Nat) (x0 x1:Nat) (x2 x3:Int) (x4 x5:LI) (x6:Int) (x7 x8:LL) (x9 x10:Int) (x11 x12:Int) (x13:Bool) (x14:Nat) (x15:LL) (x16:Nat) (x17:LL) (x18:List (LI×LI)):qNh (f+1) x0 x1 x2 x3 x4 x5 x6 x7 x8 x9 x10 x11 x12 x13 x14 x15 x16 x17 x18=qGl (qNh f) x0 x1 x2 x3 x4 x5 x6 x7 x8 x9 x10 x11 x12 x13 x14 x15 x16 x17 x18:=by kernel_rfl
theorem qU0:∀ f,qNh f=qEP f
 | 0=>rfl
 | f+1=>by funext x0 x1 x2 x3 x4 x5 x6 x7 x8 x9 x10 x11 x12 x13 x14 x15 x16 x17 x18;rw[qg9,qU0 f];rfl
def qNf (f:Nat) (x0 x1:Nat) (x2 x3:Int) (x4 x5:LI) (x6:Int) (x7 x8:LL) (x9:Nat) (x10:LL) (x11:Nat) (x12:LL):Option (Nat×LI×LI×Int×LL×LL×Nat×LL):=qe qGj 1 [0,4,30,31,32] [4] (qF Tryz.f14 10) f ([.s (.ptr 0 0 none 0),.s (.sl 1 0 x0 true),.s (.sl 2 0 x1 true),.s (.i .i64 x2),.s (.i .i64 x3)]) ([.cells 84 [.arr .i8 81 x4,.arr .i8 16 x5,.one [.i .i8 x6],.rows [.i .u64,.i .u64] 32 x7,.rows [.i .u64,.i .u64] 2 x8],.sli 41 false (.rows [.i .i64,.i .i64,.i .i64,.b] x9 x10),.sli 41 false (.rows [.i .i64,.i .i64,.i .i64,.b] x11 x12)]) qNe
theorem qg8 (f:Nat) (x0 x1:Nat) (x2 x3:Int) (x4 x5:LI) (x6:Int) (x7 x8:LL) (x9:Nat) (x10:LL) (x11:Nat) (x12:LL):qNf (f+1) x0 x1 x2 x3 x4 x5 x6 x7 x8 x9 x10 x11 x12=qGk (qNf f) x0 x1 x2 x3 x4 x5 x6 x7 x8 x9 x10 x11 x12:=by kernel_rfl
theorem qUz:∀ f,qNf f=qDd f
 | 0=>rfl
 | f+1=>by funext x0 x1 x2 x3 x4 x5 x6 x7 x8 x9 x10 x11 x12;rw[qg8,qUz f];rfl
theorem qhC:qc Tryz.prog qGj 1 (qF Tryz.f14 4):=
 qg mixed qNd (qP.of (l':=[]) (by kernel_rfl) trivial) (q:=4) (kin:=[0,3,4,13,14,15]) (kout:=[0,3,4]) (by kernel_rfl) (by kernel_rfl) fun vs objs K r h=>by
  replace h:qNj vs objs K=some r:=h
  unfold qNj at h
  split at h
  ·skip
   obtain⟨t,h1,h2⟩:=qD h
   rw[<- qU0] at h1
   refine⟨_,qNg,t,qC,h1,fun e vs' objs' hd=>?_⟩
   unfold qNg at hd;split at hd;(cases hd;exact h2);cases hd
  ·cases h
theorem qhB:qc Tryz.prog qGj 1 (qF Tryz.f14 10):=
 qg mixed qNd (qP.of (l':=[]) (by kernel_rfl) trivial) (q:=10) (kin:=[0,4,30,31,32]) (kout:=[4]) (by kernel_rfl) (by kernel_rfl) fun vs objs K r h=>by
  replace h:qNi vs objs K=some r:=h
  unfold qNi at h
  split at h
  ·skip
   obtain⟨t,h1,h2⟩:=qD h
   rw[<- qUz] at h1
   refine⟨_,qNe,t,qC,h1,fun e vs' objs' hd=>?_⟩
   unfold qNe at hd;split at hd;(cases hd;exact h2);cases hd
  ·cases h
def qUy:V->List Obj->Option (Nat×LI×LI×Int×LL×LL×Nat×LL):=fun v objs=>match v,objs with
 | .s (.sl 1 0 y0 true),[.cells 84 [.arr .i8 81 y1,.arr .i8 16 y2,.one [.i .i8 y3],.rows [.i .u64,.i .u64] 32 y4,.rows [.i .u64,.i .u64] 2 y5],.sli 41 false (.rows [.i .i64,.i .i64,.i .i64,.b] y6 y7)]=>some (y0,y1,y2,y3,y4,y5,y6,y7)
 | _,_=>none
theorem qg7 (x0 x1:LI) (x2:Int) (x3 x4:LL):fnE qGj Tryz.f14 ([.s (.ptr 0 0 none 0)]) ([.cells 84 [.arr .i8 81 x0,.arr .i8 16 x1,.one [.i .i8 x2],.rows [.i .u64,.i .u64] 32 x3,.rows [.i .u64,.i .u64] 2 x4]]) qUy=qDc x0 x1 x2 x3 x4:=by kernel_rfl
def qUx:HA:=fun o vs objs K=>match vs,objs with
 | [.s (.ptr 0 0 none 0)],[.cells 84 [.arr .i8 81 x0,.arr .i8 16 x1,.one [.i .i8 x2],.rows [.i .u64,.i .u64] 32 x3,.rows [.i .u64,.i .u64] 2 x4]]=>ob (qDc x0 x1 x2 x3 x4) fun z=>K false (.s (.sl 1 0 (z.1) true)) ([.cells 84 [.arr .i8 81 (z.2.1),.arr .i8 16 (z.2.2.1),.one [.i .i8 (z.2.2.2.1)],.rows [.i .u64,.i .u64] 32 (z.2.2.2.2.1),.rows [.i .u64,.i .u64] 2 (z.2.2.2.2.2.1)],.sli 41 false (.rows [.i .i64,.i .i64,.i .i64,.b] (z.2.2.2.2.2.2.1) (z.2.2.2.2.2.2.2))])
 | _,_=>o 14 vs objs K
def qIR (o:Orc):Orc:=qJ 14 (qUx o) o
theorem qJ5:OQ Tryz.prog qIR:=fun _ ho=>qK ho fun vs objs K r h=>by
 unfold qUx at h
 split at h
 ·skip
  obtain⟨t,h1,h2⟩:=qD h
  refine qAM mixed qNd (fn:=Tryz.f14) (b:=(Tryz.f14).body.getD .skip) (by kernel_rfl) (by kernel_rfl) (by kernel_rfl) ((qg7 _ _ _ _ _).trans h1) (m:=1) rfl (qP.of (l':=[qF Tryz.f14 4,qF Tryz.f14 10]) (by kernel_rfl) ⟨qhC,qhB,trivial⟩) fun v objs' hd=>?_
  unfold qUy at hd;split at hd;(cases hd;exact h2);cases hd
 ·exact ho _ _ _ _ _ h
def qcR:Ctx:=mkC 27 (qH) [] qS
theorem qpd:CtxOK Tryz.prog qcR:=mkC_ok (qI)
def qcS:V->List Obj->Option (Int):=fun v objs=>match v,objs with
 | .s (.i .i64 y0),[]=>some (y0)
 | _,_=>none
theorem qpc (x0:Int):fnE qcR Tryz.f96 ([.s (.i .i64 x0)]) ([]) qcS=qJD x0:=by kernel_rfl
def qcQ:HA:=fun o vs objs K=>match vs,objs with
 | [.s (.i .i64 x0)],[]=>ob (qJD x0) fun y0=>K false (.s (.i .i64 y0)) ([])
 | _,_=>o 96 vs objs K
def qRV (o:Orc):Orc:=qJ 96 (qcQ o) o
theorem qcT:OQ Tryz.prog qRV:=fun _ ho=>qK ho fun vs objs K r h=>by
 unfold qcQ at h
 split at h
 ·skip
  obtain⟨t,h1,h2⟩:=qD h
  refine qV mixed qpd ((qpc _).trans h1) (by kernel_rfl) fun v objs' hd=>?_
  unfold qcS at hd;split at hd;(cases hd;exact h2);cases hd
 ·exact ho _ _ _ _ _ h
def qcV:Ctx:=mkC 8 (qH) [] qS
theorem qpf:CtxOK Tryz.prog qcV:=mkC_ok (qI)
def qcW:V->List Obj->Option (Int):=fun v objs=>match v,objs with
 | .s (.i .i64 y0),[]=>some (y0)
 | _,_=>none
theorem qpe (x0:Int):fnE qcV Tryz.f119 ([.s (.i .i64 x0)]) ([]) qcW=qLn x0:=by kernel_rfl
def qcU:HA:=fun o vs objs K=>match vs,objs with
 | [.s (.i .i64 x0)],[]=>ob (qLn x0) fun y0=>K false (.s (.i .i64 y0)) ([])
 | _,_=>o 119 vs objs K
def qcX (o:Orc):Orc:=qJ 119 (qcU o) o
theorem qpg:OQ Tryz.prog qcX:=fun _ ho=>qK ho fun vs objs K r h=>by
 unfold qcU at h
 split at h
 ·skip
  obtain⟨t,h1,h2⟩:=qD h
  refine qV mixed qpf ((qpe _).trans h1) (by kernel_rfl) fun v objs' hd=>?_
  unfold qcW at hd;split at hd;(cases hd;exact h2);cases hd
 ·exact ho _ _ _ _ _ h
def qcZ:Ctx:=mkC 20 ((qLJ (qcX (qLD qH)))) [] qS
theorem qpi:CtxOK Tryz.prog qcZ:=mkC_ok ((qQY _ (qpg _ (qQP _ qI))))
def qca:V->List Obj->Option (Int):=fun v objs=>match v,objs with
 | .s (.i .i64 y0),[]=>some (y0)
 | _,_=>none
theorem qph (x0:Int):fnE qcZ Tryz.f97 ([.s (.i .i64 x0)]) ([]) qca=qRW x0:=by kernel_rfl
def qcY:HA:=fun o vs objs K=>match vs,objs with
 | [.s (.i .i64 x0)],[]=>ob (qRW x0) fun y0=>K false (.s (.i .i64 y0)) ([])
 | _,_=>o 97 vs objs K
def qcb (o:Orc):Orc:=qJ 97 (qcY o) o
theorem qpj:OQ Tryz.prog qcb:=fun _ ho=>qK ho fun vs objs K r h=>by
 unfold qcY at h
 split at h
 ·skip
  obtain⟨t,h1,h2⟩:=qD h
  refine qV mixed qpi ((qph _).trans h1) (by kernel_rfl) fun v objs' hd=>?_
  unfold qca at hd;split at hd;(cases hd;exact h2);cases hd
 ·exact ho _ _ _ _ _ h
def qcE:Ctx:=mkC 15 ((qRV qH)) [] qS
theorem qpS:CtxOK Tryz.prog qcE:=mkC_ok ((qcT _ qI))
def qcF:V->List Obj->Option (Int):=fun v objs=>match v,objs with
 | .s (.i .i64 y0),[]=>some (y0)
 | _,_=>none
theorem qpR (x0:Int):fnE qcE Tryz.f98 ([.s (.i .i64 x0)]) ([]) qcF=qRK x0:=by kernel_rfl
def qcD:HA:=fun o vs objs K=>match vs,objs with
 | [.s (.i .i64 x0)],[]=>ob (qRK x0) fun y0=>K false (.s (.i .i64 y0)) ([])
 | _,_=>o 98 vs objs K
def qcG (o:Orc):Orc:=qJ 98 (qcD o) o
theorem qpT:OQ Tryz.prog qcG:=fun _ ho=>qK ho fun vs objs K r h=>by
 unfold qcD at h
 split at h
 ·skip
  obtain⟨t,h1,h2⟩:=qD h
  refine qV mixed qpS ((qpR _).trans h1) (by kernel_rfl) fun v objs' hd=>?_
  unfold qcF at hd;split at hd;(cases hd;exact h2);cases hd
 ·exact ho _ _ _ _ _ h
def qRP:Ex->List V->List Obj->Option (LI×LI×Int×LI):=fun e vs objs=>match e,vs,objs with
 | .exit 0,[.s (.ptr 0 0 none 0),.s (.ptr 1 0 none 0)],[.cells 29 [.arr .i8 81 y0,.arr .i8 16 y1,.one [.i .i8 y2]],.cells 131 [.arr .i64 2 y3]]=>some (y0,y1,y2,y3)
 | _,_,_=>none
def qRN:Ex->List V->List Obj->Option (LI×Int×LI×LI×Int×LI):=fun e vs objs=>match e,vs,objs with
 | .exit 4,[.s (.ptr 0 0 none 0),.s (.ptr 1 0 none 0),.agg [.arr .i8 16 y0],.s (.i .i64 y1)],[.cells 29 [.arr .i8 81 y2,.arr .i8 16 y3,.one [.i .i8 y4]],.cells 131 [.arr .i64 2 y5]]=>some (y0,y1,y2,y3,y4,y5)
 | _,_,_=>none
def qRL:Ex->List V->List Obj->Option (LI×LI×Int×LI):=fun e vs objs=>match e,vs,objs with
 | .exit 2,[.s (.ptr 0 0 none 0),.s (.ptr 1 0 none 0)],[.cells 29 [.arr .i8 81 y0,.arr .i8 16 y1,.one [.i .i8 y2]],.cells 131 [.arr .i64 2 y3]]=>some (y0,y1,y2,y3)
 | _,_,_=>none
def qRU:HL:=fun vs objs K=>match vs,objs with
 | [.s (.ptr 0 0 none 0),.s (.ptr 1 0 none 0),.agg [.arr .i8 81 x0],.s (.i .i64 x1)],[.cells 29 [.arr .i8 81 x2,.arr .i8 16 x3,.one [.i .i8 x4]],.cells 131 [.arr .i64 2 x5]]=>ob (qLm qC x0 x1 x2 x3 x4 x5) fun z=>K (.exit 0) ([.s (.ptr 0 0 none 0),.s (.ptr 1 0 none 0)]) ([.cells 29 [.arr .i8 81 (z.1),.arr .i8 16 (z.2.1),.one [.i .i8 (z.2.2.1)]],.cells 131 [.arr .i64 2 (z.2.2.2)]])
 | _,_=>none
def qRT:HL:=fun vs objs K=>match vs,objs with
 | [.s (.ptr 0 0 none 0),.s (.ptr 1 0 none 0),.s (.i .i64 x0),.agg [.arr .i8 16 x1],.s (.i .i64 x2),.agg [.arr .i8 8 x3],.s (.i .i64 x4)],[.cells 29 [.arr .i8 81 x5,.arr .i8 16 x6,.one [.i .i8 x7]],.cells 131 [.arr .i64 2 x8]]=>ob (qLl qC x0 x1 x2 x3 x4 x5 x6 x7 x8) fun z=>K (.exit 4) ([.s (.ptr 0 0 none 0),.s (.ptr 1 0 none 0),.agg [.arr .i8 16 (z.1)],.s (.i .i64 (z.2.1))]) ([.cells 29 [.arr .i8 81 (z.2.2.1),.arr .i8 16 (z.2.2.2.1),.one [.i .i8 (z.2.2.2.2.1)]],.cells 131 [.arr .i64 2 (z.2.2.2.2.2)]])
 | _,_=>none
def qRS:HL:=fun vs objs K=>match vs,objs with
 | [.s (.ptr 0 0 none 0),.s (.ptr 1 0 none 0),.agg [.arr .i8 16 x0],.s (.i .i64 x1)],[.cells 29 [.arr .i8 81 x2,.arr .i8 16 x3,.one [.i .i8 x4]],.cells 131 [.arr .i64 2 x5]]=>ob (qLk qC x0 x1 x2 x3 x4 x5) fun z=>K (.exit 2) ([.s (.ptr 0 0 none 0),.s (.ptr 1 0 none 0)]) ([.cells 29 [.arr .i8 81 (z.1),.arr .i8 16 (z.2.1),.one [.i .i8 (z.2.2.1)]],.cells 131 [.arr .i64 2 (z.2.2.2)]])
 | _,_=>none
def qpY:{R:Type}->Nat->List V->List Obj->(Ex->List V->List Obj->Option R)->Option R:=fun q vs objs K=>bif Nat.beq q 3 then qRU vs objs K else bif Nat.beq q 13 then qRT vs objs K else bif Nat.beq q 10 then qRS vs objs K else none
def qE0:Ctx:=mkC 74 ((qcG (qcb (qRV (qCX (qES qH)))))) [(3,[1,3,12,13],[1,3]),(10,[1,3,39,40],[1,3]),(13,[1,3,7,39,40,44,45],[1,3,39,40])] qpY
theorem qLj:CtxOK Tryz.prog qE0:=mkC_ok ((qpT _ (qpj _ (qcT _ (qCi _ (qFW _ qI))))))
def qRQ (f:Nat) (x0:LI) (x1:Int) (x2 x3:LI) (x4:Int) (x5:LI):Option (LI×LI×Int×LI):=qe qE0 0 [1,3,12,13] [1,3] (qF Tryz.f45 3) f ([.s (.ptr 0 0 none 0),.s (.ptr 1 0 none 0),.agg [.arr .i8 81 x0],.s (.i .i64 x1)]) ([.cells 29 [.arr .i8 81 x2,.arr .i8 16 x3,.one [.i .i8 x4]],.cells 131 [.arr .i64 2 x5]]) qRP
theorem qpX (f:Nat) (x0:LI) (x1:Int) (x2 x3:LI) (x4:Int) (x5:LI):qRQ (f+1) x0 x1 x2 x3 x4 x5=qcO (qRQ f) x0 x1 x2 x3 x4 x5:=by kernel_rfl
theorem qcN:∀ f,qRQ f=qLm f
 | 0=>rfl
 | f+1=>by funext x0 x1 x2 x3 x4 x5;rw[qpX,qcN f];rfl
def qRO (f:Nat) (x0:Int) (x1:LI) (x2:Int) (x3:LI) (x4:Int) (x5 x6:LI) (x7:Int) (x8:LI):Option (LI×Int×LI×LI×Int×LI):=qe qE0 0 [1,3,7,39,40,44,45] [1,3,39,40] (qF Tryz.f45 13) f ([.s (.ptr 0 0 none 0),.s (.ptr 1 0 none 0),.s (.i .i64 x0),.agg [.arr .i8 16 x1],.s (.i .i64 x2),.agg [.arr .i8 8 x3],.s (.i .i64 x4)]) ([.cells 29 [.arr .i8 81 x5,.arr .i8 16 x6,.one [.i .i8 x7]],.cells 131 [.arr .i64 2 x8]]) qRN
theorem qpW (f:Nat) (x0:Int) (x1:LI) (x2:Int) (x3:LI) (x4:Int) (x5 x6:LI) (x7:Int) (x8:LI):qRO (f+1) x0 x1 x2 x3 x4 x5 x6 x7 x8=qcM (qRO f) x0 x1 x2 x3 x4 x5 x6 x7 x8:=by kernel_rfl
theorem qcL:∀ f,qRO f=qLl f
 | 0=>rfl
 | f+1=>by funext x0 x1 x2 x3 x4 x5 x6 x7 x8;rw[qpW,qcL f];rfl
def qRM (f:Nat) (x0:LI) (x1:Int) (x2 x3:LI) (x4:Int) (x5:LI):Option (LI×LI×Int×LI):=qe qE0 0 [1,3,39,40] [1,3] (qF Tryz.f45 10) f ([.s (.ptr 0 0 none 0),.s (.ptr 1 0 none 0),.agg [.arr .i8 16 x0],.s (.i .i64 x1)]) ([.cells 29 [.arr .i8 81 x2,.arr .i8 16 x3,.one [.i .i8 x4]],.cells 131 [.arr .i64 2 x5]]) qRL
theorem qpV (f:Nat) (x0:LI) (x1:Int) (x2 x3:LI) (x4:Int) (x5:LI):qRM (f+1) x0 x1 x2 x3 x4 x5=qcK (qRM f) x0 x1 x2 x3 x4 x5:=by kernel_rfl
theorem qcJ:∀ f,qRM f=qLk f
 | 0=>rfl
 | f+1=>by funext x0 x1 x2 x3 x4 x5;rw[qpV,qcJ f];rfl
theorem qpb:qc Tryz.prog qE0 0 (qF Tryz.f45 3):=
 qg mixed qLj (qP.of (l':=[]) (by kernel_rfl) trivial) (q:=3) (kin:=[1,3,12,13]) (kout:=[1,3]) (by kernel_rfl) (by kernel_rfl) fun vs objs K r h=>by
  replace h:qRU vs objs K=some r:=h
  unfold qRU at h
  split at h
  ·skip
   obtain⟨t,h1,h2⟩:=qD h
   rw[<- qcN] at h1
   refine⟨_,qRP,t,qC,h1,fun e vs' objs' hd=>?_⟩
   unfold qRP at hd;split at hd;(cases hd;exact h2);cases hd
  ·cases h
theorem qpa:qc Tryz.prog qE0 0 (qF Tryz.f45 13):=
 qg mixed qLj (qP.of (l':=[]) (by kernel_rfl) trivial) (q:=13) (kin:=[1,3,7,39,40,44,45]) (kout:=[1,3,39,40]) (by kernel_rfl) (by kernel_rfl) fun vs objs K r h=>by
  replace h:qRT vs objs K=some r:=h
  unfold qRT at h
  split at h
  ·skip
   obtain⟨t,h1,h2⟩:=qD h
   rw[<- qcL] at h1
   refine⟨_,qRN,t,qC,h1,fun e vs' objs' hd=>?_⟩
   unfold qRN at hd;split at hd;(cases hd;exact h2);cases hd
  ·cases h
theorem qpZ:qc Tryz.prog qE0 0 (qF Tryz.f45 10):=
 qg mixed qLj (qP.of (l':=[qF Tryz.f45 13]) (by kernel_rfl) ⟨qpa,trivial⟩) (q:=10) (kin:=[1,3,39,40]) (kout:=[1,3]) (by kernel_rfl) (by kernel_rfl) fun vs objs K r h=>by
  replace h:qRS vs objs K=some r:=h
  unfold qRS at h
  split at h
  ·skip
   obtain⟨t,h1,h2⟩:=qD h
   rw[<- qcJ] at h1
   refine⟨_,qRL,t,qC,h1,fun e vs' objs' hd=>?_⟩
   unfold qRL at hd;split at hd;(cases hd;exact h2);cases hd
  ·cases h
def qcI:V->List Obj->Option (Int):=fun v objs=>match v,objs with
 | .s (.i .i64 y0),[]=>some (y0)
 | _,_=>none
theorem qpU (x0 x1:LI) (x2:Int):fnE qE0 Tryz.f45 ([.agg [.arr .i8 81 x0,.arr .i8 16 x1,.one [.i .i8 x2]]]) ([]) qcI=qLi x0 x1 x2:=by kernel_rfl
def qcH:HA:=fun o vs objs K=>match vs,objs with
 | [.agg [.arr .i8 81 x0,.arr .i8 16 x1,.one [.i .i8 x2]]],[]=>ob (qLi x0 x1 x2) fun y0=>K false (.s (.i .i64 y0)) ([])
 | _,_=>o 45 vs objs K
def qRR (o:Orc):Orc:=qJ 45 (qcH o) o
theorem qcP:OQ Tryz.prog qRR:=fun _ ho=>qK ho fun vs objs K r h=>by
 unfold qcH at h
 split at h
 ·skip
  obtain⟨t,h1,h2⟩:=qD h
  refine qAM mixed qLj (fn:=Tryz.f45) (b:=(Tryz.f45).body.getD .skip) (by kernel_rfl) (by kernel_rfl) (by kernel_rfl) ((qpU _ _ _).trans h1) (m:=0) rfl (qP.of (l':=[qF Tryz.f45 3,qF Tryz.f45 10]) (by kernel_rfl) ⟨qpb,qpZ,trivial⟩) fun v objs' hd=>?_
  unfold qcI at hd;split at hd;(cases hd;exact h2);cases hd
 ·exact ho _ _ _ _ _ h
def qbw:Ctx:=mkC 19 (qH) [] qS
theorem qo7:CtxOK Tryz.prog qbw:=mkC_ok (qI)
def qbx:V->List Obj->Option (Empty):=fun v objs=>match v,objs with
 | _,_=>none
theorem qo6 (x0 x1:LI) (x2:Int):fnE qbw Tryz.f99 ([.s .nilp,.agg [.arr .i8 81 x0,.arr .i8 16 x1,.one [.i .i8 x2]]]) ([]) qbx=qRB x0 x1 x2:=by kernel_rfl
def qbv:HA:=fun o vs objs K=>match vs,objs with
 | [.s .nilp,.agg [.arr .i8 81 x0,.arr .i8 16 x1,.one [.i .i8 x2]]],[]=>ob (qRB x0 x1 x2) fun _=>none
 | _,_=>o 99 vs objs K
def qby (o:Orc):Orc:=qJ 99 (qbv o) o
theorem qo8:OQ Tryz.prog qby:=fun _ ho=>qK ho fun vs objs K r h=>by
 unfold qbv at h
 split at h
 ·skip
  obtain⟨t,h1,h2⟩:=qD h
  refine qV mixed qo7 ((qo6 _ _ _).trans h1) (by kernel_rfl) fun v objs' hd=>?_
  unfold qbx at hd
  split at hd
  ·cases hd
 ·exact ho _ _ _ _ _ h
def qbk:Ctx:=mkC 28 ((qby qH)) [] qS
theorem qoy:CtxOK Tryz.prog qbk:=mkC_ok ((qo8 _ qI))
def qbl:V->List Obj->Option (Empty):=fun v objs=>match v,objs with
 | _,_=>none
theorem qox (x0 x1:LI) (x2:Int):fnE qbk Tryz.f46 ([.s .nilp,.agg [.arr .i8 81 x0,.arr .i8 16 x1,.one [.i .i8 x2]]]) ([]) qbl=qRA x0 x1 x2:=by kernel_rfl
def qbj:HA:=fun o vs objs K=>match vs,objs with
 | [.s .nilp,.agg [.arr .i8 81 x0,.arr .i8 16 x1,.one [.i .i8 x2]]],[]=>ob (qRA x0 x1 x2) fun _=>none
 | _,_=>o 46 vs objs K
def qbm (o:Orc):Orc:=qJ 46 (qbj o) o
theorem qoz:OQ Tryz.prog qbm:=fun _ ho=>qK ho fun vs objs K r h=>by
 unfold qbj at h
 split at h
 ·skip
  obtain⟨t,h1,h2⟩:=qD h
  refine qV mixed qoy ((qox _ _ _).trans h1) (by kernel_rfl) fun v objs' hd=>?_
  unfold qbl at hd
  split at hd
  ·cases hd
 ·exact ho _ _ _ _ _ h
def qQL:Ctx:=mkC 217 ((qbm (qRR (qIR qH)))) [(25,[0,1,2,3,4,13,19,20,21,140,141,142],[0,1,2,3,4,10,11,12,13,19,20]),(1048601,[5],[])] qS
theorem qZl:CtxOK Tryz.prog qQL:=mkC_ok ((qoz _ (qcP _ (qJ5 _ qI))))
theorem qmx:qc Tryz.prog qQL 4 (qF Tryz.f20 25):=
 qg mixed qZl (qP.of (l':=[]) (by kernel_rfl) trivial) (q:=25) (kin:=[0,1,2,3,4,13,19,20,21,140,141,142]) (kout:=[0,1,2,3,4,10,11,12,13,19,20]) (by kernel_rfl) (by kernel_rfl) fun vs objs K r h=>by
  replace h:none=some r:=h
  cases h
def qZm:V->List Obj->Option (Int×Nat×Bool×Int×Int×Int×Nat×LI×LI×Int×LL×LL×Nat×LL×Nat×LL):=fun v objs=>match v,objs with
 | .tup [W.s (.i .i64 y0),W.s (.sl 4 0 y1 true),W.s (.b y2)],[.cells 60 [.one [.nilp,.ptr 1 0 none 0,.i .i64 y3,.i .i64 y4]],.cells 65 [.one [.ptr 2 0 none 0,.i .u64 y5,.sl 3 0 y6 true]],.cells 84 [.arr .i8 81 y7,.arr .i8 16 y8,.one [.i .i8 y9],.rows [.i .u64,.i .u64] 32 y10,.rows [.i .u64,.i .u64] 2 y11],.sli 125 false (.rows [.i .i64,.i .i64,.i .i64,.b,.i .i8,.i .i8] y12 y13),.sli 41 false (.rows [.i .i64,.i .i64,.i .i64,.b] y14 y15)]=>some (y0,y1,y2,y3,y4,y5,y6,y7,y8,y9,y10,y11,y12,y13,y14,y15)
 | _,_=>none
theorem qmn (x0 x1:Int) (x2 x3:Int) (x4 x5 x6:Int) (x7:Nat) (x8 x9:LI) (x10:Int) (x11 x12:LL) (x13:Nat) (x14:LL):fnE qQL Tryz.f20 ([.s (.ptr 0 0 none 0),.s (.i .i64 x0),.s (.i .i64 x1),.s (.i .i64 x2),.s (.i .i64 x3)]) ([.cells 60 [.one [.nilp,.ptr 1 0 none 0,.i .i64 x4,.i .i64 x5]],.cells 65 [.one [.ptr 2 0 none 0,.i .u64 x6,.sl 3 0 x7 true]],.cells 84 [.arr .i8 81 x8,.arr .i8 16 x9,.one [.i .i8 x10],.rows [.i .u64,.i .u64] 32 x11,.rows [.i .u64,.i .u64] 2 x12],.sli 125 false (.rows [.i .i64,.i .i64,.i .i64,.b,.i .i8,.i .i8] x13 x14)]) qZm=qQG x0 x1 x2 x3 x4 x5 x6 x7 x8 x9 x10 x11 x12 x13 x14:=by kernel_rfl
def qZk:HA:=fun o vs objs K=>match vs,objs with
 | [.s (.ptr 0 0 none 0),.s (.i .i64 x0),.s (.i .i64 x1),.s (.i .i64 x2),.s (.i .i64 x3)],[.cells 60 [.one [.nilp,.ptr 1 0 none 0,.i .i64 x4,.i .i64 x5]],.cells 65 [.one [.ptr 2 0 none 0,.i .u64 x6,.sl 3 0 x7 true]],.cells 84 [.arr .i8 81 x8,.arr .i8 16 x9,.one [.i .i8 x10],.rows [.i .u64,.i .u64] 32 x11,.rows [.i .u64,.i .u64] 2 x12],.sli 125 false (.rows [.i .i64,.i .i64,.i .i64,.b,.i .i8,.i .i8] x13 x14)]=>ob (qQG x0 x1 x2 x3 x4 x5 x6 x7 x8 x9 x10 x11 x12 x13 x14) fun z=>K false (.tup [W.s (.i .i64 (z.1)),W.s (.sl 4 0 (z.2.1) true),W.s (.b (z.2.2.1))]) ([.cells 60 [.one [.nilp,.ptr 1 0 none 0,.i .i64 (z.2.2.2.1),.i .i64 (z.2.2.2.2.1)]],.cells 65 [.one [.ptr 2 0 none 0,.i .u64 (z.2.2.2.2.2.1),.sl 3 0 (z.2.2.2.2.2.2.1) true]],.cells 84 [.arr .i8 81 (z.2.2.2.2.2.2.2.1),.arr .i8 16 (z.2.2.2.2.2.2.2.2.1),.one [.i .i8 (z.2.2.2.2.2.2.2.2.2.1)],.rows [.i .u64,.i .u64] 32 (z.2.2.2.2.2.2.2.2.2.2.1),.rows [.i .u64,.i .u64] 2 (z.2.2.2.2.2.2.2.2.2.2.2.1)],.sli 125 false (.rows [.i .i64,.i .i64,.i .i64,.b,.i .i8,.i .i8] (z.2.2.2.2.2.2.2.2.2.2.2.2.1) (z.2.2.2.2.2.2.2.2.2.2.2.2.2.1)),.sli 41 false (.rows [.i .i64,.i .i64,.i .i64,.b] (z.2.2.2.2.2.2.2.2.2.2.2.2.2.2.1) (z.2.2.2.2.2.2.2.2.2.2.2.2.2.2.2))])
 | _,_=>o 20 vs objs K
def qZn (o:Orc):Orc:=qJ 20 (qZk o) o
theorem qmw:OQ Tryz.prog qZn:=fun _ ho=>qK ho fun vs objs K r h=>by
 unfold qZk at h
 split at h
 ·skip
  obtain⟨t,h1,h2⟩:=qD h
  refine qAM mixed qZl (fn:=Tryz.f20) (b:=(Tryz.f20).body.getD .skip) (by kernel_rfl) (by kernel_rfl) (by kernel_rfl) ((qmn _ _ _ _ _ _ _ _ _ _ _ _ _ _ _).trans h1) (m:=4) rfl (qP.of (l':=[qF Tryz.f20 25]) (by kernel_rfl) ⟨qmx,trivial⟩) fun v objs' hd=>?_
  unfold qZm at hd;split at hd;(cases hd;exact h2);cases hd
 ·exact ho _ _ _ _ _ h
def qQC:Ex->List V->List Obj->Option (Int×Int×Int×Nat×Int×Int×Nat×Int×Bool×Int×Int×Nat×Nat×Int×Bool×LI×LI×Int×LL×LL×Nat×LL×Nat×LL×Nat×LL):=fun e vs objs=>match e,vs,objs with
 | .exit 0,[.s (.ptr 0 0 none 0),.s (.ptr 2 0 none 0),.s (.ptr 3 0 none 0)],[.cells 60 [.one [.nilp,.ptr 1 0 none 0,.i .i64 y0,.i .i64 y1]],.cells 65 [.one [.ptr 4 0 none 0,.i .u64 y2,.sl 5 0 y3 true]],.cells 38 [.one [.i .i64 y4,.i .i64 y5,.sl 6 0 y6 true,.i .i64 y7,.b y8]],.cells 38 [.one [.i .i64 y9,.i .i64 y10,.sl 7 y11 y12 false,.i .i64 y13,.b y14]],.cells 84 [.arr .i8 81 y15,.arr .i8 16 y16,.one [.i .i8 y17],.rows [.i .u64,.i .u64] 32 y18,.rows [.i .u64,.i .u64] 2 y19],.sli 125 false (.rows [.i .i64,.i .i64,.i .i64,.b,.i .i8,.i .i8] y20 y21),.sli 41 false (.rows [.i .i64,.i .i64,.i .i64,.b] y22 y23),.sli 41 false (.rows [.i .i64,.i .i64,.i .i64,.b] y24 y25)]=>some (y0,y1,y2,y3,y4,y5,y6,y7,y8,y9,y10,y11,y12,y13,y14,y15,y16,y17,y18,y19,y20,y21,y22,y23,y24,y25)
 | _,_,_=>none
def qQF:HL:=fun vs objs K=>match vs,objs with
 | [.s (.ptr 0 0 none 0),.s (.i .i64 x0),.s (.ptr 2 0 none 0),.s (.ptr 3 0 none 0),.s (.i .i64 x1)],[.cells 60 [.one [.nilp,.ptr 1 0 none 0,.i .i64 x2,.i .i64 x3]],.cells 65 [.one [.ptr 4 0 none 0,.i .u64 x4,.sl 5 0 x5 true]],.cells 38 [.one [.i .i64 x6,.i .i64 x7,.sl 6 0 x8 true,.i .i64 x9,.b x10]],.cells 38 [.one [.i .i64 x11,.i .i64 x12,.sl 7 x13 x14 false,.i .i64 x15,.b x16]],.cells 84 [.arr .i8 81 x17,.arr .i8 16 x18,.one [.i .i8 x19],.rows [.i .u64,.i .u64] 32 x20,.rows [.i .u64,.i .u64] 2 x21],.sli 125 false (.rows [.i .i64,.i .i64,.i .i64,.b,.i .i8,.i .i8] x22 x23),.sli 41 false (.rows [.i .i64,.i .i64,.i .i64,.b] x24 x25),.sli 41 false (.rows [.i .i64,.i .i64,.i .i64,.b] x26 x27)]=>ob (qK9 qC x0 x1 x2 x3 x4 x5 x6 x7 x8 x9 x10 x11 x12 x13 x14 x15 x16 x17 x18 x19 x20 x21 x22 x23 x24 x25 x26 x27) fun z=>K (.exit 0) ([.s (.ptr 0 0 none 0),.s (.ptr 2 0 none 0),.s (.ptr 3 0 none 0)]) ([.cells 60 [.one [.nilp,.ptr 1 0 none 0,.i .i64 (z.1),.i .i64 (z.2.1)]],.cells 65 [.one [.ptr 4 0 none 0,.i .u64 (z.2.2.1),.sl 5 0 (z.2.2.2.1) true]],.cells 38 [.one [.i .i64 (z.2.2.2.2.1),.i .i64 (z.2.2.2.2.2.1),.sl 6 0 (z.2.2.2.2.2.2.1) true,.i .i64 (z.2.2.2.2.2.2.2.1),.b (z.2.2.2.2.2.2.2.2.1)]],.cells 38 [.one [.i .i64 (z.2.2.2.2.2.2.2.2.2.1),.i .i64 (z.2.2.2.2.2.2.2.2.2.2.1),.sl 7 (z.2.2.2.2.2.2.2.2.2.2.2.1) (z.2.2.2.2.2.2.2.2.2.2.2.2.1) false,.i .i64 (z.2.2.2.2.2.2.2.2.2.2.2.2.2.1),.b (z.2.2.2.2.2.2.2.2.2.2.2.2.2.2.1)]],.cells 84 [.arr .i8 81 (z.2.2.2.2.2.2.2.2.2.2.2.2.2.2.2.1),.arr .i8 16 (z.2.2.2.2.2.2.2.2.2.2.2.2.2.2.2.2.1),.one [.i .i8 (z.2.2.2.2.2.2.2.2.2.2.2.2.2.2.2.2.2.1)],.rows [.i .u64,.i .u64] 32 (z.2.2.2.2.2.2.2.2.2.2.2.2.2.2.2.2.2.2.1),.rows [.i .u64,.i .u64] 2 (z.2.2.2.2.2.2.2.2.2.2.2.2.2.2.2.2.2.2.2.1)],.sli 125 false (.rows [.i .i64,.i .i64,.i .i64,.b,.i .i8,.i .i8] (z.2.2.2.2.2.2.2.2.2.2.2.2.2.2.2.2.2.2.2.2.1) (z.2.2.2.2.2.2.2.2.2.2.2.2.2.2.2.2.2.2.2.2.2.1)),.sli 41 false (.rows [.i .i64,.i .i64,.i .i64,.b] (z.2.2.2.2.2.2.2.2.2.2.2.2.2.2.2.2.2.2.2.2.2.2.1) (z.2.2.2.2.2.2.2.2.2.2.2.2.2.2.2.2.2.2.2.2.2.2.2.1)),.sli 41 false (.rows [.i .i64,.i .i64,.i .i64,.b] (z.2.2.2.2.2.2.2.2.2.2.2.2.2.2.2.2.2.2.2.2.2.2.2.2.1) (z.2.2.2.2.2.2.2.2.2.2.2.2.2.2.2.2.2.2.2.2.2.2.2.2.2))])
 | _,_=>none
def qml:{R:Type}->Nat->List V->List Obj->(Ex->List V->List Obj->Option R)->Option R:=fun q vs objs K=>bif Nat.beq q 8 then qQF vs objs K else none
def qK8:Ctx:=mkC 70 ((qZn (qIR (qMm qH)))) [(8,[0,2,8,9,11],[0,8,9]),(2097152,[60,0,1],[])] qml
theorem qZc:CtxOK Tryz.prog qK8:=mkC_ok ((qmw _ (qJ5 _ (qTU _ qI))))
def qQD (f:Nat) (x0 x1:Int) (x2 x3 x4:Int) (x5:Nat) (x6 x7:Int) (x8:Nat) (x9:Int) (x10:Bool) (x11 x12:Int) (x13 x14:Nat) (x15:Int) (x16:Bool) (x17 x18:LI) (x19:Int) (x20 x21:LL) (x22:Nat) (x23:LL) (x24:Nat) (x25:LL) (x26:Nat) (x27:LL):Option (Int×Int×Int×Nat×Int×Int×Nat×Int×Bool×Int×Int×Nat×Nat×Int×Bool×LI×LI×Int×LL×LL×Nat×LL×Nat×LL×Nat×LL):=qe qK8 1 [0,2,8,9,11] [0,8,9] (qF Tryz.f9 8) f ([.s (.ptr 0 0 none 0),.s (.i .i64 x0),.s (.ptr 2 0 none 0),.s (.ptr 3 0 none 0),.s (.i .i64 x1)]) ([.cells 60 [.one [.nilp,.ptr 1 0 none 0,.i .i64 x2,.i .i64 x3]],.cells 65 [.one [.ptr 4 0 none 0,.i .u64 x4,.sl 5 0 x5 true]],.cells 38 [.one [.i .i64 x6,.i .i64 x7,.sl 6 0 x8 true,.i .i64 x9,.b x10]],.cells 38 [.one [.i .i64 x11,.i .i64 x12,.sl 7 x13 x14 false,.i .i64 x15,.b x16]],.cells 84 [.arr .i8 81 x17,.arr .i8 16 x18,.one [.i .i8 x19],.rows [.i .u64,.i .u64] 32 x20,.rows [.i .u64,.i .u64] 2 x21],.sli 125 false (.rows [.i .i64,.i .i64,.i .i64,.b,.i .i8,.i .i8] x22 x23),.sli 41 false (.rows [.i .i64,.i .i64,.i .i64,.b] x24 x25),.sli 41 false (.rows [.i .i64,.i .i64,.i .i64,.b] x26 x27)]) qQC
theorem qmk (f:Nat) (x0 x1:Int) (x2 x3 x4:Int) (x5:Nat) (x6 x7:Int) (x8:Nat) (x9:Int) (x10:Bool) (x11 x12:Int) (x13 x14:Nat) (x15:Int) (x16:Bool) (x17 x18:LI) (x19:Int) (x20 x21:LL) (x22:Nat) (x23:LL) (x24:Nat) (x25:LL) (x26:Nat) (x27:LL):qQD (f+1) x0 x1 x2 x3 x4 x5 x6 x7 x8 x9 x10 x11 x12 x13 x14 x15 x16 x17 x18 x19 x20 x21 x22 x23 x24 x25 x26 x27=qZf (qQD f) x0 x1 x2 x3 x4 x5 x6 x7 x8 x9 x10 x11 x12 x13 x14 x15 x16 x17 x18 x19 x20 x21 x22 x23 x24 x25 x26 x27:=by kernel_rfl
theorem qZe:∀ f,qQD f=qK9 f
 | 0=>rfl
 | f+1=>by funext x0 x1 x2 x3 x4 x5 x6 x7 x8 x9 x10 x11 x12 x13 x14 x15 x16 x17 x18 x19 x20 x21 x22 x23 x24 x25 x26 x27;rw[qmk,qZe f];rfl
theorem qmm:qc Tryz.prog qK8 1 (qF Tryz.f9 8):=
 qg mixed qZc (qP.of (l':=[]) (by kernel_rfl) trivial) (q:=8) (kin:=[0,2,8,9,11]) (kout:=[0,8,9]) (by kernel_rfl) (by kernel_rfl) fun vs objs K r h=>by
  replace h:qQF vs objs K=some r:=h
  unfold qQF at h
  split at h
  ·skip
   obtain⟨t,h1,h2⟩:=qD h
   rw[<- qZe] at h1
   refine⟨_,qQC,t,qC,h1,fun e vs' objs' hd=>?_⟩
   unfold qQC at hd;split at hd;(cases hd;exact h2);cases hd
  ·cases h
def qZd:V->List Obj->Option ((Int×Int×Nat×Int×Bool×Int×Int×Nat×LL)⊕(Int×Int×Nat×Nat×Int×Bool×Int×Int×Nat×LL)):=fun v objs=>match v,objs with
 | .agg [.one [.i .i64 y0,.i .i64 y1,.sl 1 y2 y3 false,.i .i64 y4,.b y5]],[.cells 60 [.one [.nilp,.bad,.i .i64 y6,.i .i64 y7]],.sli 41 false (.rows [.i .i64,.i .i64,.i .i64,.b] y8 y9)]=>some (.inr (y0,y1,y2,y3,y4,y5,y6,y7,y8,y9))
 | _,_=>match v,objs with
 | .agg [.one [.i .i64 y0,.i .i64 y1,.sl 1 0 y2 true,.i .i64 y3,.b y4]],[.cells 60 [.one [.nilp,.bad,.i .i64 y5,.i .i64 y6]],.sli 41 false (.rows [.i .i64,.i .i64,.i .i64,.b] y7 y8)]=>some (.inl (y0,y1,y2,y3,y4,y5,y6,y7,y8))
 | _,_=>none
theorem qmf (x0 x1:LI) (x2 x3:Int) (x4 x5 x6:Int):fnE qK8 Tryz.f9 ([.s (.ptr 0 0 none 0),.agg [.arr .i8 81 x0,.arr .i8 16 x1,.one [.i .i8 x2]],.s (.i .i64 x3),.s (.i .i64 x4)]) ([.cells 60 [.one [.nilp,.bad,.i .i64 x5,.i .i64 x6]]]) qZd=qK6 x0 x1 x2 x3 x4 x5 x6:=by kernel_rfl
def qZb:HA:=fun o vs objs K=>match vs,objs with
 | [.s (.ptr 0 0 none 0),.agg [.arr .i8 81 x0,.arr .i8 16 x1,.one [.i .i8 x2]],.s (.i .i64 x3),.s (.i .i64 x4)],[.cells 60 [.one [.nilp,.bad,.i .i64 x5,.i .i64 x6]]]=>ob (qK6 x0 x1 x2 x3 x4 x5 x6) fun t0=>sw t0 (fun z=>K false (.agg [.one [.i .i64 (z.1),.i .i64 (z.2.1),.sl 1 0 (z.2.2.1) true,.i .i64 (z.2.2.2.1),.b (z.2.2.2.2.1)]]) ([.cells 60 [.one [.nilp,.bad,.i .i64 (z.2.2.2.2.2.1),.i .i64 (z.2.2.2.2.2.2.1)]],.sli 41 false (.rows [.i .i64,.i .i64,.i .i64,.b] (z.2.2.2.2.2.2.2.1) (z.2.2.2.2.2.2.2.2))])) (fun z=>K false (.agg [.one [.i .i64 (z.1),.i .i64 (z.2.1),.sl 1 (z.2.2.1) (z.2.2.2.1) false,.i .i64 (z.2.2.2.2.1),.b (z.2.2.2.2.2.1)]]) ([.cells 60 [.one [.nilp,.bad,.i .i64 (z.2.2.2.2.2.2.1),.i .i64 (z.2.2.2.2.2.2.2.1)]],.sli 41 false (.rows [.i .i64,.i .i64,.i .i64,.b] (z.2.2.2.2.2.2.2.2.1) (z.2.2.2.2.2.2.2.2.2))]))
 | _,_=>o 9 vs objs K
def qQE (o:Orc):Orc:=qJ 9 (qZb o) o
theorem qZg:OQ Tryz.prog qQE:=fun _ ho=>qK ho fun vs objs K r h=>by
 unfold qZb at h
 split at h
 ·skip
  obtain⟨t,h1,h2⟩:=qD h
  refine qAM mixed qZc (fn:=Tryz.f9) (b:=(Tryz.f9).body.getD .skip) (by kernel_rfl) (by kernel_rfl) (by kernel_rfl) ((qmf _ _ _ _ _ _ _).trans h1) (m:=1) rfl (qP.of (l':=[qF Tryz.f9 8]) (by kernel_rfl) ⟨qmm,trivial⟩) fun v objs' hd=>?_
  unfold qZd at hd
  split at hd
  ·skip
   cases hd
   exact h2
  ·skip
   split at hd
   ·skip
    cases hd
    exact h2
   ·skip
    cases hd
 ·exact ho _ _ _ _ _ h
def qb0:Ctx:=mkC 19 ((qNR qH)) [] qS
theorem qo9:CtxOK Tryz.prog qb0:=mkC_ok ((qUb _ qI))
def qb1:V->List Obj->Option (Nat):=fun v objs=>match v,objs with
 | .s (.ptr 1 0 (some (y0,1)) 0),[]=>some (y0)
 | _,_=>none
theorem qo5 (x0 x1:LI) (x2:Int) (x3:Nat) (x4:Int) (x5:Nat) (x6:LL):fnE qb0 Tryz.f99 ([.s (.ptr 0 0 none 0),.agg [.arr .i8 81 x0,.arr .i8 16 x1,.one [.i .i8 x2]]]) ([.rcells 104 [.one [.sl 1 0 x3 true,.i .i64 x4]],.sli 135 true (.rows kL0 x5 x6)]) (qAg 2 qb1)=qLd x0 x1 x2 x3 x4 x5 x6:=by kernel_rfl
def qbz:HA:=fun o vs objs K=>match vs,List.map Obj.toRO objs with
 | [.s (.ptr 0 0 none 0),.agg [.arr .i8 81 x0,.arr .i8 16 x1,.one [.i .i8 x2]]],[.rcells 104 [.one [.sl 1 0 x3 true,.i .i64 x4]],.sli 135 true (.rows kk0 x5 x6)]=>bif decide (kk0=kL0) then ob (qLd x0 x1 x2 x3 x4 x5 x6) fun y0=>K true (.s (.ptr 1 0 (some (y0,1)) 0)) ([]) else none
 | _,_=>o 99 vs objs K
def qRC (o:Orc):Orc:=qJ 99 (qbz o) o
theorem qb2:OQ Tryz.prog qRC:=fun _ ho=>qK ho fun vs objs K r h=>by
 unfold qbz at h
 split at h
 ·skip
  have g:=(qR h).1
  replace h:=(qR h).2
  obtain rfl:=of_decide_eq_true g
  have hq:List.map Obj.toRO objs=_:=(by rename_i hq;first | exact hq | assumption)
  obtain⟨t,h1,h2⟩:=qD h
  refine qAv mixed qo9 (m:=2) (fn:=Tryz.f99) (b:=(Tryz.f99).body.getD .skip) (by kernel_rfl) (by kernel_rfl) (by kernel_rfl) hq (by kernel_rfl) (by kernel_rfl) (qP.of (l':=[]) (by kernel_rfl) trivial) ((qo5 _ _ _ _ _ _ _).trans h1) fun v objs' hd=>?_
  unfold qb1 at hd;split at hd;(cases hd;exact h2);cases hd
 ·exact ho _ _ _ _ _ h
def qbo:Ctx:=mkC 28 ((qRC qH)) [] qS
theorem qo0:CtxOK Tryz.prog qbo:=mkC_ok ((qb2 _ qI))
def qbp:V->List Obj->Option (Int×Int×Int×Int×Int×Int×Bool×Bool):=fun v objs=>match v,objs with
 | .tup [W.agg [.one [.i .i64 y0,.i .i64 y1,.i .i64 y2,.i .i64 y3,.i .i64 y4,.i .i64 y5,.b y6]],W.s (.b y7)],[]=>some (y0,y1,y2,y3,y4,y5,y6,y7)
 | _,_=>none
theorem qow (x0 x1:LI) (x2:Int) (x3:Nat) (x4:Int) (x5:Nat) (x6:LL):fnE qbo Tryz.f46 ([.s (.ptr 0 0 none 0),.agg [.arr .i8 81 x0,.arr .i8 16 x1,.one [.i .i8 x2]]]) ([.rcells 104 [.one [.sl 1 0 x3 true,.i .i64 x4]],.sli 135 true (.rows kL0 x5 x6)]) (qAg 2 qbp)=qQ9 x0 x1 x2 x3 x4 x5 x6:=by kernel_rfl
def qbn:HA:=fun o vs objs K=>match vs,List.map Obj.toRO objs with
 | [.s (.ptr 0 0 none 0),.agg [.arr .i8 81 x0,.arr .i8 16 x1,.one [.i .i8 x2]]],[.rcells 104 [.one [.sl 1 0 x3 true,.i .i64 x4]],.sli 135 true (.rows kk0 x5 x6)]=>bif decide (kk0=kL0) then ob (qQ9 x0 x1 x2 x3 x4 x5 x6) fun z=>K true (.tup [W.agg [.one [.i .i64 (z.1),.i .i64 (z.2.1),.i .i64 (z.2.2.1),.i .i64 (z.2.2.2.1),.i .i64 (z.2.2.2.2.1),.i .i64 (z.2.2.2.2.2.1),.b (z.2.2.2.2.2.2.1)]],W.s (.b (z.2.2.2.2.2.2.2))]) ([]) else none
 | _,_=>o 46 vs objs K
def qbq (o:Orc):Orc:=qJ 46 (qbn o) o
theorem qo1:OQ Tryz.prog qbq:=fun _ ho=>qK ho fun vs objs K r h=>by
 unfold qbn at h
 split at h
 ·skip
  have g:=(qR h).1
  replace h:=(qR h).2
  obtain rfl:=of_decide_eq_true g
  have hq:List.map Obj.toRO objs=_:=(by rename_i hq;first | exact hq | assumption)
  obtain⟨t,h1,h2⟩:=qD h
  refine qAv mixed qo0 (m:=2) (fn:=Tryz.f46) (b:=(Tryz.f46).body.getD .skip) (by kernel_rfl) (by kernel_rfl) (by kernel_rfl) hq (by kernel_rfl) (by kernel_rfl) (qP.of (l':=[]) (by kernel_rfl) trivial) ((qow _ _ _ _ _ _ _).trans h1) fun v objs' hd=>?_
  unfold qbp at hd;split at hd;(cases hd;exact h2);cases hd
 ·exact ho _ _ _ _ _ h
def qZp:Ctx:=mkC 18 (qH) [] qS
theorem qmz:CtxOK Tryz.prog qZp:=mkC_ok (qI)
def qZq:V->List Obj->Option (Int):=fun v objs=>match v,objs with
 | .s (.i .i64 y0),[]=>some (y0)
 | _,_=>none
theorem qmy (x0 x1:Int):fnE qZp Tryz.f47 ([.s (.i .i64 x0),.s (.i .i64 x1)]) ([]) qZq=qBc x0 x1:=by kernel_rfl
def qZo:HA:=fun o vs objs K=>match vs,objs with
 | [.s (.i .i64 x0),.s (.i .i64 x1)],[]=>ob (qBc x0 x1) fun y0=>K false (.s (.i .i64 y0)) ([])
 | _,_=>o 47 vs objs K
def qZr (o:Orc):Orc:=qJ 47 (qZo o) o
theorem qm0:OQ Tryz.prog qZr:=fun _ ho=>qK ho fun vs objs K r h=>by
 unfold qZo at h
 split at h
 ·skip
  obtain⟨t,h1,h2⟩:=qD h
  refine qV mixed qmz ((qmy _ _).trans h1) (by kernel_rfl) fun v objs' hd=>?_
  unfold qZq at hd;split at hd;(cases hd;exact h2);cases hd
 ·exact ho _ _ _ _ _ h
def qQn:Ex->List V->List Obj->Option ((Int×Nat×LL)⊕(Nat×LL)):=fun e vs objs=>match e,vs,objs with
 | .ret,[.s (.i .i64 y0)],[.sli 41 true (.rows [.i .i64,.i .i64,.i .i64,.b] y1 y2)]=>some (.inl (y0,y1,y2))
 | .exit 0,[.s .bad],[.sli 41 true (.rows [.i .i64,.i .i64,.i .i64,.b] y0 y1)]=>some (.inr (y0,y1))
 | _,_,_=>none
def qQp:HL:=fun vs objs K=>match vs,objs with
 | [.s (.sl 0 0 x0 true),.s (.ptr 1 0 none 0),.s (.i .i64 x1),.s (.i .i64 x2)],[.sli 41 true (.rows [.i .i64,.i .i64,.i .i64,.b] x3 x4),.cells 41 [.one [.i .i64 x5,.i .i64 x6,.i .i64 x7,.b x8]]]=>ob (qLU qC x0 x1 x2 x3 x4 x5 x6 x7 x8) fun t0=>sw t0 (fun z=>K (.ret) ([.s (.i .i64 (z.1))]) ([.sli 41 true (.rows [.i .i64,.i .i64,.i .i64,.b] (z.2.1) (z.2.2))])) (fun z=>K (.exit 0) ([.s .bad]) ([.sli 41 true (.rows [.i .i64,.i .i64,.i .i64,.b] (z.1) (z.2))]))
 | _,_=>none
def qn6:{R:Type}->Nat->List V->List Obj->(Ex->List V->List Obj->Option R)->Option R:=fun q vs objs K=>bif Nat.beq q 2 then qQp vs objs K else none
def qLT:Ctx:=mkC 19 (qH) [(2,[0,3,7,8],[4])] qn6
theorem qa0:CtxOK Tryz.prog qLT:=mkC_ok (qI)
def qQo (f:Nat) (x0:Nat) (x1 x2:Int) (x3:Nat) (x4:LL) (x5 x6 x7:Int) (x8:Bool):Option ((Int×Nat×LL)⊕(Nat×LL)):=qe qLT 1 [0,3,7,8] [4] (qF Tryz.f48 2) f ([.s (.sl 0 0 x0 true),.s (.ptr 1 0 none 0),.s (.i .i64 x1),.s (.i .i64 x2)]) ([.sli 41 true (.rows [.i .i64,.i .i64,.i .i64,.b] x3 x4),.cells 41 [.one [.i .i64 x5,.i .i64 x6,.i .i64 x7,.b x8]]]) qQn
theorem qn5 (f:Nat) (x0:Nat) (x1 x2:Int) (x3:Nat) (x4:LL) (x5 x6 x7:Int) (x8:Bool):qQo (f+1) x0 x1 x2 x3 x4 x5 x6 x7 x8=qa3 (qQo f) x0 x1 x2 x3 x4 x5 x6 x7 x8:=by kernel_rfl
theorem qa2:∀ f,qQo f=qLU f
 | 0=>rfl
 | f+1=>by funext x0 x1 x2 x3 x4 x5 x6 x7 x8;rw[qn5,qa2 f];rfl
theorem qn8:qc Tryz.prog qLT 1 (qF Tryz.f48 2):=
 qg mixed qa0 (qP.of (l':=[]) (by kernel_rfl) trivial) (q:=2) (kin:=[0,3,7,8]) (kout:=[4]) (by kernel_rfl) (by kernel_rfl) fun vs objs K r h=>by
  replace h:qQp vs objs K=some r:=h
  unfold qQp at h
  split at h
  ·skip
   obtain⟨t,h1,h2⟩:=qD h
   rw[<- qa2] at h1
   refine⟨_,qQn,t,qC,h1,fun e vs' objs' hd=>?_⟩
   unfold qQn at hd
   split at hd
   ·skip
    cases hd
    exact h2
   ·skip
    cases hd
    exact h2
   ·cases hd
  ·cases h
def qa1:V->List Obj->Option (Int):=fun v objs=>match v,objs with
 | .s (.i .i64 y0),[]=>some (y0)
 | _,_=>none
theorem qn4 (x0:Nat) (x1 x2 x3:Int) (x4:Bool) (x5:Nat) (x6:LL):fnE qLT Tryz.f48 ([.s (.sl 0 0 x0 true),.agg [.one [.i .i64 x1,.i .i64 x2,.i .i64 x3,.b x4]]]) ([.sli 41 true (.rows [.i .i64,.i .i64,.i .i64,.b] x5 x6)]) (qAg 1 qa1)=qEv x0 x1 x2 x3 x4 x5 x6:=by kernel_rfl
def qaz:HA:=fun o vs objs K=>match vs,List.map Obj.toRO objs with
 | [.s (.sl 0 0 x0 true),.agg [.one [.i .i64 x1,.i .i64 x2,.i .i64 x3,.b x4]]],[.sli 41 true (.rows [.i .i64,.i .i64,.i .i64,.b] x5 x6)]=>ob (qEv x0 x1 x2 x3 x4 x5 x6) fun y0=>K true (.s (.i .i64 y0)) ([])
 | _,_=>o 48 vs objs K
def qa4 (o:Orc):Orc:=qJ 48 (qaz o) o
theorem qn7:OQ Tryz.prog qa4:=fun _ ho=>qK ho fun vs objs K r h=>by
 unfold qaz at h
 split at h
 ·skip
  have hq:List.map Obj.toRO objs=_:=(by rename_i hq;first | exact hq | assumption)
  obtain⟨t,h1,h2⟩:=qD h
  refine qAv mixed qa0 (m:=1) (fn:=Tryz.f48) (b:=(Tryz.f48).body.getD .skip) (by kernel_rfl) (by kernel_rfl) (by kernel_rfl) hq (by kernel_rfl) (by kernel_rfl) (qP.of (l':=[qF Tryz.f48 2]) (by kernel_rfl) ⟨qn8,trivial⟩) ((qn4 _ _ _ _ _ _ _).trans h1) fun v objs' hd=>?_
  unfold qa1 at hd;split at hd;(cases hd;exact h2);cases hd
 ·exact ho _ _ _ _ _ h
def qVd:Ctx:=mkC 48 (qH) [] qS
theorem qhm:CtxOK Tryz.prog qVd:=mkC_ok (qI)
def qVe:V->List Obj->Option (Int):=fun v objs=>match v,objs with
 | .s (.i .i64 y0),[]=>some (y0)
 | _,_=>none
theorem qhl (x0 x1 x2:Int) (x3:Bool):fnE qVd Tryz.f115 ([.agg [.one [.i .i64 x0,.i .i64 x1,.i .i64 x2,.b x3]]]) ([]) qVe=qN1 x0 x1 x2 x3:=by kernel_rfl
def qVc:HA:=fun o vs objs K=>match vs,objs with
 | [.agg [.one [.i .i64 x0,.i .i64 x1,.i .i64 x2,.b x3]]],[]=>ob (qN1 x0 x1 x2 x3) fun y0=>K false (.s (.i .i64 y0)) ([])
 | _,_=>o 115 vs objs K
def qVf (o:Orc):Orc:=qJ 115 (qVc o) o
theorem qhn:OQ Tryz.prog qVf:=fun _ ho=>qK ho fun vs objs K r h=>by
 unfold qVc at h
 split at h
 ·skip
  obtain⟨t,h1,h2⟩:=qD h
  refine qV mixed qhm ((qhl _ _ _ _).trans h1) (by kernel_rfl) fun v objs' hd=>?_
  unfold qVe at hd;split at hd;(cases hd;exact h2);cases hd
 ·exact ho _ _ _ _ _ h
def qS8:Ctx:=mkC 104 ((qKV (qCX (qES (qE6 (qJV (qVf qH))))))) [] qS
theorem qez:CtxOK Tryz.prog qS8:=mkC_ok ((qOK _ (qCi _ (qFW _ (qF9 _ (qMM _ (qhn _ qI)))))))
def qS9:V->List Obj->Option (Bool):=fun v objs=>match v,objs with
 | .s (.b y0),[]=>some (y0)
 | _,_=>none
theorem qey (x0 x1 x2:Int) (x3:Bool) (x4:Int) (x5:Nat) (x6 x7:LI) (x8:Int) (x9 x10:LL) (x11:Nat) (x12:LL):fnE qS8 Tryz.f83 ([.s (.ptr 0 0 none 0),.agg [.one [.i .i64 x0,.i .i64 x1,.i .i64 x2,.b x3]]]) ([.rcells 65 [.one [.ptr 1 0 none 0,.i .u64 x4,.sl 2 0 x5 true]],.rcells 84 [.arr .i8 81 x6,.arr .i8 16 x7,.one [.i .i8 x8],.rows [.i .u64,.i .u64] 32 x9,.rows [.i .u64,.i .u64] 2 x10],.sli 125 true (.rows [.i .i64,.i .i64,.i .i64,.b,.i .i8,.i .i8] x11 x12)]) (qAg 3 qS9)=qMh x0 x1 x2 x3 x4 x5 x6 x7 x8 x9 x10 x11 x12:=by kernel_rfl
def qS7:HA:=fun o vs objs K=>match vs,List.map Obj.toRO objs with
 | [.s (.ptr 0 0 none 0),.agg [.one [.i .i64 x0,.i .i64 x1,.i .i64 x2,.b x3]]],[.rcells 65 [.one [.ptr 1 0 none 0,.i .u64 x4,.sl 2 0 x5 true]],.rcells 84 [.arr .i8 81 x6,.arr .i8 16 x7,.one [.i .i8 x8],.rows [.i .u64,.i .u64] 32 x9,.rows [.i .u64,.i .u64] 2 x10],.sli 125 true (.rows [.i .i64,.i .i64,.i .i64,.b,.i .i8,.i .i8] x11 x12)]=>ob (qMh x0 x1 x2 x3 x4 x5 x6 x7 x8 x9 x10 x11 x12) fun y0=>K true (.s (.b y0)) ([])
 | _,_=>o 83 vs objs K
def qTA (o:Orc):Orc:=qJ 83 (qS7 o) o
theorem qe0:OQ Tryz.prog qTA:=fun _ ho=>qK ho fun vs objs K r h=>by
 unfold qS7 at h
 split at h
 ·skip
  have hq:List.map Obj.toRO objs=_:=(by rename_i hq;first | exact hq | assumption)
  obtain⟨t,h1,h2⟩:=qD h
  refine qAv mixed qez (m:=3) (fn:=Tryz.f83) (b:=(Tryz.f83).body.getD .skip) (by kernel_rfl) (by kernel_rfl) (by kernel_rfl) hq (by kernel_rfl) (by kernel_rfl) (qP.of (l':=[]) (by kernel_rfl) trivial) ((qey _ _ _ _ _ _ _ _ _ _ _ _ _).trans h1) fun v objs' hd=>?_
  unfold qS9 at hd;split at hd;(cases hd;exact h2);cases hd
 ·exact ho _ _ _ _ _ h
def qTG:Ctx:=mkC 54 ((qNK (qJV qH))) [] qS
theorem qe5:CtxOK Tryz.prog qTG:=mkC_ok ((qUV _ (qMM _ qI)))
def qTH:V->List Obj->Option (Int×Nat×LI×LI×Int×LL×LL×Nat×LL):=fun v objs=>match v,objs with
 | .tup [],[.cells 65 [.one [.ptr 1 0 none 0,.i .u64 y0,.sl 2 0 y1 true]],.cells 84 [.arr .i8 81 y2,.arr .i8 16 y3,.one [.i .i8 y4],.rows [.i .u64,.i .u64] 32 y5,.rows [.i .u64,.i .u64] 2 y6],.sli 125 false (.rows [.i .i64,.i .i64,.i .i64,.b,.i .i8,.i .i8] y7 y8)]=>some (y0,y1,y2,y3,y4,y5,y6,y7,y8)
 | _,_=>none
theorem qe4 (x0 x1:Int) (x2 x3:Int) (x4:Nat) (x5 x6:LI) (x7:Int) (x8 x9:LL) (x10:Nat) (x11:LL):fnE qTG Tryz.f84 ([.s (.ptr 0 0 none 0),.s (.i .i64 x0),.s (.i .i64 x1),.s (.i .i64 x2)]) ([.cells 65 [.one [.ptr 1 0 none 0,.i .u64 x3,.sl 2 0 x4 true]],.cells 84 [.arr .i8 81 x5,.arr .i8 16 x6,.one [.i .i8 x7],.rows [.i .u64,.i .u64] 32 x8,.rows [.i .u64,.i .u64] 2 x9],.sli 125 false (.rows [.i .i64,.i .i64,.i .i64,.b,.i .i8,.i .i8] x10 x11)]) qTH=qFC x0 x1 x2 x3 x4 x5 x6 x7 x8 x9 x10 x11:=by kernel_rfl
def qTF:HA:=fun o vs objs K=>match vs,objs with
 | [.s (.ptr 0 0 none 0),.s (.i .i64 x0),.s (.i .i64 x1),.s (.i .i64 x2)],[.cells 65 [.one [.ptr 1 0 none 0,.i .u64 x3,.sl 2 0 x4 true]],.cells 84 [.arr .i8 81 x5,.arr .i8 16 x6,.one [.i .i8 x7],.rows [.i .u64,.i .u64] 32 x8,.rows [.i .u64,.i .u64] 2 x9],.sli 125 false (.rows [.i .i64,.i .i64,.i .i64,.b,.i .i8,.i .i8] x10 x11)]=>ob (qFC x0 x1 x2 x3 x4 x5 x6 x7 x8 x9 x10 x11) fun z=>K false (.tup []) ([.cells 65 [.one [.ptr 1 0 none 0,.i .u64 (z.1),.sl 2 0 (z.2.1) true]],.cells 84 [.arr .i8 81 (z.2.2.1),.arr .i8 16 (z.2.2.2.1),.one [.i .i8 (z.2.2.2.2.1)],.rows [.i .u64,.i .u64] 32 (z.2.2.2.2.2.1),.rows [.i .u64,.i .u64] 2 (z.2.2.2.2.2.2.1)],.sli 125 false (.rows [.i .i64,.i .i64,.i .i64,.b,.i .i8,.i .i8] (z.2.2.2.2.2.2.2.1) (z.2.2.2.2.2.2.2.2))])
 | _,_=>o 84 vs objs K
def qMj (o:Orc):Orc:=qJ 84 (qTF o) o
theorem qTI:OQ Tryz.prog qMj:=fun _ ho=>qK ho fun vs objs K r h=>by
 unfold qTF at h
 split at h
 ·skip
  obtain⟨t,h1,h2⟩:=qD h
  refine qV mixed qe5 ((qe4 _ _ _ _ _ _ _ _ _ _ _ _).trans h1) (by kernel_rfl) fun v objs' hd=>?_
  unfold qTH at hd;split at hd;(cases hd;exact h2);cases hd
 ·exact ho _ _ _ _ _ h
def qTK:Ctx:=mkC 32 ((qJY (qNV (qE6 qH)))) [] qS
theorem qe7:CtxOK Tryz.prog qTK:=mkC_ok ((qMS _ (qUf _ (qF9 _ qI))))
def qTL:V->List Obj->Option (Int×Nat×LI×LI×Int×LL×LL×Nat×LL):=fun v objs=>match v,objs with
 | .tup [],[.cells 65 [.one [.ptr 1 0 none 0,.i .u64 y0,.sl 2 0 y1 true]],.cells 84 [.arr .i8 81 y2,.arr .i8 16 y3,.one [.i .i8 y4],.rows [.i .u64,.i .u64] 32 y5,.rows [.i .u64,.i .u64] 2 y6],.sli 125 false (.rows [.i .i64,.i .i64,.i .i64,.b,.i .i8,.i .i8] y7 y8)]=>some (y0,y1,y2,y3,y4,y5,y6,y7,y8)
 | _,_=>none
theorem qe6 (x0 x1 x2:Int) (x3:Nat) (x4 x5:LI) (x6:Int) (x7 x8:LL) (x9:Nat) (x10:LL):fnE qTK Tryz.f85 ([.s (.ptr 0 0 none 0),.s (.i .i64 x0),.s (.i .i8 x1)]) ([.cells 65 [.one [.ptr 1 0 none 0,.i .u64 x2,.sl 2 0 x3 true]],.cells 84 [.arr .i8 81 x4,.arr .i8 16 x5,.one [.i .i8 x6],.rows [.i .u64,.i .u64] 32 x7,.rows [.i .u64,.i .u64] 2 x8],.sli 125 false (.rows [.i .i64,.i .i64,.i .i64,.b,.i .i8,.i .i8] x9 x10)]) qTL=qC1 x0 x1 x2 x3 x4 x5 x6 x7 x8 x9 x10:=by kernel_rfl
def qTJ:HA:=fun o vs objs K=>match vs,objs with
 | [.s (.ptr 0 0 none 0),.s (.i .i64 x0),.s (.i .i8 x1)],[.cells 65 [.one [.ptr 1 0 none 0,.i .u64 x2,.sl 2 0 x3 true]],.cells 84 [.arr .i8 81 x4,.arr .i8 16 x5,.one [.i .i8 x6],.rows [.i .u64,.i .u64] 32 x7,.rows [.i .u64,.i .u64] 2 x8],.sli 125 false (.rows [.i .i64,.i .i64,.i .i64,.b,.i .i8,.i .i8] x9 x10)]=>ob (qC1 x0 x1 x2 x3 x4 x5 x6 x7 x8 x9 x10) fun z=>K false (.tup []) ([.cells 65 [.one [.ptr 1 0 none 0,.i .u64 (z.1),.sl 2 0 (z.2.1) true]],.cells 84 [.arr .i8 81 (z.2.2.1),.arr .i8 16 (z.2.2.2.1),.one [.i .i8 (z.2.2.2.2.1)],.rows [.i .u64,.i .u64] 32 (z.2.2.2.2.2.1),.rows [.i .u64,.i .u64] 2 (z.2.2.2.2.2.2.1)],.sli 125 false (.rows [.i .i64,.i .i64,.i .i64,.b,.i .i8,.i .i8] (z.2.2.2.2.2.2.2.1) (z.2.2.2.2.2.2.2.2))])
 | _,_=>o 85 vs objs K
def qMk (o:Orc):Orc:=qJ 85 (qTJ o) o
theorem qTM:OQ Tryz.prog qMk:=fun _ ho=>qK ho fun vs objs K r h=>by
 unfold qTJ at h
 split at h
 ·skip
  obtain⟨t,h1,h2⟩:=qD h
  refine qV mixed qe7 ((qe6 _ _ _ _ _ _ _ _ _ _ _).trans h1) (by kernel_rfl) fun v objs' hd=>?_
  unfold qTL at hd;split at hd;(cases hd;exact h2);cases hd
 ·exact ho _ _ _ _ _ h
def qTO:Ctx:=mkC 26 ((qNW qH)) [] qS
theorem qe9:CtxOK Tryz.prog qTO:=mkC_ok ((qUj _ qI))
def qTP:V->List Obj->Option (Int×Nat×LI×LI×Int×LL×LL×Nat×LL):=fun v objs=>match v,objs with
 | .tup [],[.cells 65 [.one [.ptr 1 0 none 0,.i .u64 y0,.sl 2 0 y1 true]],.cells 84 [.arr .i8 81 y2,.arr .i8 16 y3,.one [.i .i8 y4],.rows [.i .u64,.i .u64] 32 y5,.rows [.i .u64,.i .u64] 2 y6],.sli 125 false (.rows [.i .i64,.i .i64,.i .i64,.b,.i .i8,.i .i8] y7 y8)]=>some (y0,y1,y2,y3,y4,y5,y6,y7,y8)
 | _,_=>none
theorem qe8 (x0:Int) (x1:Nat) (x2 x3:LI) (x4:Int) (x5 x6:LL) (x7:Nat) (x8:LL):fnE qTO Tryz.f88 ([.s (.ptr 0 0 none 0)]) ([.cells 65 [.one [.ptr 1 0 none 0,.i .u64 x0,.sl 2 0 x1 true]],.cells 84 [.arr .i8 81 x2,.arr .i8 16 x3,.one [.i .i8 x4],.rows [.i .u64,.i .u64] 32 x5,.rows [.i .u64,.i .u64] 2 x6],.sli 125 false (.rows [.i .i64,.i .i64,.i .i64,.b,.i .i8,.i .i8] x7 x8)]) qTP=qEA x0 x1 x2 x3 x4 x5 x6 x7 x8:=by kernel_rfl
def qTN:HA:=fun o vs objs K=>match vs,objs with
 | [.s (.ptr 0 0 none 0)],[.cells 65 [.one [.ptr 1 0 none 0,.i .u64 x0,.sl 2 0 x1 true]],.cells 84 [.arr .i8 81 x2,.arr .i8 16 x3,.one [.i .i8 x4],.rows [.i .u64,.i .u64] 32 x5,.rows [.i .u64,.i .u64] 2 x6],.sli 125 false (.rows [.i .i64,.i .i64,.i .i64,.b,.i .i8,.i .i8] x7 x8)]=>ob (qEA x0 x1 x2 x3 x4 x5 x6 x7 x8) fun z=>K false (.tup []) ([.cells 65 [.one [.ptr 1 0 none 0,.i .u64 (z.1),.sl 2 0 (z.2.1) true]],.cells 84 [.arr .i8 81 (z.2.2.1),.arr .i8 16 (z.2.2.2.1),.one [.i .i8 (z.2.2.2.2.1)],.rows [.i .u64,.i .u64] 32 (z.2.2.2.2.2.1),.rows [.i .u64,.i .u64] 2 (z.2.2.2.2.2.2.1)],.sli 125 false (.rows [.i .i64,.i .i64,.i .i64,.b,.i .i8,.i .i8] (z.2.2.2.2.2.2.2.1) (z.2.2.2.2.2.2.2.2))])
 | _,_=>o 88 vs objs K
def qMl (o:Orc):Orc:=qJ 88 (qTN o) o
theorem qTQ:OQ Tryz.prog qMl:=fun _ ho=>qK ho fun vs objs K r h=>by
 unfold qTN at h
 split at h
 ·skip
  obtain⟨t,h1,h2⟩:=qD h
  refine qV mixed qe9 ((qe8 _ _ _ _ _ _ _ _ _).trans h1) (by kernel_rfl) fun v objs' hd=>?_
  unfold qTP at hd;split at hd;(cases hd;exact h2);cases hd
 ·exact ho _ _ _ _ _ h
def qV9:Ctx:=mkC 13 ((qFV qH)) [] qS
theorem qjB:CtxOK Tryz.prog qV9:=mkC_ok ((qGv _ qI))
def qWA:V->List Obj->Option (Int):=fun v objs=>match v,objs with
 | .s (.i .i64 y0),[]=>some (y0)
 | _,_=>none
theorem qjA (x0:Int):fnE qV9 Tryz.f87 ([.s (.i .i64 x0)]) ([]) qWA=qIc x0:=by kernel_rfl
def qV8:HA:=fun o vs objs K=>match vs,objs with
 | [.s (.i .i64 x0)],[]=>ob (qIc x0) fun y0=>K false (.s (.i .i64 y0)) ([])
 | _,_=>o 87 vs objs K
def qOJ (o:Orc):Orc:=qJ 87 (qV8 o) o
theorem qWB:OQ Tryz.prog qOJ:=fun _ ho=>qK ho fun vs objs K r h=>by
 unfold qV8 at h
 split at h
 ·skip
  obtain⟨t,h1,h2⟩:=qD h
  refine qV mixed qjB ((qjA _).trans h1) (by kernel_rfl) fun v objs' hd=>?_
  unfold qWA at hd;split at hd;(cases hd;exact h2);cases hd
 ·exact ho _ _ _ _ _ h
def qTC:Ctx:=mkC 97 ((qOJ (qKV (qCX (qMl (qMk (qMj (qFV (qE6 (qTA qH)))))))))) [] qS
theorem qe2:CtxOK Tryz.prog qTC:=mkC_ok ((qWB _ (qOK _ (qCi _ (qTQ _ (qTM _ (qTI _ (qGv _ (qF9 _ (qe0 _ qI))))))))))
def qTD:V->List Obj->Option ((Bool×Int×Nat×LI×LI×Int×LL×LL×Nat×LL)⊕(Bool×Int×Nat×LI×LI×Int×LL×LL×Nat×LL)):=fun v objs=>match v,objs with
 | .s (.b y0),[.cells 65 [.one [.ptr 1 0 none 0,.i .u64 y1,.sl 2 0 y2 true]],.cells 84 [.arr .i8 81 y3,.arr .i8 16 y4,.one [.i .i8 y5],.rows [.i .u64,.i .u64] 32 y6,.rows [.i .u64,.i .u64] 2 y7],.sli 125 false (.rows [.i .i64,.i .i64,.i .i64,.b,.i .i8,.i .i8] y8 y9)]=>some (.inl (y0,y1,y2,y3,y4,y5,y6,y7,y8,y9))
 | .s (.b y0),[.cells 65 [.one [.ptr 1 0 none 0,.i .u64 y1,.sl 3 0 y2 true]],.cells 84 [.arr .i8 81 y3,.arr .i8 16 y4,.one [.i .i8 y5],.rows [.i .u64,.i .u64] 32 y6,.rows [.i .u64,.i .u64] 2 y7],Obj.dead,.sli 125 false (.rows [.i .i64,.i .i64,.i .i64,.b,.i .i8,.i .i8] y8 y9)]=>some (.inr (y0,y1,y2,y3,y4,y5,y6,y7,y8,y9))
 | _,_=>none
theorem qe1 (x0 x1 x2:Int) (x3:Bool) (x4:Int) (x5:Nat) (x6 x7:LI) (x8:Int) (x9 x10:LL) (x11:Nat) (x12:LL):fnE qTC Tryz.f34 ([.s (.ptr 0 0 none 0),.agg [.one [.i .i64 x0,.i .i64 x1,.i .i64 x2,.b x3]]]) ([.cells 65 [.one [.ptr 1 0 none 0,.i .u64 x4,.sl 2 0 x5 true]],.cells 84 [.arr .i8 81 x6,.arr .i8 16 x7,.one [.i .i8 x8],.rows [.i .u64,.i .u64] 32 x9,.rows [.i .u64,.i .u64] 2 x10],.sli 125 false (.rows [.i .i64,.i .i64,.i .i64,.b,.i .i8,.i .i8] x11 x12)]) qTD=qMi x0 x1 x2 x3 x4 x5 x6 x7 x8 x9 x10 x11 x12:=by kernel_rfl
def qTB:HA:=fun o vs objs K=>match vs,objs with
 | [.s (.ptr 0 0 none 0),.agg [.one [.i .i64 x0,.i .i64 x1,.i .i64 x2,.b x3]]],[.cells 65 [.one [.ptr 1 0 none 0,.i .u64 x4,.sl 2 0 x5 true]],.cells 84 [.arr .i8 81 x6,.arr .i8 16 x7,.one [.i .i8 x8],.rows [.i .u64,.i .u64] 32 x9,.rows [.i .u64,.i .u64] 2 x10],.sli 125 false (.rows [.i .i64,.i .i64,.i .i64,.b,.i .i8,.i .i8] x11 x12)]=>ob (qMi x0 x1 x2 x3 x4 x5 x6 x7 x8 x9 x10 x11 x12) fun t0=>sw t0 (fun z=>K false (.s (.b (z.1))) ([.cells 65 [.one [.ptr 1 0 none 0,.i .u64 (z.2.1),.sl 2 0 (z.2.2.1) true]],.cells 84 [.arr .i8 81 (z.2.2.2.1),.arr .i8 16 (z.2.2.2.2.1),.one [.i .i8 (z.2.2.2.2.2.1)],.rows [.i .u64,.i .u64] 32 (z.2.2.2.2.2.2.1),.rows [.i .u64,.i .u64] 2 (z.2.2.2.2.2.2.2.1)],.sli 125 false (.rows [.i .i64,.i .i64,.i .i64,.b,.i .i8,.i .i8] (z.2.2.2.2.2.2.2.2.1) (z.2.2.2.2.2.2.2.2.2))])) (fun z=>K false (.s (.b (z.1))) ([.cells 65 [.one [.ptr 1 0 none 0,.i .u64 (z.2.1),.sl 3 0 (z.2.2.1) true]],.cells 84 [.arr .i8 81 (z.2.2.2.1),.arr .i8 16 (z.2.2.2.2.1),.one [.i .i8 (z.2.2.2.2.2.1)],.rows [.i .u64,.i .u64] 32 (z.2.2.2.2.2.2.1),.rows [.i .u64,.i .u64] 2 (z.2.2.2.2.2.2.2.1)],Obj.dead,.sli 125 false (.rows [.i .i64,.i .i64,.i .i64,.b,.i .i8,.i .i8] (z.2.2.2.2.2.2.2.2.1) (z.2.2.2.2.2.2.2.2.2))]))
 | _,_=>o 34 vs objs K
def qTE (o:Orc):Orc:=qJ 34 (qTB o) o
theorem qe3:OQ Tryz.prog qTE:=fun _ ho=>qK ho fun vs objs K r h=>by
 unfold qTB at h
 split at h
 ·skip
  obtain⟨t,h1,h2⟩:=qD h
  refine qV mixed qe2 ((qe1 _ _ _ _ _ _ _ _ _ _ _ _ _).trans h1) (by kernel_rfl) fun v objs' hd=>?_
  unfold qTD at hd
  split at hd
  ·skip
   cases hd
   exact h2
  ·skip
   cases hd
   exact h2
  ·cases hd
 ·exact ho _ _ _ _ _ h
def qbs:Ctx:=mkC 27 ((qRC qH)) [] qS
theorem qo3:CtxOK Tryz.prog qbs:=mkC_ok ((qb2 _ qI))
def qbt:V->List Obj->Option (Nat×Int×Nat×LL):=fun v objs=>match v,objs with
 | .tup [],[.cells 104 [.one [.sl 1 0 y0 true,.i .i64 y1]],.sli 135 false (.rows kk0 y2 y3)]=>bif decide (kk0=kL0) then some (y0,y1,y2,y3) else none
 | _,_=>none
theorem qo2 (x0 x1:LI) (x2 x3:Int) (x4 x5:Int) (x6 x7 x8:Int) (x9:Bool) (x10:Nat) (x11:Int) (x12:Nat) (x13:LL):fnE qbs Tryz.f50 ([.s (.ptr 0 0 none 0),.agg [.arr .i8 81 x0,.arr .i8 16 x1,.one [.i .i8 x2]],.agg [.one [.i .i64 x3,.i .i64 x4,.i .i64 x5,.i .i64 x6,.i .i64 x7,.i .i64 x8,.b x9]]]) ([.cells 104 [.one [.sl 1 0 x10 true,.i .i64 x11]],.sli 135 false (.rows kL0 x12 x13)]) qbt=qp x0 x1 x2 x3 x4 x5 x6 x7 x8 x9 x10 x11 x12 x13:=by kernel_rfl
def qbr:HA:=fun o vs objs K=>match vs,objs with
 | [.s (.ptr 0 0 none 0),.agg [.arr .i8 81 x0,.arr .i8 16 x1,.one [.i .i8 x2]],.agg [.one [.i .i64 x3,.i .i64 x4,.i .i64 x5,.i .i64 x6,.i .i64 x7,.i .i64 x8,.b x9]]],[.cells 104 [.one [.sl 1 0 x10 true,.i .i64 x11]],.sli 135 false (.rows kk0 x12 x13)]=>bif decide (kk0=kL0) then ob (qp x0 x1 x2 x3 x4 x5 x6 x7 x8 x9 x10 x11 x12 x13) fun z=>K false (.tup []) ([.cells 104 [.one [.sl 1 0 (z.1) true,.i .i64 (z.2.1)]],.sli 135 false (.rows kL0 (z.2.2.1) (z.2.2.2))]) else none
 | _,_=>o 50 vs objs K
def qbu (o:Orc):Orc:=qJ 50 (qbr o) o
theorem qo4:OQ Tryz.prog qbu:=fun _ ho=>qK ho fun vs objs K r h=>by
 unfold qbr at h
 split at h
 ·skip
  have g:=(qR h).1
  replace h:=(qR h).2
  obtain rfl:=of_decide_eq_true g
  obtain⟨t,h1,h2⟩:=qD h
  refine qV mixed qo3 ((qo2 _ _ _ _ _ _ _ _ _ _ _ _ _ _).trans h1) (by kernel_rfl) fun v objs' hd=>?_
  unfold qbt at hd
  split at hd
  ·skip
   have g:=(qR hd).1
   replace hd:=(qR hd).2
   obtain rfl:=of_decide_eq_true g
   cases hd
   exact h2
  ·cases hd
 ·exact ho _ _ _ _ _ h
def qS4:Ctx:=mkC 87 ((qOJ (qCX (qMj (qMk (qMl qH)))))) [] qS
theorem qew:CtxOK Tryz.prog qS4:=mkC_ok ((qWB _ (qCi _ (qTI _ (qTM _ (qTQ _ qI))))))
def qS5:V->List Obj->Option (Bool×Int×Nat×LI×LI×Int×LL×LL×Nat×LL):=fun v objs=>match v,objs with
 | .s (.b y0),[.cells 65 [.one [.ptr 1 0 none 0,.i .u64 y1,.sl 2 0 y2 true]],.cells 84 [.arr .i8 81 y3,.arr .i8 16 y4,.one [.i .i8 y5],.rows [.i .u64,.i .u64] 32 y6,.rows [.i .u64,.i .u64] 2 y7],.sli 125 false (.rows [.i .i64,.i .i64,.i .i64,.b,.i .i8,.i .i8] y8 y9)]=>some (y0,y1,y2,y3,y4,y5,y6,y7,y8,y9)
 | _,_=>none
theorem qev (x0:Int) (x1:Nat) (x2 x3:LI) (x4:Int) (x5 x6:LL) (x7:Nat) (x8:LL):fnE qS4 Tryz.f49 ([.s (.ptr 0 0 none 0)]) ([.cells 65 [.one [.ptr 1 0 none 0,.i .u64 x0,.sl 2 0 x1 true]],.cells 84 [.arr .i8 81 x2,.arr .i8 16 x3,.one [.i .i8 x4],.rows [.i .u64,.i .u64] 32 x5,.rows [.i .u64,.i .u64] 2 x6],.sli 125 false (.rows [.i .i64,.i .i64,.i .i64,.b,.i .i8,.i .i8] x7 x8)]) qS5=qGJ x0 x1 x2 x3 x4 x5 x6 x7 x8:=by kernel_rfl
def qS3:HA:=fun o vs objs K=>match vs,objs with
 | [.s (.ptr 0 0 none 0)],[.cells 65 [.one [.ptr 1 0 none 0,.i .u64 x0,.sl 2 0 x1 true]],.cells 84 [.arr .i8 81 x2,.arr .i8 16 x3,.one [.i .i8 x4],.rows [.i .u64,.i .u64] 32 x5,.rows [.i .u64,.i .u64] 2 x6],.sli 125 false (.rows [.i .i64,.i .i64,.i .i64,.b,.i .i8,.i .i8] x7 x8)]=>ob (qGJ x0 x1 x2 x3 x4 x5 x6 x7 x8) fun z=>K false (.s (.b (z.1))) ([.cells 65 [.one [.ptr 1 0 none 0,.i .u64 (z.2.1),.sl 2 0 (z.2.2.1) true]],.cells 84 [.arr .i8 81 (z.2.2.2.1),.arr .i8 16 (z.2.2.2.2.1),.one [.i .i8 (z.2.2.2.2.2.1)],.rows [.i .u64,.i .u64] 32 (z.2.2.2.2.2.2.1),.rows [.i .u64,.i .u64] 2 (z.2.2.2.2.2.2.2.1)],.sli 125 false (.rows [.i .i64,.i .i64,.i .i64,.b,.i .i8,.i .i8] (z.2.2.2.2.2.2.2.2.1) (z.2.2.2.2.2.2.2.2.2))])
 | _,_=>o 49 vs objs K
def qS6 (o:Orc):Orc:=qJ 49 (qS3 o) o
theorem qex:OQ Tryz.prog qS6:=fun _ ho=>qK ho fun vs objs K r h=>by
 unfold qS3 at h
 split at h
 ·skip
  obtain⟨t,h1,h2⟩:=qD h
  refine qV mixed qew ((qev _ _ _ _ _ _ _ _ _).trans h1) (by kernel_rfl) fun v objs' hd=>?_
  unfold qS5 at hd;split at hd;(cases hd;exact h2);cases hd
 ·exact ho _ _ _ _ _ h
end
end Go.Kk.KkSR
