/- Printed by a tool of this project (KkGen): the program's functions come to the plain ones. -/
import Derived.Test.YtjckfjagajmekaaGreatDoorKkSLb
namespace Go.Kk.KkSL
noncomputable section
open Go.Proofs Go.Kk.Pl
set_option maxRecDepth 100000
set_option maxHeartbeats 4000000
def qOp:Ex->List V->List Obj->Option (Nat×LI×LI×Int×LL×LL×Int×Int×Int×Int×Bool×Nat×LL×List (LI×LI)):=fun e vs objs=>match e,vs,objs with
 | .exit 0,[.s (.ptr 0 0 none 0),.s (.ptr 1 0 none 0),.s (.sl 2 0 y0 true)],[.cells 84 [.arr .i8 81 y1,.arr .i8 16 y2,.one [.i .i8 y3],.rows [.i .u64,.i .u64] 32 y4,.rows [.i .u64,.i .u64] 2 y5],.cells 75 [.one [.ptr 0 0 none 0,.i .i64 y6,.i .i64 y7,.i .u64 y8,.i .u64 y9,.mp 3,.b y10]],.sli 41 false (.rows [.i .i64,.i .i64,.i .i64,.b] y11 y12),.map false true [.i .i64] [.i .u64,.i .u64] y13]=>some (y0,y1,y2,y3,y4,y5,y6,y7,y8,y9,y10,y11,y12,y13)
 | _,_,_=>none
def qOn:Ex->List V->List Obj->Option (Nat×LI×LI×Int×LL×LL×Nat×LL):=fun e vs objs=>match e,vs,objs with
 | .exit 2,[.s (.sl 1 0 y0 true)],[.cells 84 [.arr .i8 81 y1,.arr .i8 16 y2,.one [.i .i8 y3],.rows [.i .u64,.i .u64] 32 y4,.rows [.i .u64,.i .u64] 2 y5],.sli 41 false (.rows [.i .i64,.i .i64,.i .i64,.b] y6 y7)]=>some (y0,y1,y2,y3,y4,y5,y6,y7)
 | _,_,_=>none
def qOt:HL:=fun vs objs K=>match vs,objs with
 | [.s (.ptr 0 0 none 0),.s (.ptr 1 0 none 0),.s (.sl 2 0 x0 true),.s (.sl 3 0 x1 true),.s (.i .i64 x2),.s (.i .i64 x3)],[.cells 84 [.arr .i8 81 x4,.arr .i8 16 x5,.one [.i .i8 x6],.rows [.i .u64,.i .u64] 32 x7,.rows [.i .u64,.i .u64] 2 x8],.cells 75 [.one [.ptr 0 0 none 0,.i .i64 x9,.i .i64 x10,.i .u64 x11,.i .u64 x12,.mp 4,.b x13]],.sli 41 false (.rows [.i .i64,.i .i64,.i .i64,.b] x14 x15),.sli 41 false (.rows [.i .i64,.i .i64,.i .i64,.b] x16 x17),.map false true [.i .i64] [.i .u64,.i .u64] x18]=>ob (qFC qC x0 x1 x2 x3 x4 x5 x6 x7 x8 x9 x10 x11 x12 x13 x14 x15 x16 x17 x18) fun z=>K (.exit 0) ([.s (.ptr 0 0 none 0),.s (.ptr 1 0 none 0),.s (.sl 2 0 (z.1) true)]) ([.cells 84 [.arr .i8 81 (z.2.1),.arr .i8 16 (z.2.2.1),.one [.i .i8 (z.2.2.2.1)],.rows [.i .u64,.i .u64] 32 (z.2.2.2.2.1),.rows [.i .u64,.i .u64] 2 (z.2.2.2.2.2.1)],.cells 75 [.one [.ptr 0 0 none 0,.i .i64 (z.2.2.2.2.2.2.1),.i .i64 (z.2.2.2.2.2.2.2.1),.i .u64 (z.2.2.2.2.2.2.2.2.1),.i .u64 (z.2.2.2.2.2.2.2.2.2.1),.mp 3,.b (z.2.2.2.2.2.2.2.2.2.2.1)]],.sli 41 false (.rows [.i .i64,.i .i64,.i .i64,.b] (z.2.2.2.2.2.2.2.2.2.2.2.1) (z.2.2.2.2.2.2.2.2.2.2.2.2.1)),.map false true [.i .i64] [.i .u64,.i .u64] (z.2.2.2.2.2.2.2.2.2.2.2.2.2)])
 | _,_=>none
def qOs:HL:=fun vs objs K=>match vs,objs with
 | [.s (.ptr 0 0 none 0),.s (.sl 1 0 x0 true),.s (.sl 2 0 x1 true),.s (.i .i64 x2),.s (.i .i64 x3)],[.cells 84 [.arr .i8 81 x4,.arr .i8 16 x5,.one [.i .i8 x6],.rows [.i .u64,.i .u64] 32 x7,.rows [.i .u64,.i .u64] 2 x8],.sli 41 false (.rows [.i .i64,.i .i64,.i .i64,.b] x9 x10),.sli 41 false (.rows [.i .i64,.i .i64,.i .i64,.b] x11 x12)]=>ob (qEK qC x0 x1 x2 x3 x4 x5 x6 x7 x8 x9 x10 x11 x12) fun z=>K (.exit 2) ([.s (.sl 1 0 (z.1) true)]) ([.cells 84 [.arr .i8 81 (z.2.1),.arr .i8 16 (z.2.2.1),.one [.i .i8 (z.2.2.2.1)],.rows [.i .u64,.i .u64] 32 (z.2.2.2.2.1),.rows [.i .u64,.i .u64] 2 (z.2.2.2.2.2.1)],.sli 41 false (.rows [.i .i64,.i .i64,.i .i64,.b] (z.2.2.2.2.2.2.1) (z.2.2.2.2.2.2.2))])
 | _,_=>none
def qip:{R:Type}->Nat->List V->List Obj->(Ex->List V->List Obj->Option R)->Option R:=fun q vs objs K=>bif Nat.beq q 4 then qOt vs objs K else bif Nat.beq q 10 then qOs vs objs K else none
def qHS:Ctx:=mkC 51 ((qWS (qVD (qOz (qNy (qJq (qOy qM))))))) [(4,[0,3,4,13,14,15],[0,3,4]),(10,[0,4,30,31,32],[4])] qip
theorem qOm:CtxOK Tryz.prog qHS:=mkC_ok ((qiv _ (qhP _ (qWa _ (qU8 _ (qMA _ (qWW _ qO)))))))
def qOq (f:Nat) (x0 x1:Nat) (x2 x3:Int) (x4 x5:LI) (x6:Int) (x7 x8:LL) (x9 x10:Int) (x11 x12:Int) (x13:Bool) (x14:Nat) (x15:LL) (x16:Nat) (x17:LL) (x18:List (LI×LI)):Option (Nat×LI×LI×Int×LL×LL×Int×Int×Int×Int×Bool×Nat×LL×List (LI×LI)):=qh qHS 1 [0,3,4,13,14,15] [0,3,4] (qG Tryz.f14 4) f ([.s (.ptr 0 0 none 0),.s (.ptr 1 0 none 0),.s (.sl 2 0 x0 true),.s (.sl 3 0 x1 true),.s (.i .i64 x2),.s (.i .i64 x3)]) ([.cells 84 [.arr .i8 81 x4,.arr .i8 16 x5,.one [.i .i8 x6],.rows [.i .u64,.i .u64] 32 x7,.rows [.i .u64,.i .u64] 2 x8],.cells 75 [.one [.ptr 0 0 none 0,.i .i64 x9,.i .i64 x10,.i .u64 x11,.i .u64 x12,.mp 4,.b x13]],.sli 41 false (.rows [.i .i64,.i .i64,.i .i64,.b] x14 x15),.sli 41 false (.rows [.i .i64,.i .i64,.i .i64,.b] x16 x17),.map false true [.i .i64] [.i .u64,.i .u64] x18]) qOp
theorem qio (f:Nat) (x0 x1:Nat) (x2 x3:Int) (x4 x5:LI) (x6:Int) (x7 x8:LL) (x9 x10:Int) (x11 x12:Int) (x13:Bool) (x14:Nat) (x15:LL) (x16:Nat) (x17:LL) (x18:List (LI×LI)):qOq (f+1) x0 x1 x2 x3 x4 x5 x6 x7 x8 x9 x10 x11 x12 x13 x14 x15 x16 x17 x18=qHU (qOq f) x0 x1 x2 x3 x4 x5 x6 x7 x8 x9 x10 x11 x12 x13 x14 x15 x16 x17 x18:=by kernel_rfl
theorem qWM:∀ f,qOq f=qFC f
 | 0=>rfl
 | f+1=>by funext x0 x1 x2 x3 x4 x5 x6 x7 x8 x9 x10 x11 x12 x13 x14 x15 x16 x17 x18;rw[qio,qWM f];rfl
def qOo (f:Nat) (x0 x1:Nat) (x2 x3:Int) (x4 x5:LI) (x6:Int) (x7 x8:LL) (x9:Nat) (x10:LL) (x11:Nat) (x12:LL):Option (Nat×LI×LI×Int×LL×LL×Nat×LL):=qh qHS 1 [0,4,30,31,32] [4] (qG Tryz.f14 10) f ([.s (.ptr 0 0 none 0),.s (.sl 1 0 x0 true),.s (.sl 2 0 x1 true),.s (.i .i64 x2),.s (.i .i64 x3)]) ([.cells 84 [.arr .i8 81 x4,.arr .i8 16 x5,.one [.i .i8 x6],.rows [.i .u64,.i .u64] 32 x7,.rows [.i .u64,.i .u64] 2 x8],.sli 41 false (.rows [.i .i64,.i .i64,.i .i64,.b] x9 x10),.sli 41 false (.rows [.i .i64,.i .i64,.i .i64,.b] x11 x12)]) qOn
theorem qin (f:Nat) (x0 x1:Nat) (x2 x3:Int) (x4 x5:LI) (x6:Int) (x7 x8:LL) (x9:Nat) (x10:LL) (x11:Nat) (x12:LL):qOo (f+1) x0 x1 x2 x3 x4 x5 x6 x7 x8 x9 x10 x11 x12=qHT (qOo f) x0 x1 x2 x3 x4 x5 x6 x7 x8 x9 x10 x11 x12:=by kernel_rfl
theorem qWL:∀ f,qOo f=qEK f
 | 0=>rfl
 | f+1=>by funext x0 x1 x2 x3 x4 x5 x6 x7 x8 x9 x10 x11 x12;rw[qin,qWL f];rfl
theorem qir:qe Tryz.prog qHS 1 (qG Tryz.f14 4):=
 qj mixed qOm (qT.of (l':=[]) (by kernel_rfl) trivial) (q:=4) (kin:=[0,3,4,13,14,15]) (kout:=[0,3,4]) (by kernel_rfl) (by kernel_rfl) fun vs objs K r h=>by
  replace h:qOt vs objs K=some r:=h
  unfold qOt at h
  split at h
  ·skip
   obtain⟨t,h1,h2⟩:=qF h
   rw[<- qWM] at h1
   refine⟨_,qOp,t,qC,h1,fun e vs' objs' hd=>?_⟩
   unfold qOp at hd;split at hd;(cases hd;exact h2);cases hd
  ·cases h
theorem qiq:qe Tryz.prog qHS 1 (qG Tryz.f14 10):=
 qj mixed qOm (qT.of (l':=[]) (by kernel_rfl) trivial) (q:=10) (kin:=[0,4,30,31,32]) (kout:=[4]) (by kernel_rfl) (by kernel_rfl) fun vs objs K r h=>by
  replace h:qOs vs objs K=some r:=h
  unfold qOs at h
  split at h
  ·skip
   obtain⟨t,h1,h2⟩:=qF h
   rw[<- qWL] at h1
   refine⟨_,qOn,t,qC,h1,fun e vs' objs' hd=>?_⟩
   unfold qOn at hd;split at hd;(cases hd;exact h2);cases hd
  ·cases h
def qWK:V->List Obj->Option (Nat×LI×LI×Int×LL×LL×Nat×LL):=fun v objs=>match v,objs with
 | .s (.sl 1 0 y0 true),[.cells 84 [.arr .i8 81 y1,.arr .i8 16 y2,.one [.i .i8 y3],.rows [.i .u64,.i .u64] 32 y4,.rows [.i .u64,.i .u64] 2 y5],.sli 41 false (.rows [.i .i64,.i .i64,.i .i64,.b] y6 y7)]=>some (y0,y1,y2,y3,y4,y5,y6,y7)
 | _,_=>none
theorem qim (x0 x1:LI) (x2:Int) (x3 x4:LL):fnE qHS Tryz.f14 ([.s (.ptr 0 0 none 0)]) ([.cells 84 [.arr .i8 81 x0,.arr .i8 16 x1,.one [.i .i8 x2],.rows [.i .u64,.i .u64] 32 x3,.rows [.i .u64,.i .u64] 2 x4]]) qWK=qDY x0 x1 x2 x3 x4:=by kernel_rfl
def qWJ:HA:=fun o vs objs K=>match vs,objs with
 | [.s (.ptr 0 0 none 0)],[.cells 84 [.arr .i8 81 x0,.arr .i8 16 x1,.one [.i .i8 x2],.rows [.i .u64,.i .u64] 32 x3,.rows [.i .u64,.i .u64] 2 x4]]=>ob (qDY x0 x1 x2 x3 x4) fun z=>K false (.s (.sl 1 0 (z.1) true)) ([.cells 84 [.arr .i8 81 (z.2.1),.arr .i8 16 (z.2.2.1),.one [.i .i8 (z.2.2.2.1)],.rows [.i .u64,.i .u64] 32 (z.2.2.2.2.1),.rows [.i .u64,.i .u64] 2 (z.2.2.2.2.2.1)],.sli 41 false (.rows [.i .i64,.i .i64,.i .i64,.b] (z.2.2.2.2.2.2.1) (z.2.2.2.2.2.2.2))])
 | _,_=>o 14 vs objs K
def qOr (o:Orc):Orc:=qP 14 (qWJ o) o
theorem qWN:OQ Tryz.prog qOr:=fun _ ho=>qQ ho fun vs objs K r h=>by
 unfold qWJ at h
 split at h
 ·skip
  obtain⟨t,h1,h2⟩:=qF h
  refine qAe mixed qOm (fn:=Tryz.f14) (b:=(Tryz.f14).body.getD .skip) (by kernel_rfl) (by kernel_rfl) (by kernel_rfl) ((qim _ _ _ _ _).trans h1) (m:=1) rfl (qT.of (l':=[qG Tryz.f14 4,qG Tryz.f14 10]) (by kernel_rfl) ⟨qir,qiq,trivial⟩) fun v objs' hd=>?_
  unfold qWK at hd;split at hd;(cases hd;exact h2);cases hd
 ·exact ho _ _ _ _ _ h
def qdZ:Ctx:=mkC 27 (qM) [] qW
theorem qrU:CtxOK Tryz.prog qdZ:=mkC_ok (qO)
def qda:V->List Obj->Option (Int):=fun v objs=>match v,objs with
 | .s (.i .i64 y0),[]=>some (y0)
 | _,_=>none
theorem qrT (x0:Int):fnE qdZ Tryz.f96 ([.s (.i .i64 x0)]) ([]) qda=qFp x0:=by kernel_rfl
def qdY:HA:=fun o vs objs K=>match vs,objs with
 | [.s (.i .i64 x0)],[]=>ob (qFp x0) fun y0=>K false (.s (.i .i64 y0)) ([])
 | _,_=>o 96 vs objs K
def qSX (o:Orc):Orc:=qP 96 (qdY o) o
theorem qdb:OQ Tryz.prog qSX:=fun _ ho=>qQ ho fun vs objs K r h=>by
 unfold qdY at h
 split at h
 ·skip
  obtain⟨t,h1,h2⟩:=qF h
  refine qa mixed qrU ((qrT _).trans h1) (by kernel_rfl) fun v objs' hd=>?_
  unfold qda at hd;split at hd;(cases hd;exact h2);cases hd
 ·exact ho _ _ _ _ _ h
def qdd:Ctx:=mkC 8 (qM) [] qW
theorem qrW:CtxOK Tryz.prog qdd:=mkC_ok (qO)
def qde:V->List Obj->Option (Int):=fun v objs=>match v,objs with
 | .s (.i .i64 y0),[]=>some (y0)
 | _,_=>none
theorem qrV (x0:Int):fnE qdd Tryz.f119 ([.s (.i .i64 x0)]) ([]) qde=qMh x0:=by kernel_rfl
def qdc:HA:=fun o vs objs K=>match vs,objs with
 | [.s (.i .i64 x0)],[]=>ob (qMh x0) fun y0=>K false (.s (.i .i64 y0)) ([])
 | _,_=>o 119 vs objs K
def qdf (o:Orc):Orc:=qP 119 (qdc o) o
theorem qrX:OQ Tryz.prog qdf:=fun _ ho=>qQ ho fun vs objs K r h=>by
 unfold qdc at h
 split at h
 ·skip
  obtain⟨t,h1,h2⟩:=qF h
  refine qa mixed qrW ((qrV _).trans h1) (by kernel_rfl) fun v objs' hd=>?_
  unfold qde at hd;split at hd;(cases hd;exact h2);cases hd
 ·exact ho _ _ _ _ _ h
def qdh:Ctx:=mkC 20 ((qMI (qdf (qMC qM)))) [] qW
theorem qrZ:CtxOK Tryz.prog qdh:=mkC_ok ((qRe _ (qrX _ (qRV _ qO))))
def qdi:V->List Obj->Option (Int):=fun v objs=>match v,objs with
 | .s (.i .i64 y0),[]=>some (y0)
 | _,_=>none
theorem qrY (x0:Int):fnE qdh Tryz.f97 ([.s (.i .i64 x0)]) ([]) qdi=qIa x0:=by kernel_rfl
def qdg:HA:=fun o vs objs K=>match vs,objs with
 | [.s (.i .i64 x0)],[]=>ob (qIa x0) fun y0=>K false (.s (.i .i64 y0)) ([])
 | _,_=>o 97 vs objs K
def qdj (o:Orc):Orc:=qP 97 (qdg o) o
theorem qra:OQ Tryz.prog qdj:=fun _ ho=>qQ ho fun vs objs K r h=>by
 unfold qdg at h
 split at h
 ·skip
  obtain⟨t,h1,h2⟩:=qF h
  refine qa mixed qrZ ((qrY _).trans h1) (by kernel_rfl) fun v objs' hd=>?_
  unfold qdi at hd;split at hd;(cases hd;exact h2);cases hd
 ·exact ho _ _ _ _ _ h
def qdP:Ctx:=mkC 15 ((qSX qM)) [] qW
theorem qrI:CtxOK Tryz.prog qdP:=mkC_ok ((qdb _ qO))
def qdQ:V->List Obj->Option (Int):=fun v objs=>match v,objs with
 | .s (.i .i64 y0),[]=>some (y0)
 | _,_=>none
theorem qrH (x0:Int):fnE qdP Tryz.f98 ([.s (.i .i64 x0)]) ([]) qdQ=qKA x0:=by kernel_rfl
def qdO:HA:=fun o vs objs K=>match vs,objs with
 | [.s (.i .i64 x0)],[]=>ob (qKA x0) fun y0=>K false (.s (.i .i64 y0)) ([])
 | _,_=>o 98 vs objs K
def qdR (o:Orc):Orc:=qP 98 (qdO o) o
theorem qrJ:OQ Tryz.prog qdR:=fun _ ho=>qQ ho fun vs objs K r h=>by
 unfold qdO at h
 split at h
 ·skip
  obtain⟨t,h1,h2⟩:=qF h
  refine qa mixed qrI ((qrH _).trans h1) (by kernel_rfl) fun v objs' hd=>?_
  unfold qdQ at hd;split at hd;(cases hd;exact h2);cases hd
 ·exact ho _ _ _ _ _ h
def qSS:Ex->List V->List Obj->Option (LI×LI×Int×LI):=fun e vs objs=>match e,vs,objs with
 | .exit 0,[.s (.ptr 0 0 none 0),.s (.ptr 1 0 none 0)],[.cells 29 [.arr .i8 81 y0,.arr .i8 16 y1,.one [.i .i8 y2]],.cells 131 [.arr .i64 2 y3]]=>some (y0,y1,y2,y3)
 | _,_,_=>none
def qSQ:Ex->List V->List Obj->Option (LI×Int×LI×LI×Int×LI):=fun e vs objs=>match e,vs,objs with
 | .exit 4,[.s (.ptr 0 0 none 0),.s (.ptr 1 0 none 0),.agg [.arr .i8 16 y0],.s (.i .i64 y1)],[.cells 29 [.arr .i8 81 y2,.arr .i8 16 y3,.one [.i .i8 y4]],.cells 131 [.arr .i64 2 y5]]=>some (y0,y1,y2,y3,y4,y5)
 | _,_,_=>none
def qSO:Ex->List V->List Obj->Option (LI×LI×Int×LI):=fun e vs objs=>match e,vs,objs with
 | .exit 2,[.s (.ptr 0 0 none 0),.s (.ptr 1 0 none 0)],[.cells 29 [.arr .i8 81 y0,.arr .i8 16 y1,.one [.i .i8 y2]],.cells 131 [.arr .i64 2 y3]]=>some (y0,y1,y2,y3)
 | _,_,_=>none
def qSW:HL:=fun vs objs K=>match vs,objs with
 | [.s (.ptr 0 0 none 0),.s (.ptr 1 0 none 0),.agg [.arr .i8 81 x0],.s (.i .i64 x1)],[.cells 29 [.arr .i8 81 x2,.arr .i8 16 x3,.one [.i .i8 x4]],.cells 131 [.arr .i64 2 x5]]=>ob (qB2 qC x0 x1 x2 x3 x4 x5) fun z=>K (.exit 0) ([.s (.ptr 0 0 none 0),.s (.ptr 1 0 none 0)]) ([.cells 29 [.arr .i8 81 (z.1),.arr .i8 16 (z.2.1),.one [.i .i8 (z.2.2.1)]],.cells 131 [.arr .i64 2 (z.2.2.2)]])
 | _,_=>none
def qSV:HL:=fun vs objs K=>match vs,objs with
 | [.s (.ptr 0 0 none 0),.s (.ptr 1 0 none 0),.s (.i .i64 x0),.agg [.arr .i8 16 x1],.s (.i .i64 x2),.agg [.arr .i8 8 x3],.s (.i .i64 x4)],[.cells 29 [.arr .i8 81 x5,.arr .i8 16 x6,.one [.i .i8 x7]],.cells 131 [.arr .i64 2 x8]]=>ob (qCg qC x0 x1 x2 x3 x4 x5 x6 x7 x8) fun z=>K (.exit 4) ([.s (.ptr 0 0 none 0),.s (.ptr 1 0 none 0),.agg [.arr .i8 16 (z.1)],.s (.i .i64 (z.2.1))]) ([.cells 29 [.arr .i8 81 (z.2.2.1),.arr .i8 16 (z.2.2.2.1),.one [.i .i8 (z.2.2.2.2.1)]],.cells 131 [.arr .i64 2 (z.2.2.2.2.2)]])
 | _,_=>none
def qSU:HL:=fun vs objs K=>match vs,objs with
 | [.s (.ptr 0 0 none 0),.s (.ptr 1 0 none 0),.agg [.arr .i8 16 x0],.s (.i .i64 x1)],[.cells 29 [.arr .i8 81 x2,.arr .i8 16 x3,.one [.i .i8 x4]],.cells 131 [.arr .i64 2 x5]]=>ob (qFo qC x0 x1 x2 x3 x4 x5) fun z=>K (.exit 2) ([.s (.ptr 0 0 none 0),.s (.ptr 1 0 none 0)]) ([.cells 29 [.arr .i8 81 (z.1),.arr .i8 16 (z.2.1),.one [.i .i8 (z.2.2.1)]],.cells 131 [.arr .i64 2 (z.2.2.2)]])
 | _,_=>none
def qrO:{R:Type}->Nat->List V->List Obj->(Ex->List V->List Obj->Option R)->Option R:=fun q vs objs K=>bif Nat.beq q 3 then qSW vs objs K else bif Nat.beq q 13 then qSV vs objs K else bif Nat.beq q 10 then qSU vs objs K else none
def qFn:Ctx:=mkC 74 ((qdR (qdj (qSX (qCt (qFH qM)))))) [(3,[1,3,12,13],[1,3]),(10,[1,3,39,40],[1,3]),(13,[1,3,7,39,40,44,45],[1,3,39,40])] qrO
theorem qMe:CtxOK Tryz.prog qFn:=mkC_ok ((qrJ _ (qra _ (qdb _ (qC8 _ (qGH _ qO))))))
def qST (f:Nat) (x0:LI) (x1:Int) (x2 x3:LI) (x4:Int) (x5:LI):Option (LI×LI×Int×LI):=qh qFn 0 [1,3,12,13] [1,3] (qG Tryz.f45 3) f ([.s (.ptr 0 0 none 0),.s (.ptr 1 0 none 0),.agg [.arr .i8 81 x0],.s (.i .i64 x1)]) ([.cells 29 [.arr .i8 81 x2,.arr .i8 16 x3,.one [.i .i8 x4]],.cells 131 [.arr .i64 2 x5]]) qSS
theorem qrN (f:Nat) (x0:LI) (x1:Int) (x2 x3:LI) (x4:Int) (x5:LI):qST (f+1) x0 x1 x2 x3 x4 x5=qMg (qST f) x0 x1 x2 x3 x4 x5:=by kernel_rfl
theorem qdW:∀ f,qST f=qB2 f
 | 0=>rfl
 | f+1=>by funext x0 x1 x2 x3 x4 x5;rw[qrN,qdW f];rfl
def qSR (f:Nat) (x0:Int) (x1:LI) (x2:Int) (x3:LI) (x4:Int) (x5 x6:LI) (x7:Int) (x8:LI):Option (LI×Int×LI×LI×Int×LI):=qh qFn 0 [1,3,7,39,40,44,45] [1,3,39,40] (qG Tryz.f45 13) f ([.s (.ptr 0 0 none 0),.s (.ptr 1 0 none 0),.s (.i .i64 x0),.agg [.arr .i8 16 x1],.s (.i .i64 x2),.agg [.arr .i8 8 x3],.s (.i .i64 x4)]) ([.cells 29 [.arr .i8 81 x5,.arr .i8 16 x6,.one [.i .i8 x7]],.cells 131 [.arr .i64 2 x8]]) qSQ
theorem qrM (f:Nat) (x0:Int) (x1:LI) (x2:Int) (x3:LI) (x4:Int) (x5 x6:LI) (x7:Int) (x8:LI):qSR (f+1) x0 x1 x2 x3 x4 x5 x6 x7 x8=qMf (qSR f) x0 x1 x2 x3 x4 x5 x6 x7 x8:=by kernel_rfl
theorem qdV:∀ f,qSR f=qCg f
 | 0=>rfl
 | f+1=>by funext x0 x1 x2 x3 x4 x5 x6 x7 x8;rw[qrM,qdV f];rfl
def qSP (f:Nat) (x0:LI) (x1:Int) (x2 x3:LI) (x4:Int) (x5:LI):Option (LI×LI×Int×LI):=qh qFn 0 [1,3,39,40] [1,3] (qG Tryz.f45 10) f ([.s (.ptr 0 0 none 0),.s (.ptr 1 0 none 0),.agg [.arr .i8 16 x0],.s (.i .i64 x1)]) ([.cells 29 [.arr .i8 81 x2,.arr .i8 16 x3,.one [.i .i8 x4]],.cells 131 [.arr .i64 2 x5]]) qSO
theorem qrL (f:Nat) (x0:LI) (x1:Int) (x2 x3:LI) (x4:Int) (x5:LI):qSP (f+1) x0 x1 x2 x3 x4 x5=qKB (qSP f) x0 x1 x2 x3 x4 x5:=by kernel_rfl
theorem qdU:∀ f,qSP f=qFo f
 | 0=>rfl
 | f+1=>by funext x0 x1 x2 x3 x4 x5;rw[qrL,qdU f];rfl
theorem qrS:qe Tryz.prog qFn 0 (qG Tryz.f45 3):=
 qj mixed qMe (qT.of (l':=[]) (by kernel_rfl) trivial) (q:=3) (kin:=[1,3,12,13]) (kout:=[1,3]) (by kernel_rfl) (by kernel_rfl) fun vs objs K r h=>by
  replace h:qSW vs objs K=some r:=h
  unfold qSW at h
  split at h
  ·skip
   obtain⟨t,h1,h2⟩:=qF h
   rw[<- qdW] at h1
   refine⟨_,qSS,t,qC,h1,fun e vs' objs' hd=>?_⟩
   unfold qSS at hd;split at hd;(cases hd;exact h2);cases hd
  ·cases h
theorem qrR:qe Tryz.prog qFn 0 (qG Tryz.f45 13):=
 qj mixed qMe (qT.of (l':=[]) (by kernel_rfl) trivial) (q:=13) (kin:=[1,3,7,39,40,44,45]) (kout:=[1,3,39,40]) (by kernel_rfl) (by kernel_rfl) fun vs objs K r h=>by
  replace h:qSV vs objs K=some r:=h
  unfold qSV at h
  split at h
  ·skip
   obtain⟨t,h1,h2⟩:=qF h
   rw[<- qdV] at h1
   refine⟨_,qSQ,t,qC,h1,fun e vs' objs' hd=>?_⟩
   unfold qSQ at hd;split at hd;(cases hd;exact h2);cases hd
  ·cases h
theorem qrQ:qe Tryz.prog qFn 0 (qG Tryz.f45 10):=
 qj mixed qMe (qT.of (l':=[qG Tryz.f45 13]) (by kernel_rfl) ⟨qrR,trivial⟩) (q:=10) (kin:=[1,3,39,40]) (kout:=[1,3]) (by kernel_rfl) (by kernel_rfl) fun vs objs K r h=>by
  replace h:qSU vs objs K=some r:=h
  unfold qSU at h
  split at h
  ·skip
   obtain⟨t,h1,h2⟩:=qF h
   rw[<- qdU] at h1
   refine⟨_,qSO,t,qC,h1,fun e vs' objs' hd=>?_⟩
   unfold qSO at hd;split at hd;(cases hd;exact h2);cases hd
  ·cases h
def qdT:V->List Obj->Option (Int):=fun v objs=>match v,objs with
 | .s (.i .i64 y0),[]=>some (y0)
 | _,_=>none
theorem qrK (x0 x1:LI) (x2:Int):fnE qFn Tryz.f45 ([.agg [.arr .i8 81 x0,.arr .i8 16 x1,.one [.i .i8 x2]]]) ([]) qdT=qIZ x0 x1 x2:=by kernel_rfl
def qdS:HA:=fun o vs objs K=>match vs,objs with
 | [.agg [.arr .i8 81 x0,.arr .i8 16 x1,.one [.i .i8 x2]]],[]=>ob (qIZ x0 x1 x2) fun y0=>K false (.s (.i .i64 y0)) ([])
 | _,_=>o 45 vs objs K
def qdX (o:Orc):Orc:=qP 45 (qdS o) o
theorem qrP:OQ Tryz.prog qdX:=fun _ ho=>qQ ho fun vs objs K r h=>by
 unfold qdS at h
 split at h
 ·skip
  obtain⟨t,h1,h2⟩:=qF h
  refine qAe mixed qMe (fn:=Tryz.f45) (b:=(Tryz.f45).body.getD .skip) (by kernel_rfl) (by kernel_rfl) (by kernel_rfl) ((qrK _ _ _).trans h1) (m:=0) rfl (qT.of (l':=[qG Tryz.f45 3,qG Tryz.f45 10]) (by kernel_rfl) ⟨qrS,qrQ,trivial⟩) fun v objs' hd=>?_
  unfold qdT at hd;split at hd;(cases hd;exact h2);cases hd
 ·exact ho _ _ _ _ _ h
def qc7:Ctx:=mkC 19 ((qOO qM)) [] qW
theorem qqy:CtxOK Tryz.prog qc7:=mkC_ok ((qVm _ qO))
def qc8:V->List Obj->Option (Nat):=fun v objs=>match v,objs with
 | .s (.ptr 1 0 (some (y0,1)) 0),[]=>some (y0)
 | _,_=>none
theorem qqx (x0 x1:LI) (x2:Int) (x3:Nat) (x4:Int) (x5:Nat) (x6:LL):fnE qc7 Tryz.f99 ([.s (.ptr 0 0 none 0),.agg [.arr .i8 81 x0,.arr .i8 16 x1,.one [.i .i8 x2]]]) ([.rcells 104 [.one [.sl 1 0 x3 true,.i .i64 x4]],.sli 135 true (.rows kL0 x5 x6)]) (qAc 2 qc8)=qEg x0 x1 x2 x3 x4 x5 x6:=by kernel_rfl
def qc6:HA:=fun o vs objs K=>match vs,List.map Obj.toRO objs with
 | [.s (.ptr 0 0 none 0),.agg [.arr .i8 81 x0,.arr .i8 16 x1,.one [.i .i8 x2]]],[.rcells 104 [.one [.sl 1 0 x3 true,.i .i64 x4]],.sli 135 true (.rows kk0 x5 x6)]=>bif decide (kk0=kL0) then ob (qEg x0 x1 x2 x3 x4 x5 x6) fun y0=>K true (.s (.ptr 1 0 (some (y0,1)) 0)) ([]) else none
 | _,_=>o 99 vs objs K
def qSF (o:Orc):Orc:=qP 99 (qc6 o) o
theorem qc9:OQ Tryz.prog qSF:=fun _ ho=>qQ ho fun vs objs K r h=>by
 unfold qc6 at h
 split at h
 ·skip
  have g:=(qN h).1
  replace h:=(qN h).2
  obtain rfl:=of_decide_eq_true g
  have hq:List.map Obj.toRO objs=_:=(by rename_i hq;first | exact hq | assumption)
  obtain⟨t,h1,h2⟩:=qF h
  refine qAi mixed qqy (m:=2) (fn:=Tryz.f99) (b:=(Tryz.f99).body.getD .skip) (by kernel_rfl) (by kernel_rfl) (by kernel_rfl) hq (by kernel_rfl) (by kernel_rfl) (qT.of (l':=[]) (by kernel_rfl) trivial) ((qqx _ _ _ _ _ _ _).trans h1) fun v objs' hd=>?_
  unfold qc8 at hd;split at hd;(cases hd;exact h2);cases hd
 ·exact ho _ _ _ _ _ h
def qcz:Ctx:=mkC 28 ((qSF qM)) [] qW
theorem qqs:CtxOK Tryz.prog qcz:=mkC_ok ((qc9 _ qO))
def qc0:V->List Obj->Option (Int×Int×Int×Int×Int×Int×Bool×Bool):=fun v objs=>match v,objs with
 | .tup [W.agg [.one [.i .i64 y0,.i .i64 y1,.i .i64 y2,.i .i64 y3,.i .i64 y4,.i .i64 y5,.b y6]],W.s (.b y7)],[]=>some (y0,y1,y2,y3,y4,y5,y6,y7)
 | _,_=>none
theorem qqr (x0 x1:LI) (x2:Int) (x3:Nat) (x4:Int) (x5:Nat) (x6:LL):fnE qcz Tryz.f46 ([.s (.ptr 0 0 none 0),.agg [.arr .i8 81 x0,.arr .i8 16 x1,.one [.i .i8 x2]]]) ([.rcells 104 [.one [.sl 1 0 x3 true,.i .i64 x4]],.sli 135 true (.rows kL0 x5 x6)]) (qAc 2 qc0)=qD1 x0 x1 x2 x3 x4 x5 x6:=by kernel_rfl
def qcy:HA:=fun o vs objs K=>match vs,List.map Obj.toRO objs with
 | [.s (.ptr 0 0 none 0),.agg [.arr .i8 81 x0,.arr .i8 16 x1,.one [.i .i8 x2]]],[.rcells 104 [.one [.sl 1 0 x3 true,.i .i64 x4]],.sli 135 true (.rows kk0 x5 x6)]=>bif decide (kk0=kL0) then ob (qD1 x0 x1 x2 x3 x4 x5 x6) fun z=>K true (.tup [W.agg [.one [.i .i64 (z.1),.i .i64 (z.2.1),.i .i64 (z.2.2.1),.i .i64 (z.2.2.2.1),.i .i64 (z.2.2.2.2.1),.i .i64 (z.2.2.2.2.2.1),.b (z.2.2.2.2.2.2.1)]],W.s (.b (z.2.2.2.2.2.2.2))]) ([]) else none
 | _,_=>o 46 vs objs K
def qc1 (o:Orc):Orc:=qP 46 (qcy o) o
theorem qqt:OQ Tryz.prog qc1:=fun _ ho=>qQ ho fun vs objs K r h=>by
 unfold qcy at h
 split at h
 ·skip
  have g:=(qN h).1
  replace h:=(qN h).2
  obtain rfl:=of_decide_eq_true g
  have hq:List.map Obj.toRO objs=_:=(by rename_i hq;first | exact hq | assumption)
  obtain⟨t,h1,h2⟩:=qF h
  refine qAi mixed qqs (m:=2) (fn:=Tryz.f46) (b:=(Tryz.f46).body.getD .skip) (by kernel_rfl) (by kernel_rfl) (by kernel_rfl) hq (by kernel_rfl) (by kernel_rfl) (qT.of (l':=[]) (by kernel_rfl) trivial) ((qqr _ _ _ _ _ _ _).trans h1) fun v objs' hd=>?_
  unfold qc0 at hd;split at hd;(cases hd;exact h2);cases hd
 ·exact ho _ _ _ _ _ h
def qa3:Ctx:=mkC 18 (qM) [] qW
theorem qor:CtxOK Tryz.prog qa3:=mkC_ok (qO)
def qa4:V->List Obj->Option (Int):=fun v objs=>match v,objs with
 | .s (.i .i64 y0),[]=>some (y0)
 | _,_=>none
theorem qoq (x0 x1:Int):fnE qa3 Tryz.f47 ([.s (.i .i64 x0),.s (.i .i64 x1)]) ([]) qa4=qFa x0 x1:=by kernel_rfl
def qa2:HA:=fun o vs objs K=>match vs,objs with
 | [.s (.i .i64 x0),.s (.i .i64 x1)],[]=>ob (qFa x0 x1) fun y0=>K false (.s (.i .i64 y0)) ([])
 | _,_=>o 47 vs objs K
def qa5 (o:Orc):Orc:=qP 47 (qa2 o) o
theorem qos:OQ Tryz.prog qa5:=fun _ ho=>qQ ho fun vs objs K r h=>by
 unfold qa2 at h
 split at h
 ·skip
  obtain⟨t,h1,h2⟩:=qF h
  refine qa mixed qor ((qoq _ _).trans h1) (by kernel_rfl) fun v objs' hd=>?_
  unfold qa4 at hd;split at hd;(cases hd;exact h2);cases hd
 ·exact ho _ _ _ _ _ h
def qRs:Ex->List V->List Obj->Option ((Int×Nat×LL)⊕(Nat×LL)):=fun e vs objs=>match e,vs,objs with
 | .ret,[.s (.i .i64 y0)],[.sli 41 true (.rows [.i .i64,.i .i64,.i .i64,.b] y1 y2)]=>some (.inl (y0,y1,y2))
 | .exit 0,[.s .bad],[.sli 41 true (.rows [.i .i64,.i .i64,.i .i64,.b] y0 y1)]=>some (.inr (y0,y1))
 | _,_,_=>none
def qRu:HL:=fun vs objs K=>match vs,objs with
 | [.s (.sl 0 0 x0 true),.s (.ptr 1 0 none 0),.s (.i .i64 x1),.s (.i .i64 x2)],[.sli 41 true (.rows [.i .i64,.i .i64,.i .i64,.b] x3 x4),.cells 41 [.one [.i .i64 x5,.i .i64 x6,.i .i64 x7,.b x8]]]=>ob (qDy qC x0 x1 x2 x3 x4 x5 x6 x7 x8) fun t0=>sw t0 (fun z=>K (.ret) ([.s (.i .i64 (z.1))]) ([.sli 41 true (.rows [.i .i64,.i .i64,.i .i64,.b] (z.2.1) (z.2.2))])) (fun z=>K (.exit 0) ([.s .bad]) ([.sli 41 true (.rows [.i .i64,.i .i64,.i .i64,.b] (z.1) (z.2))]))
 | _,_=>none
def qpy:{R:Type}->Nat->List V->List Obj->(Ex->List V->List Obj->Option R)->Option R:=fun q vs objs K=>bif Nat.beq q 2 then qRu vs objs K else none
def qMS:Ctx:=mkC 19 (qM) [(2,[0,3,7,8],[4])] qpy
theorem qcF:CtxOK Tryz.prog qMS:=mkC_ok (qO)
def qRt (f:Nat) (x0:Nat) (x1 x2:Int) (x3:Nat) (x4:LL) (x5 x6 x7:Int) (x8:Bool):Option ((Int×Nat×LL)⊕(Nat×LL)):=qh qMS 1 [0,3,7,8] [4] (qG Tryz.f48 2) f ([.s (.sl 0 0 x0 true),.s (.ptr 1 0 none 0),.s (.i .i64 x1),.s (.i .i64 x2)]) ([.sli 41 true (.rows [.i .i64,.i .i64,.i .i64,.b] x3 x4),.cells 41 [.one [.i .i64 x5,.i .i64 x6,.i .i64 x7,.b x8]]]) qRs
theorem qpx (f:Nat) (x0:Nat) (x1 x2:Int) (x3:Nat) (x4:LL) (x5 x6 x7:Int) (x8:Bool):qRt (f+1) x0 x1 x2 x3 x4 x5 x6 x7 x8=qMT (qRt f) x0 x1 x2 x3 x4 x5 x6 x7 x8:=by kernel_rfl
theorem qcH:∀ f,qRt f=qDy f
 | 0=>rfl
 | f+1=>by funext x0 x1 x2 x3 x4 x5 x6 x7 x8;rw[qpx,qcH f];rfl
theorem qp0:qe Tryz.prog qMS 1 (qG Tryz.f48 2):=
 qj mixed qcF (qT.of (l':=[]) (by kernel_rfl) trivial) (q:=2) (kin:=[0,3,7,8]) (kout:=[4]) (by kernel_rfl) (by kernel_rfl) fun vs objs K r h=>by
  replace h:qRu vs objs K=some r:=h
  unfold qRu at h
  split at h
  ·skip
   obtain⟨t,h1,h2⟩:=qF h
   rw[<- qcH] at h1
   refine⟨_,qRs,t,qC,h1,fun e vs' objs' hd=>?_⟩
   unfold qRs at hd
   split at hd
   ·skip
    cases hd
    exact h2
   ·skip
    cases hd
    exact h2
   ·cases hd
  ·cases h
def qcG:V->List Obj->Option (Int):=fun v objs=>match v,objs with
 | .s (.i .i64 y0),[]=>some (y0)
 | _,_=>none
theorem qpw (x0:Nat) (x1 x2 x3:Int) (x4:Bool) (x5:Nat) (x6:LL):fnE qMS Tryz.f48 ([.s (.sl 0 0 x0 true),.agg [.one [.i .i64 x1,.i .i64 x2,.i .i64 x3,.b x4]]]) ([.sli 41 true (.rows [.i .i64,.i .i64,.i .i64,.b] x5 x6)]) (qAc 1 qcG)=qIP x0 x1 x2 x3 x4 x5 x6:=by kernel_rfl
def qcE:HA:=fun o vs objs K=>match vs,List.map Obj.toRO objs with
 | [.s (.sl 0 0 x0 true),.agg [.one [.i .i64 x1,.i .i64 x2,.i .i64 x3,.b x4]]],[.sli 41 true (.rows [.i .i64,.i .i64,.i .i64,.b] x5 x6)]=>ob (qIP x0 x1 x2 x3 x4 x5 x6) fun y0=>K true (.s (.i .i64 y0)) ([])
 | _,_=>o 48 vs objs K
def qcI (o:Orc):Orc:=qP 48 (qcE o) o
theorem qpz:OQ Tryz.prog qcI:=fun _ ho=>qQ ho fun vs objs K r h=>by
 unfold qcE at h
 split at h
 ·skip
  have hq:List.map Obj.toRO objs=_:=(by rename_i hq;first | exact hq | assumption)
  obtain⟨t,h1,h2⟩:=qF h
  refine qAi mixed qcF (m:=1) (fn:=Tryz.f48) (b:=(Tryz.f48).body.getD .skip) (by kernel_rfl) (by kernel_rfl) (by kernel_rfl) hq (by kernel_rfl) (by kernel_rfl) (qT.of (l':=[qG Tryz.f48 2]) (by kernel_rfl) ⟨qp0,trivial⟩) ((qpw _ _ _ _ _ _ _).trans h1) fun v objs' hd=>?_
  unfold qcG at hd;split at hd;(cases hd;exact h2);cases hd
 ·exact ho _ _ _ _ _ h
def qW3:Ctx:=mkC 48 (qM) [] qW
theorem qjf:CtxOK Tryz.prog qW3:=mkC_ok (qO)
def qW4:V->List Obj->Option (Int):=fun v objs=>match v,objs with
 | .s (.i .i64 y0),[]=>some (y0)
 | _,_=>none
theorem qje (x0 x1 x2:Int) (x3:Bool):fnE qW3 Tryz.f115 ([.agg [.one [.i .i64 x0,.i .i64 x1,.i .i64 x2,.b x3]]]) ([]) qW4=qDZ x0 x1 x2 x3:=by kernel_rfl
def qW2:HA:=fun o vs objs K=>match vs,objs with
 | [.agg [.one [.i .i64 x0,.i .i64 x1,.i .i64 x2,.b x3]]],[]=>ob (qDZ x0 x1 x2 x3) fun y0=>K false (.s (.i .i64 y0)) ([])
 | _,_=>o 115 vs objs K
def qW5 (o:Orc):Orc:=qP 115 (qW2 o) o
theorem qjg:OQ Tryz.prog qW5:=fun _ ho=>qQ ho fun vs objs K r h=>by
 unfold qW2 at h
 split at h
 ·skip
  obtain⟨t,h1,h2⟩:=qF h
  refine qa mixed qjf ((qje _ _ _ _).trans h1) (by kernel_rfl) fun v objs' hd=>?_
  unfold qW4 at hd;split at hd;(cases hd;exact h2);cases hd
 ·exact ho _ _ _ _ _ h
def qUC:Ctx:=mkC 104 ((qLW (qCt (qFH (qFx (qKO (qW5 qM))))))) [] qW
theorem qgM:CtxOK Tryz.prog qUC:=mkC_ok ((qPZ _ (qC8 _ (qGH _ (qGx _ (qNF _ (qjg _ qO)))))))
def qUD:V->List Obj->Option (Bool):=fun v objs=>match v,objs with
 | .s (.b y0),[]=>some (y0)
 | _,_=>none
theorem qgL (x0 x1 x2:Int) (x3:Bool) (x4:Int) (x5:Nat) (x6 x7:LI) (x8:Int) (x9 x10:LL) (x11:Nat) (x12:LL):fnE qUC Tryz.f83 ([.s (.ptr 0 0 none 0),.agg [.one [.i .i64 x0,.i .i64 x1,.i .i64 x2,.b x3]]]) ([.rcells 65 [.one [.ptr 1 0 none 0,.i .u64 x4,.sl 2 0 x5 true]],.rcells 84 [.arr .i8 81 x6,.arr .i8 16 x7,.one [.i .i8 x8],.rows [.i .u64,.i .u64] 32 x9,.rows [.i .u64,.i .u64] 2 x10],.sli 125 true (.rows [.i .i64,.i .i64,.i .i64,.b,.i .i8,.i .i8] x11 x12)]) (qAc 3 qUD)=qEE x0 x1 x2 x3 x4 x5 x6 x7 x8 x9 x10 x11 x12:=by kernel_rfl
def qUB:HA:=fun o vs objs K=>match vs,List.map Obj.toRO objs with
 | [.s (.ptr 0 0 none 0),.agg [.one [.i .i64 x0,.i .i64 x1,.i .i64 x2,.b x3]]],[.rcells 65 [.one [.ptr 1 0 none 0,.i .u64 x4,.sl 2 0 x5 true]],.rcells 84 [.arr .i8 81 x6,.arr .i8 16 x7,.one [.i .i8 x8],.rows [.i .u64,.i .u64] 32 x9,.rows [.i .u64,.i .u64] 2 x10],.sli 125 true (.rows [.i .i64,.i .i64,.i .i64,.b,.i .i8,.i .i8] x11 x12)]=>ob (qEE x0 x1 x2 x3 x4 x5 x6 x7 x8 x9 x10 x11 x12) fun y0=>K true (.s (.b y0)) ([])
 | _,_=>o 83 vs objs K
def qUE (o:Orc):Orc:=qP 83 (qUB o) o
theorem qgN:OQ Tryz.prog qUE:=fun _ ho=>qQ ho fun vs objs K r h=>by
 unfold qUB at h
 split at h
 ·skip
  have hq:List.map Obj.toRO objs=_:=(by rename_i hq;first | exact hq | assumption)
  obtain⟨t,h1,h2⟩:=qF h
  refine qAi mixed qgM (m:=3) (fn:=Tryz.f83) (b:=(Tryz.f83).body.getD .skip) (by kernel_rfl) (by kernel_rfl) (by kernel_rfl) hq (by kernel_rfl) (by kernel_rfl) (qT.of (l':=[]) (by kernel_rfl) trivial) ((qgL _ _ _ _ _ _ _ _ _ _ _ _ _).trans h1) fun v objs' hd=>?_
  unfold qUD at hd;split at hd;(cases hd;exact h2);cases hd
 ·exact ho _ _ _ _ _ h
def qUK:Ctx:=mkC 54 ((qOH (qKO qM))) [] qW
theorem qgS:CtxOK Tryz.prog qUK:=mkC_ok ((qVg _ (qNF _ qO)))
def qUL:V->List Obj->Option (Int×Nat×LI×LI×Int×LL×LL×Nat×LL):=fun v objs=>match v,objs with
 | .tup [],[.cells 65 [.one [.ptr 1 0 none 0,.i .u64 y0,.sl 2 0 y1 true]],.cells 84 [.arr .i8 81 y2,.arr .i8 16 y3,.one [.i .i8 y4],.rows [.i .u64,.i .u64] 32 y5,.rows [.i .u64,.i .u64] 2 y6],.sli 125 false (.rows [.i .i64,.i .i64,.i .i64,.b,.i .i8,.i .i8] y7 y8)]=>some (y0,y1,y2,y3,y4,y5,y6,y7,y8)
 | _,_=>none
theorem qgR (x0 x1:Int) (x2 x3:Int) (x4:Nat) (x5 x6:LI) (x7:Int) (x8 x9:LL) (x10:Nat) (x11:LL):fnE qUK Tryz.f84 ([.s (.ptr 0 0 none 0),.s (.i .i64 x0),.s (.i .i64 x1),.s (.i .i64 x2)]) ([.cells 65 [.one [.ptr 1 0 none 0,.i .u64 x3,.sl 2 0 x4 true]],.cells 84 [.arr .i8 81 x5,.arr .i8 16 x6,.one [.i .i8 x7],.rows [.i .u64,.i .u64] 32 x8,.rows [.i .u64,.i .u64] 2 x9],.sli 125 false (.rows [.i .i64,.i .i64,.i .i64,.b,.i .i8,.i .i8] x10 x11)]) qUL=qDO x0 x1 x2 x3 x4 x5 x6 x7 x8 x9 x10 x11:=by kernel_rfl
def qUJ:HA:=fun o vs objs K=>match vs,objs with
 | [.s (.ptr 0 0 none 0),.s (.i .i64 x0),.s (.i .i64 x1),.s (.i .i64 x2)],[.cells 65 [.one [.ptr 1 0 none 0,.i .u64 x3,.sl 2 0 x4 true]],.cells 84 [.arr .i8 81 x5,.arr .i8 16 x6,.one [.i .i8 x7],.rows [.i .u64,.i .u64] 32 x8,.rows [.i .u64,.i .u64] 2 x9],.sli 125 false (.rows [.i .i64,.i .i64,.i .i64,.b,.i .i8,.i .i8] x10 x11)]=>ob (qDO x0 x1 x2 x3 x4 x5 x6 x7 x8 x9 x10 x11) fun z=>K false (.tup []) ([.cells 65 [.one [.ptr 1 0 none 0,.i .u64 (z.1),.sl 2 0 (z.2.1) true]],.cells 84 [.arr .i8 81 (z.2.2.1),.arr .i8 16 (z.2.2.2.1),.one [.i .i8 (z.2.2.2.2.1)],.rows [.i .u64,.i .u64] 32 (z.2.2.2.2.2.1),.rows [.i .u64,.i .u64] 2 (z.2.2.2.2.2.2.1)],.sli 125 false (.rows [.i .i64,.i .i64,.i .i64,.b,.i .i8,.i .i8] (z.2.2.2.2.2.2.2.1) (z.2.2.2.2.2.2.2.2))])
 | _,_=>o 84 vs objs K
def qNb (o:Orc):Orc:=qP 84 (qUJ o) o
theorem qUM:OQ Tryz.prog qNb:=fun _ ho=>qQ ho fun vs objs K r h=>by
 unfold qUJ at h
 split at h
 ·skip
  obtain⟨t,h1,h2⟩:=qF h
  refine qa mixed qgS ((qgR _ _ _ _ _ _ _ _ _ _ _ _).trans h1) (by kernel_rfl) fun v objs' hd=>?_
  unfold qUL at hd;split at hd;(cases hd;exact h2);cases hd
 ·exact ho _ _ _ _ _ h
def qUO:Ctx:=mkC 32 ((qKR (qOS (qFx qM)))) [] qW
theorem qgU:CtxOK Tryz.prog qUO:=mkC_ok ((qNL _ (qVq _ (qGx _ qO))))
def qUP:V->List Obj->Option (Int×Nat×LI×LI×Int×LL×LL×Nat×LL):=fun v objs=>match v,objs with
 | .tup [],[.cells 65 [.one [.ptr 1 0 none 0,.i .u64 y0,.sl 2 0 y1 true]],.cells 84 [.arr .i8 81 y2,.arr .i8 16 y3,.one [.i .i8 y4],.rows [.i .u64,.i .u64] 32 y5,.rows [.i .u64,.i .u64] 2 y6],.sli 125 false (.rows [.i .i64,.i .i64,.i .i64,.b,.i .i8,.i .i8] y7 y8)]=>some (y0,y1,y2,y3,y4,y5,y6,y7,y8)
 | _,_=>none
theorem qgT (x0 x1 x2:Int) (x3:Nat) (x4 x5:LI) (x6:Int) (x7 x8:LL) (x9:Nat) (x10:LL):fnE qUO Tryz.f85 ([.s (.ptr 0 0 none 0),.s (.i .i64 x0),.s (.i .i8 x1)]) ([.cells 65 [.one [.ptr 1 0 none 0,.i .u64 x2,.sl 2 0 x3 true]],.cells 84 [.arr .i8 81 x4,.arr .i8 16 x5,.one [.i .i8 x6],.rows [.i .u64,.i .u64] 32 x7,.rows [.i .u64,.i .u64] 2 x8],.sli 125 false (.rows [.i .i64,.i .i64,.i .i64,.b,.i .i8,.i .i8] x9 x10)]) qUP=qB8 x0 x1 x2 x3 x4 x5 x6 x7 x8 x9 x10:=by kernel_rfl
def qUN:HA:=fun o vs objs K=>match vs,objs with
 | [.s (.ptr 0 0 none 0),.s (.i .i64 x0),.s (.i .i8 x1)],[.cells 65 [.one [.ptr 1 0 none 0,.i .u64 x2,.sl 2 0 x3 true]],.cells 84 [.arr .i8 81 x4,.arr .i8 16 x5,.one [.i .i8 x6],.rows [.i .u64,.i .u64] 32 x7,.rows [.i .u64,.i .u64] 2 x8],.sli 125 false (.rows [.i .i64,.i .i64,.i .i64,.b,.i .i8,.i .i8] x9 x10)]=>ob (qB8 x0 x1 x2 x3 x4 x5 x6 x7 x8 x9 x10) fun z=>K false (.tup []) ([.cells 65 [.one [.ptr 1 0 none 0,.i .u64 (z.1),.sl 2 0 (z.2.1) true]],.cells 84 [.arr .i8 81 (z.2.2.1),.arr .i8 16 (z.2.2.2.1),.one [.i .i8 (z.2.2.2.2.1)],.rows [.i .u64,.i .u64] 32 (z.2.2.2.2.2.1),.rows [.i .u64,.i .u64] 2 (z.2.2.2.2.2.2.1)],.sli 125 false (.rows [.i .i64,.i .i64,.i .i64,.b,.i .i8,.i .i8] (z.2.2.2.2.2.2.2.1) (z.2.2.2.2.2.2.2.2))])
 | _,_=>o 85 vs objs K
def qNc (o:Orc):Orc:=qP 85 (qUN o) o
theorem qUQ:OQ Tryz.prog qNc:=fun _ ho=>qQ ho fun vs objs K r h=>by
 unfold qUN at h
 split at h
 ·skip
  obtain⟨t,h1,h2⟩:=qF h
  refine qa mixed qgU ((qgT _ _ _ _ _ _ _ _ _ _ _).trans h1) (by kernel_rfl) fun v objs' hd=>?_
  unfold qUP at hd;split at hd;(cases hd;exact h2);cases hd
 ·exact ho _ _ _ _ _ h
def qUS:Ctx:=mkC 26 ((qOT qM)) [] qW
theorem qgW:CtxOK Tryz.prog qUS:=mkC_ok ((qVu _ qO))
def qUT:V->List Obj->Option (Int×Nat×LI×LI×Int×LL×LL×Nat×LL):=fun v objs=>match v,objs with
 | .tup [],[.cells 65 [.one [.ptr 1 0 none 0,.i .u64 y0,.sl 2 0 y1 true]],.cells 84 [.arr .i8 81 y2,.arr .i8 16 y3,.one [.i .i8 y4],.rows [.i .u64,.i .u64] 32 y5,.rows [.i .u64,.i .u64] 2 y6],.sli 125 false (.rows [.i .i64,.i .i64,.i .i64,.b,.i .i8,.i .i8] y7 y8)]=>some (y0,y1,y2,y3,y4,y5,y6,y7,y8)
 | _,_=>none
theorem qgV (x0:Int) (x1:Nat) (x2 x3:LI) (x4:Int) (x5 x6:LL) (x7:Nat) (x8:LL):fnE qUS Tryz.f88 ([.s (.ptr 0 0 none 0)]) ([.cells 65 [.one [.ptr 1 0 none 0,.i .u64 x0,.sl 2 0 x1 true]],.cells 84 [.arr .i8 81 x2,.arr .i8 16 x3,.one [.i .i8 x4],.rows [.i .u64,.i .u64] 32 x5,.rows [.i .u64,.i .u64] 2 x6],.sli 125 false (.rows [.i .i64,.i .i64,.i .i64,.b,.i .i8,.i .i8] x7 x8)]) qUT=qCk x0 x1 x2 x3 x4 x5 x6 x7 x8:=by kernel_rfl
def qUR:HA:=fun o vs objs K=>match vs,objs with
 | [.s (.ptr 0 0 none 0)],[.cells 65 [.one [.ptr 1 0 none 0,.i .u64 x0,.sl 2 0 x1 true]],.cells 84 [.arr .i8 81 x2,.arr .i8 16 x3,.one [.i .i8 x4],.rows [.i .u64,.i .u64] 32 x5,.rows [.i .u64,.i .u64] 2 x6],.sli 125 false (.rows [.i .i64,.i .i64,.i .i64,.b,.i .i8,.i .i8] x7 x8)]=>ob (qCk x0 x1 x2 x3 x4 x5 x6 x7 x8) fun z=>K false (.tup []) ([.cells 65 [.one [.ptr 1 0 none 0,.i .u64 (z.1),.sl 2 0 (z.2.1) true]],.cells 84 [.arr .i8 81 (z.2.2.1),.arr .i8 16 (z.2.2.2.1),.one [.i .i8 (z.2.2.2.2.1)],.rows [.i .u64,.i .u64] 32 (z.2.2.2.2.2.1),.rows [.i .u64,.i .u64] 2 (z.2.2.2.2.2.2.1)],.sli 125 false (.rows [.i .i64,.i .i64,.i .i64,.b,.i .i8,.i .i8] (z.2.2.2.2.2.2.2.1) (z.2.2.2.2.2.2.2.2))])
 | _,_=>o 88 vs objs K
def qNd (o:Orc):Orc:=qP 88 (qUR o) o
theorem qUU:OQ Tryz.prog qNd:=fun _ ho=>qQ ho fun vs objs K r h=>by
 unfold qUR at h
 split at h
 ·skip
  obtain⟨t,h1,h2⟩:=qF h
  refine qa mixed qgW ((qgV _ _ _ _ _ _ _ _ _).trans h1) (by kernel_rfl) fun v objs' hd=>?_
  unfold qUT at hd;split at hd;(cases hd;exact h2);cases hd
 ·exact ho _ _ _ _ _ h
def qXb:Ctx:=mkC 13 ((qGG qM)) [] qW
theorem qlB:CtxOK Tryz.prog qXb:=mkC_ok ((qHi _ qO))
def qXc:V->List Obj->Option (Int):=fun v objs=>match v,objs with
 | .s (.i .i64 y0),[]=>some (y0)
 | _,_=>none
theorem qlA (x0:Int):fnE qXb Tryz.f87 ([.s (.i .i64 x0)]) ([]) qXc=qEP x0:=by kernel_rfl
def qXa:HA:=fun o vs objs K=>match vs,objs with
 | [.s (.i .i64 x0)],[]=>ob (qEP x0) fun y0=>K false (.s (.i .i64 y0)) ([])
 | _,_=>o 87 vs objs K
def qPY (o:Orc):Orc:=qP 87 (qXa o) o
theorem qXd:OQ Tryz.prog qPY:=fun _ ho=>qQ ho fun vs objs K r h=>by
 unfold qXa at h
 split at h
 ·skip
  obtain⟨t,h1,h2⟩:=qF h
  refine qa mixed qlB ((qlA _).trans h1) (by kernel_rfl) fun v objs' hd=>?_
  unfold qXc at hd;split at hd;(cases hd;exact h2);cases hd
 ·exact ho _ _ _ _ _ h
def qUG:Ctx:=mkC 97 ((qPY (qLW (qCt (qNd (qNc (qNb (qGG (qFx (qUE qM)))))))))) [] qW
theorem qgP:CtxOK Tryz.prog qUG:=mkC_ok ((qXd _ (qPZ _ (qC8 _ (qUU _ (qUQ _ (qUM _ (qHi _ (qGx _ (qgN _ qO))))))))))
def qUH:V->List Obj->Option ((Bool×Int×Nat×LI×LI×Int×LL×LL×Nat×LL)⊕(Bool×Int×Nat×LI×LI×Int×LL×LL×Nat×LL)):=fun v objs=>match v,objs with
 | .s (.b y0),[.cells 65 [.one [.ptr 1 0 none 0,.i .u64 y1,.sl 2 0 y2 true]],.cells 84 [.arr .i8 81 y3,.arr .i8 16 y4,.one [.i .i8 y5],.rows [.i .u64,.i .u64] 32 y6,.rows [.i .u64,.i .u64] 2 y7],.sli 125 false (.rows [.i .i64,.i .i64,.i .i64,.b,.i .i8,.i .i8] y8 y9)]=>some (.inl (y0,y1,y2,y3,y4,y5,y6,y7,y8,y9))
 | .s (.b y0),[.cells 65 [.one [.ptr 1 0 none 0,.i .u64 y1,.sl 3 0 y2 true]],.cells 84 [.arr .i8 81 y3,.arr .i8 16 y4,.one [.i .i8 y5],.rows [.i .u64,.i .u64] 32 y6,.rows [.i .u64,.i .u64] 2 y7],Obj.dead,.sli 125 false (.rows [.i .i64,.i .i64,.i .i64,.b,.i .i8,.i .i8] y8 y9)]=>some (.inr (y0,y1,y2,y3,y4,y5,y6,y7,y8,y9))
 | _,_=>none
theorem qgO (x0 x1 x2:Int) (x3:Bool) (x4:Int) (x5:Nat) (x6 x7:LI) (x8:Int) (x9 x10:LL) (x11:Nat) (x12:LL):fnE qUG Tryz.f34 ([.s (.ptr 0 0 none 0),.agg [.one [.i .i64 x0,.i .i64 x1,.i .i64 x2,.b x3]]]) ([.cells 65 [.one [.ptr 1 0 none 0,.i .u64 x4,.sl 2 0 x5 true]],.cells 84 [.arr .i8 81 x6,.arr .i8 16 x7,.one [.i .i8 x8],.rows [.i .u64,.i .u64] 32 x9,.rows [.i .u64,.i .u64] 2 x10],.sli 125 false (.rows [.i .i64,.i .i64,.i .i64,.b,.i .i8,.i .i8] x11 x12)]) qUH=qEw x0 x1 x2 x3 x4 x5 x6 x7 x8 x9 x10 x11 x12:=by kernel_rfl
def qUF:HA:=fun o vs objs K=>match vs,objs with
 | [.s (.ptr 0 0 none 0),.agg [.one [.i .i64 x0,.i .i64 x1,.i .i64 x2,.b x3]]],[.cells 65 [.one [.ptr 1 0 none 0,.i .u64 x4,.sl 2 0 x5 true]],.cells 84 [.arr .i8 81 x6,.arr .i8 16 x7,.one [.i .i8 x8],.rows [.i .u64,.i .u64] 32 x9,.rows [.i .u64,.i .u64] 2 x10],.sli 125 false (.rows [.i .i64,.i .i64,.i .i64,.b,.i .i8,.i .i8] x11 x12)]=>ob (qEw x0 x1 x2 x3 x4 x5 x6 x7 x8 x9 x10 x11 x12) fun t0=>sw t0 (fun z=>K false (.s (.b (z.1))) ([.cells 65 [.one [.ptr 1 0 none 0,.i .u64 (z.2.1),.sl 2 0 (z.2.2.1) true]],.cells 84 [.arr .i8 81 (z.2.2.2.1),.arr .i8 16 (z.2.2.2.2.1),.one [.i .i8 (z.2.2.2.2.2.1)],.rows [.i .u64,.i .u64] 32 (z.2.2.2.2.2.2.1),.rows [.i .u64,.i .u64] 2 (z.2.2.2.2.2.2.2.1)],.sli 125 false (.rows [.i .i64,.i .i64,.i .i64,.b,.i .i8,.i .i8] (z.2.2.2.2.2.2.2.2.1) (z.2.2.2.2.2.2.2.2.2))])) (fun z=>K false (.s (.b (z.1))) ([.cells 65 [.one [.ptr 1 0 none 0,.i .u64 (z.2.1),.sl 3 0 (z.2.2.1) true]],.cells 84 [.arr .i8 81 (z.2.2.2.1),.arr .i8 16 (z.2.2.2.2.1),.one [.i .i8 (z.2.2.2.2.2.1)],.rows [.i .u64,.i .u64] 32 (z.2.2.2.2.2.2.1),.rows [.i .u64,.i .u64] 2 (z.2.2.2.2.2.2.2.1)],Obj.dead,.sli 125 false (.rows [.i .i64,.i .i64,.i .i64,.b,.i .i8,.i .i8] (z.2.2.2.2.2.2.2.2.1) (z.2.2.2.2.2.2.2.2.2))]))
 | _,_=>o 34 vs objs K
def qUI (o:Orc):Orc:=qP 34 (qUF o) o
theorem qgQ:OQ Tryz.prog qUI:=fun _ ho=>qQ ho fun vs objs K r h=>by
 unfold qUF at h
 split at h
 ·skip
  obtain⟨t,h1,h2⟩:=qF h
  refine qa mixed qgP ((qgO _ _ _ _ _ _ _ _ _ _ _ _ _).trans h1) (by kernel_rfl) fun v objs' hd=>?_
  unfold qUH at hd
  split at hd
  ·skip
   cases hd
   exact h2
  ·skip
   cases hd
   exact h2
  ·cases hd
 ·exact ho _ _ _ _ _ h
def qc3:Ctx:=mkC 27 ((qSF qM)) [] qW
theorem qqv:CtxOK Tryz.prog qc3:=mkC_ok ((qc9 _ qO))
def qc4:V->List Obj->Option (Nat×Int×Nat×LL):=fun v objs=>match v,objs with
 | .tup [],[.cells 104 [.one [.sl 1 0 y0 true,.i .i64 y1]],.sli 135 false (.rows kk0 y2 y3)]=>bif decide (kk0=kL0) then some (y0,y1,y2,y3) else none
 | _,_=>none
theorem qqu (x0 x1:LI) (x2 x3:Int) (x4 x5:Int) (x6 x7 x8:Int) (x9:Bool) (x10:Nat) (x11:Int) (x12:Nat) (x13:LL):fnE qc3 Tryz.f50 ([.s (.ptr 0 0 none 0),.agg [.arr .i8 81 x0,.arr .i8 16 x1,.one [.i .i8 x2]],.agg [.one [.i .i64 x3,.i .i64 x4,.i .i64 x5,.i .i64 x6,.i .i64 x7,.i .i64 x8,.b x9]]]) ([.cells 104 [.one [.sl 1 0 x10 true,.i .i64 x11]],.sli 135 false (.rows kL0 x12 x13)]) qc4=qD2 x0 x1 x2 x3 x4 x5 x6 x7 x8 x9 x10 x11 x12 x13:=by kernel_rfl
def qc2:HA:=fun o vs objs K=>match vs,objs with
 | [.s (.ptr 0 0 none 0),.agg [.arr .i8 81 x0,.arr .i8 16 x1,.one [.i .i8 x2]],.agg [.one [.i .i64 x3,.i .i64 x4,.i .i64 x5,.i .i64 x6,.i .i64 x7,.i .i64 x8,.b x9]]],[.cells 104 [.one [.sl 1 0 x10 true,.i .i64 x11]],.sli 135 false (.rows kk0 x12 x13)]=>bif decide (kk0=kL0) then ob (qD2 x0 x1 x2 x3 x4 x5 x6 x7 x8 x9 x10 x11 x12 x13) fun z=>K false (.tup []) ([.cells 104 [.one [.sl 1 0 (z.1) true,.i .i64 (z.2.1)]],.sli 135 false (.rows kL0 (z.2.2.1) (z.2.2.2))]) else none
 | _,_=>o 50 vs objs K
def qc5 (o:Orc):Orc:=qP 50 (qc2 o) o
theorem qqw:OQ Tryz.prog qc5:=fun _ ho=>qQ ho fun vs objs K r h=>by
 unfold qc2 at h
 split at h
 ·skip
  have g:=(qN h).1
  replace h:=(qN h).2
  obtain rfl:=of_decide_eq_true g
  obtain⟨t,h1,h2⟩:=qF h
  refine qa mixed qqv ((qqu _ _ _ _ _ _ _ _ _ _ _ _ _ _).trans h1) (by kernel_rfl) fun v objs' hd=>?_
  unfold qc4 at hd
  split at hd
  ·skip
   have g:=(qN hd).1
   replace hd:=(qN hd).2
   obtain rfl:=of_decide_eq_true g
   cases hd
   exact h2
  ·cases hd
 ·exact ho _ _ _ _ _ h
def qT8:Ctx:=mkC 87 ((qPY (qCt (qNb (qNc (qNd qM)))))) [] qW
theorem qgJ:CtxOK Tryz.prog qT8:=mkC_ok ((qXd _ (qC8 _ (qUM _ (qUQ _ (qUU _ qO))))))
def qT9:V->List Obj->Option (Bool×Int×Nat×LI×LI×Int×LL×LL×Nat×LL):=fun v objs=>match v,objs with
 | .s (.b y0),[.cells 65 [.one [.ptr 1 0 none 0,.i .u64 y1,.sl 2 0 y2 true]],.cells 84 [.arr .i8 81 y3,.arr .i8 16 y4,.one [.i .i8 y5],.rows [.i .u64,.i .u64] 32 y6,.rows [.i .u64,.i .u64] 2 y7],.sli 125 false (.rows [.i .i64,.i .i64,.i .i64,.b,.i .i8,.i .i8] y8 y9)]=>some (y0,y1,y2,y3,y4,y5,y6,y7,y8,y9)
 | _,_=>none
theorem qgI (x0:Int) (x1:Nat) (x2 x3:LI) (x4:Int) (x5 x6:LL) (x7:Nat) (x8:LL):fnE qT8 Tryz.f49 ([.s (.ptr 0 0 none 0)]) ([.cells 65 [.one [.ptr 1 0 none 0,.i .u64 x0,.sl 2 0 x1 true]],.cells 84 [.arr .i8 81 x2,.arr .i8 16 x3,.one [.i .i8 x4],.rows [.i .u64,.i .u64] 32 x5,.rows [.i .u64,.i .u64] 2 x6],.sli 125 false (.rows [.i .i64,.i .i64,.i .i64,.b,.i .i8,.i .i8] x7 x8)]) qT9=qED x0 x1 x2 x3 x4 x5 x6 x7 x8:=by kernel_rfl
def qT7:HA:=fun o vs objs K=>match vs,objs with
 | [.s (.ptr 0 0 none 0)],[.cells 65 [.one [.ptr 1 0 none 0,.i .u64 x0,.sl 2 0 x1 true]],.cells 84 [.arr .i8 81 x2,.arr .i8 16 x3,.one [.i .i8 x4],.rows [.i .u64,.i .u64] 32 x5,.rows [.i .u64,.i .u64] 2 x6],.sli 125 false (.rows [.i .i64,.i .i64,.i .i64,.b,.i .i8,.i .i8] x7 x8)]=>ob (qED x0 x1 x2 x3 x4 x5 x6 x7 x8) fun z=>K false (.s (.b (z.1))) ([.cells 65 [.one [.ptr 1 0 none 0,.i .u64 (z.2.1),.sl 2 0 (z.2.2.1) true]],.cells 84 [.arr .i8 81 (z.2.2.2.1),.arr .i8 16 (z.2.2.2.2.1),.one [.i .i8 (z.2.2.2.2.2.1)],.rows [.i .u64,.i .u64] 32 (z.2.2.2.2.2.2.1),.rows [.i .u64,.i .u64] 2 (z.2.2.2.2.2.2.2.1)],.sli 125 false (.rows [.i .i64,.i .i64,.i .i64,.b,.i .i8,.i .i8] (z.2.2.2.2.2.2.2.2.1) (z.2.2.2.2.2.2.2.2.2))])
 | _,_=>o 49 vs objs K
def qUA (o:Orc):Orc:=qP 49 (qT7 o) o
theorem qgK:OQ Tryz.prog qUA:=fun _ ho=>qQ ho fun vs objs K r h=>by
 unfold qT7 at h
 split at h
 ·skip
  obtain⟨t,h1,h2⟩:=qF h
  refine qa mixed qgJ ((qgI _ _ _ _ _ _ _ _ _).trans h1) (by kernel_rfl) fun v objs' hd=>?_
  unfold qT9 at hd;split at hd;(cases hd;exact h2);cases hd
 ·exact ho _ _ _ _ _ h
def qRO:Ex->List V->List Obj->Option ((Int×Int×Int×Int×Int×Nat×Bool×Int×Nat×Int×Int×Nat×Int×Int×Nat×Nat×LL×LI×LI×Int×LL×LL×Nat×LL×Nat×LL×Nat×LL)⊕(Int×Int×Int×Int×Int×Nat×Int×Int×Nat×Int×Int×Nat×Nat×LL×LI×LI×Int×LL×LL×Nat×LL×Nat×LL)):=fun e vs objs=>match e,vs,objs with
 | .ret,[.s (.ptr 0 0 none 0),.s (.i .i64 y0),.s (.i .i64 y1),.s (.i .i64 y2),.s (.i .i64 y3),.s (.i .i64 y4),.s (.sl 7 0 y5 true),.s (.b y6),.s (.ptr 2 0 none 0),.s (.i .i64 y7),.s (.sl 8 0 y8 true)],[.cells 60 [.one [.ptr 1 0 none 0,.ptr 2 0 none 0,.i .i64 y9,.i .i64 y10]],.cells 104 [.one [.sl 3 0 y11 true,.i .i64 y12]],.cells 65 [.one [.ptr 4 0 none 0,.i .u64 y13,.sl 6 0 y14 true]],.sli 135 false (.rows kk0 y15 y16),.cells 84 [.arr .i8 81 y17,.arr .i8 16 y18,.one [.i .i8 y19],.rows [.i .u64,.i .u64] 32 y20,.rows [.i .u64,.i .u64] 2 y21],Obj.dead,.sli 125 false (.rows [.i .i64,.i .i64,.i .i64,.b,.i .i8,.i .i8] y22 y23),.sli 41 false (.rows [.i .i64,.i .i64,.i .i64,.b] y24 y25),.sli 41 false (.rows [.i .i64,.i .i64,.i .i64,.b] y26 y27)]=>bif decide (kk0=kL0) then some (.inl (y0,y1,y2,y3,y4,y5,y6,y7,y8,y9,y10,y11,y12,y13,y14,y15,y16,y17,y18,y19,y20,y21,y22,y23,y24,y25,y26,y27)) else none
 | .exit 1,[.s (.ptr 0 0 none 0),.s (.i .i64 y0),.s (.i .i64 y1),.s (.i .i64 y2),.s (.i .i64 y3),.s .bad,.s .bad,.s .bad,.s (.ptr 2 0 none 0),.s (.i .i64 y4),.s (.sl 7 0 y5 true)],[.cells 60 [.one [.ptr 1 0 none 0,.ptr 2 0 none 0,.i .i64 y6,.i .i64 y7]],.cells 104 [.one [.sl 3 0 y8 true,.i .i64 y9]],.cells 65 [.one [.ptr 4 0 none 0,.i .u64 y10,.sl 6 0 y11 true]],.sli 135 false (.rows kk0 y12 y13),.cells 84 [.arr .i8 81 y14,.arr .i8 16 y15,.one [.i .i8 y16],.rows [.i .u64,.i .u64] 32 y17,.rows [.i .u64,.i .u64] 2 y18],Obj.dead,.sli 125 false (.rows [.i .i64,.i .i64,.i .i64,.b,.i .i8,.i .i8] y19 y20),.sli 41 false (.rows [.i .i64,.i .i64,.i .i64,.b] y21 y22)]=>bif decide (kk0=kL0) then some (.inr (y0,y1,y2,y3,y4,y5,y6,y7,y8,y9,y10,y11,y12,y13,y14,y15,y16,y17,y18,y19,y20,y21,y22)) else none
 | _,_,_=>none
def qRR (n:Nat) {R:Type} (vs:List V) (objs:List Obj) (K:Ex->List V->List Obj->Option R):Option R:=match vs,objs with
 | [.s (.ptr 0 0 none 0),.s (.i .i64 x0),.s (.i .i64 x1),.s (.i .i64 x2),.s (.i .i64 x3),.s (.ptr 2 0 none 0),.s (.i .i64 x4),.s (.sl 7 0 x5 true),.s (.i .i64 x6),.s (.sl 8 0 x7 true),.s (.i .i64 x8),.s (.i .i64 x9)],[.cells 60 [.one [.ptr 1 0 none 0,.ptr 2 0 none 0,.i .i64 x10,.i .i64 x11]],.cells 104 [.one [.sl 3 0 x12 true,.i .i64 x13]],.cells 65 [.one [.ptr 4 0 none 0,.i .u64 x14,.sl 6 0 x15 true]],.sli 135 false (.rows kk0 x16 x17),.cells 84 [.arr .i8 81 x18,.arr .i8 16 x19,.one [.i .i8 x20],.rows [.i .u64,.i .u64] 32 x21,.rows [.i .u64,.i .u64] 2 x22],Obj.dead,.sli 125 false (.rows [.i .i64,.i .i64,.i .i64,.b,.i .i8,.i .i8] x23 x24),.sli 41 false (.rows [.i .i64,.i .i64,.i .i64,.b] x25 x26),.sli 41 false (.rows [.i .i64,.i .i64,.i .i64,.b] x27 x28)]=>bif decide (kk0=kL0) then ob (qCc (qBk n) qC x0 x1 x2 x3 x4 x5 x6 x7 x8 x9 x10 x11 x12 x13 x14 x15 x16 x17 x18 x19 x20 x21 x22 x23 x24 x25 x26 x27 x28) fun t0=>sw t0 (fun z=>K (.ret) ([.s (.ptr 0 0 none 0),.s (.i .i64 (z.1)),.s (.i .i64 (z.2.1)),.s (.i .i64 (z.2.2.1)),.s (.i .i64 (z.2.2.2.1)),.s (.i .i64 (z.2.2.2.2.1)),.s (.sl 7 0 (z.2.2.2.2.2.1) true),.s (.b (z.2.2.2.2.2.2.1)),.s (.ptr 2 0 none 0),.s (.i .i64 (z.2.2.2.2.2.2.2.1)),.s (.sl 8 0 (z.2.2.2.2.2.2.2.2.1) true)]) ([.cells 60 [.one [.ptr 1 0 none 0,.ptr 2 0 none 0,.i .i64 (z.2.2.2.2.2.2.2.2.2.1),.i .i64 (z.2.2.2.2.2.2.2.2.2.2.1)]],.cells 104 [.one [.sl 3 0 (z.2.2.2.2.2.2.2.2.2.2.2.1) true,.i .i64 (z.2.2.2.2.2.2.2.2.2.2.2.2.1)]],.cells 65 [.one [.ptr 4 0 none 0,.i .u64 (z.2.2.2.2.2.2.2.2.2.2.2.2.2.1),.sl 6 0 (z.2.2.2.2.2.2.2.2.2.2.2.2.2.2.1) true]],.sli 135 false (.rows kL0 (z.2.2.2.2.2.2.2.2.2.2.2.2.2.2.2.1) (z.2.2.2.2.2.2.2.2.2.2.2.2.2.2.2.2.1)),.cells 84 [.arr .i8 81 (z.2.2.2.2.2.2.2.2.2.2.2.2.2.2.2.2.2.1),.arr .i8 16 (z.2.2.2.2.2.2.2.2.2.2.2.2.2.2.2.2.2.2.1),.one [.i .i8 (z.2.2.2.2.2.2.2.2.2.2.2.2.2.2.2.2.2.2.2.1)],.rows [.i .u64,.i .u64] 32 (z.2.2.2.2.2.2.2.2.2.2.2.2.2.2.2.2.2.2.2.2.1),.rows [.i .u64,.i .u64] 2 (z.2.2.2.2.2.2.2.2.2.2.2.2.2.2.2.2.2.2.2.2.2.1)],Obj.dead,.sli 125 false (.rows [.i .i64,.i .i64,.i .i64,.b,.i .i8,.i .i8] (z.2.2.2.2.2.2.2.2.2.2.2.2.2.2.2.2.2.2.2.2.2.2.1) (z.2.2.2.2.2.2.2.2.2.2.2.2.2.2.2.2.2.2.2.2.2.2.2.1)),.sli 41 false (.rows [.i .i64,.i .i64,.i .i64,.b] (z.2.2.2.2.2.2.2.2.2.2.2.2.2.2.2.2.2.2.2.2.2.2.2.2.1) (z.2.2.2.2.2.2.2.2.2.2.2.2.2.2.2.2.2.2.2.2.2.2.2.2.2.1)),.sli 41 false (.rows [.i .i64,.i .i64,.i .i64,.b] (z.2.2.2.2.2.2.2.2.2.2.2.2.2.2.2.2.2.2.2.2.2.2.2.2.2.2.1) (z.2.2.2.2.2.2.2.2.2.2.2.2.2.2.2.2.2.2.2.2.2.2.2.2.2.2.2))])) (fun z=>K (.exit 1) ([.s (.ptr 0 0 none 0),.s (.i .i64 (z.1)),.s (.i .i64 (z.2.1)),.s (.i .i64 (z.2.2.1)),.s (.i .i64 (z.2.2.2.1)),.s .bad,.s .bad,.s .bad,.s (.ptr 2 0 none 0),.s (.i .i64 (z.2.2.2.2.1)),.s (.sl 7 0 (z.2.2.2.2.2.1) true)]) ([.cells 60 [.one [.ptr 1 0 none 0,.ptr 2 0 none 0,.i .i64 (z.2.2.2.2.2.2.1),.i .i64 (z.2.2.2.2.2.2.2.1)]],.cells 104 [.one [.sl 3 0 (z.2.2.2.2.2.2.2.2.1) true,.i .i64 (z.2.2.2.2.2.2.2.2.2.1)]],.cells 65 [.one [.ptr 4 0 none 0,.i .u64 (z.2.2.2.2.2.2.2.2.2.2.1),.sl 6 0 (z.2.2.2.2.2.2.2.2.2.2.2.1) true]],.sli 135 false (.rows kL0 (z.2.2.2.2.2.2.2.2.2.2.2.2.1) (z.2.2.2.2.2.2.2.2.2.2.2.2.2.1)),.cells 84 [.arr .i8 81 (z.2.2.2.2.2.2.2.2.2.2.2.2.2.2.1),.arr .i8 16 (z.2.2.2.2.2.2.2.2.2.2.2.2.2.2.2.1),.one [.i .i8 (z.2.2.2.2.2.2.2.2.2.2.2.2.2.2.2.2.1)],.rows [.i .u64,.i .u64] 32 (z.2.2.2.2.2.2.2.2.2.2.2.2.2.2.2.2.2.1),.rows [.i .u64,.i .u64] 2 (z.2.2.2.2.2.2.2.2.2.2.2.2.2.2.2.2.2.2.1)],Obj.dead,.sli 125 false (.rows [.i .i64,.i .i64,.i .i64,.b,.i .i8,.i .i8] (z.2.2.2.2.2.2.2.2.2.2.2.2.2.2.2.2.2.2.2.1) (z.2.2.2.2.2.2.2.2.2.2.2.2.2.2.2.2.2.2.2.2.1)),.sli 41 false (.rows [.i .i64,.i .i64,.i .i64,.b] (z.2.2.2.2.2.2.2.2.2.2.2.2.2.2.2.2.2.2.2.2.2.1) (z.2.2.2.2.2.2.2.2.2.2.2.2.2.2.2.2.2.2.2.2.2.2))])) else none
 | _,_=>none
def qom (n:Nat):{R:Type}->Nat->List V->List Obj->(Ex->List V->List Obj->Option R)->Option R:=fun q vs objs K=>bif Nat.beq q 25 then qRR n vs objs K else none
def qGU (n:Nat) {R:Type} (o:Orc) (vs:List V) (objs:List Obj) (K:Bool->V->List Obj->Option R):Option R:=match vs,objs with
 | [.s (.ptr 0 0 none 0),.s (.i .i64 x0),.s (.i .i64 x1),.s (.i .i64 x2),.s (.i .i64 x3)],[.cells 60 [.one [.ptr 1 0 none 0,.ptr 2 0 none 0,.i .i64 x4,.i .i64 x5]],.cells 104 [.one [.sl 3 0 x6 true,.i .i64 x7]],.cells 65 [.one [.ptr 4 0 none 0,.i .u64 x8,.sl 5 0 x9 true]],.sli 135 false (.rows kk0 x10 x11),.cells 84 [.arr .i8 81 x12,.arr .i8 16 x13,.one [.i .i8 x14],.rows [.i .u64,.i .u64] 32 x15,.rows [.i .u64,.i .u64] 2 x16],.sli 125 false (.rows [.i .i64,.i .i64,.i .i64,.b,.i .i8,.i .i8] x17 x18)]=>bif decide (kk0=kL0) then ob (qBk n x0 x1 x2 x3 x4 x5 x6 x7 x8 x9 x10 x11 x12 x13 x14 x15 x16 x17 x18) fun t0=>sw t0 (fun z=>K false (.tup [W.s (.i .i64 (z.1)),W.s (.sl 6 0 (z.2.1) true),W.s (.b (z.2.2.1))]) ([.cells 60 [.one [.ptr 1 0 none 0,.ptr 2 0 none 0,.i .i64 (z.2.2.2.1),.i .i64 (z.2.2.2.2.1)]],.cells 104 [.one [.sl 3 0 (z.2.2.2.2.2.1) true,.i .i64 (z.2.2.2.2.2.2.1)]],.cells 65 [.one [.ptr 4 0 none 0,.i .u64 (z.2.2.2.2.2.2.2.1),.sl 5 0 (z.2.2.2.2.2.2.2.2.1) true]],.sli 135 false (.rows kL0 (z.2.2.2.2.2.2.2.2.2.1) (z.2.2.2.2.2.2.2.2.2.2.1)),.cells 84 [.arr .i8 81 (z.2.2.2.2.2.2.2.2.2.2.2.1),.arr .i8 16 (z.2.2.2.2.2.2.2.2.2.2.2.2.1),.one [.i .i8 (z.2.2.2.2.2.2.2.2.2.2.2.2.2.1)],.rows [.i .u64,.i .u64] 32 (z.2.2.2.2.2.2.2.2.2.2.2.2.2.2.1),.rows [.i .u64,.i .u64] 2 (z.2.2.2.2.2.2.2.2.2.2.2.2.2.2.2.1)],.sli 125 false (.rows [.i .i64,.i .i64,.i .i64,.b,.i .i8,.i .i8] (z.2.2.2.2.2.2.2.2.2.2.2.2.2.2.2.2.1) (z.2.2.2.2.2.2.2.2.2.2.2.2.2.2.2.2.2.1)),.sli 41 false (.rows [.i .i64,.i .i64,.i .i64,.b] (z.2.2.2.2.2.2.2.2.2.2.2.2.2.2.2.2.2.2.1) (z.2.2.2.2.2.2.2.2.2.2.2.2.2.2.2.2.2.2.2))])) (fun z=>K false (.tup [W.s (.i .i64 (z.1)),W.s (.sl 7 0 (z.2.1) true),W.s (.b (z.2.2.1))]) ([.cells 60 [.one [.ptr 1 0 none 0,.ptr 2 0 none 0,.i .i64 (z.2.2.2.1),.i .i64 (z.2.2.2.2.1)]],.cells 104 [.one [.sl 3 0 (z.2.2.2.2.2.1) true,.i .i64 (z.2.2.2.2.2.2.1)]],.cells 65 [.one [.ptr 4 0 none 0,.i .u64 (z.2.2.2.2.2.2.2.1),.sl 6 0 (z.2.2.2.2.2.2.2.2.1) true]],.sli 135 false (.rows kL0 (z.2.2.2.2.2.2.2.2.2.1) (z.2.2.2.2.2.2.2.2.2.2.1)),.cells 84 [.arr .i8 81 (z.2.2.2.2.2.2.2.2.2.2.2.1),.arr .i8 16 (z.2.2.2.2.2.2.2.2.2.2.2.2.1),.one [.i .i8 (z.2.2.2.2.2.2.2.2.2.2.2.2.2.1)],.rows [.i .u64,.i .u64] 32 (z.2.2.2.2.2.2.2.2.2.2.2.2.2.2.1),.rows [.i .u64,.i .u64] 2 (z.2.2.2.2.2.2.2.2.2.2.2.2.2.2.2.1)],Obj.dead,.sli 125 false (.rows [.i .i64,.i .i64,.i .i64,.b,.i .i8,.i .i8] (z.2.2.2.2.2.2.2.2.2.2.2.2.2.2.2.2.1) (z.2.2.2.2.2.2.2.2.2.2.2.2.2.2.2.2.2.1)),.sli 41 false (.rows [.i .i64,.i .i64,.i .i64,.b] (z.2.2.2.2.2.2.2.2.2.2.2.2.2.2.2.2.2.2.1) (z.2.2.2.2.2.2.2.2.2.2.2.2.2.2.2.2.2.2.2))])) else none
 | _,_=>o 20 vs objs K
def qRQ (n:Nat) (o:Orc):Orc:=fun f vs objs K=>bif Nat.beq f 20 then qGU n o vs objs K else o f vs objs K
def qoo (n:Nat):Orc:=qRQ n (qc5 (qUA (qUI (qcI (qa5 (qc1 (qdX (qOr qM))))))))
def qJp (n:Nat):Ctx:=mkC 217 (qoo n) [(25,[0,1,2,3,4,13,19,20,21,140,141,142],[0,1,2,3,4,10,11,12,13,19,20]),(1048601,[5],[])] (qom n)
def qRP (n:Nat) (f:Nat) (x0 x1:Int) (x2 x3 x4:Int) (x5:Nat) (x6:Int) (x7:Nat) (x8 x9:Int) (x10 x11:Int) (x12:Nat) (x13 x14:Int) (x15 x16:Nat) (x17:LL) (x18 x19:LI) (x20:Int) (x21 x22:LL) (x23:Nat) (x24:LL) (x25:Nat) (x26:LL) (x27:Nat) (x28:LL):Option ((Int×Int×Int×Int×Int×Nat×Bool×Int×Nat×Int×Int×Nat×Int×Int×Nat×Nat×LL×LI×LI×Int×LL×LL×Nat×LL×Nat×LL×Nat×LL)⊕(Int×Int×Int×Int×Int×Nat×Int×Int×Nat×Int×Int×Nat×Nat×LL×LI×LI×Int×LL×LL×Nat×LL×Nat×LL)):=qh (qJp n) 6 [0,1,2,3,4,13,19,20,21,140,141,142] [0,1,2,3,4,10,11,12,13,19,20] (qG Tryz.f20 25) f ([.s (.ptr 0 0 none 0),.s (.i .i64 x0),.s (.i .i64 x1),.s (.i .i64 x2),.s (.i .i64 x3),.s (.ptr 2 0 none 0),.s (.i .i64 x4),.s (.sl 7 0 x5 true),.s (.i .i64 x6),.s (.sl 8 0 x7 true),.s (.i .i64 x8),.s (.i .i64 x9)]) ([.cells 60 [.one [.ptr 1 0 none 0,.ptr 2 0 none 0,.i .i64 x10,.i .i64 x11]],.cells 104 [.one [.sl 3 0 x12 true,.i .i64 x13]],.cells 65 [.one [.ptr 4 0 none 0,.i .u64 x14,.sl 6 0 x15 true]],.sli 135 false (.rows kL0 x16 x17),.cells 84 [.arr .i8 81 x18,.arr .i8 16 x19,.one [.i .i8 x20],.rows [.i .u64,.i .u64] 32 x21,.rows [.i .u64,.i .u64] 2 x22],Obj.dead,.sli 125 false (.rows [.i .i64,.i .i64,.i .i64,.b,.i .i8,.i .i8] x23 x24),.sli 41 false (.rows [.i .i64,.i .i64,.i .i64,.b] x25 x26),.sli 41 false (.rows [.i .i64,.i .i64,.i .i64,.b] x27 x28)]) qRO
theorem qol (n:Nat) (f:Nat) (x0 x1:Int) (x2 x3 x4:Int) (x5:Nat) (x6:Int) (x7:Nat) (x8 x9:Int) (x10 x11:Int) (x12:Nat) (x13 x14:Int) (x15 x16:Nat) (x17:LL) (x18 x19:LI) (x20:Int) (x21 x22:LL) (x23:Nat) (x24:LL) (x25:Nat) (x26:LL) (x27:Nat) (x28:LL):qRP n (f+1) x0 x1 x2 x3 x4 x5 x6 x7 x8 x9 x10 x11 x12 x13 x14 x15 x16 x17 x18 x19 x20 x21 x22 x23 x24 x25 x26 x27 x28=qL8 (qBk n) (qRP n f) x0 x1 x2 x3 x4 x5 x6 x7 x8 x9 x10 x11 x12 x13 x14 x15 x16 x17 x18 x19 x20 x21 x22 x23 x24 x25 x26 x27 x28:=by kernel_rfl
theorem qa0 (n:Nat):∀ f,qRP n f=qCc (qBk n) f
 | 0=>rfl
 | f+1=>by funext x0 x1 x2 x3 x4 x5 x6 x7 x8 x9 x10 x11 x12 x13 x14 x15 x16 x17 x18 x19 x20 x21 x22 x23 x24 x25 x26 x27 x28;rw[qol,qa0 n f];rfl
theorem qop (n:Nat) (hc:CtxOK Tryz.prog (qJp n)):qe Tryz.prog (qJp n) 6 (qG Tryz.f20 25):=
 qj mixed hc (qT.of (l':=[]) (by kernel_rfl) trivial) (q:=25) (kin:=[0,1,2,3,4,13,19,20,21,140,141,142]) (kout:=[0,1,2,3,4,10,11,12,13,19,20]) (by kernel_rfl) (by kernel_rfl) fun vs objs K r h=>by
  replace h:qRR n vs objs K=some r:=h
  unfold qRR at h
  split at h
  ·skip
   have g:=(qN h).1
   replace h:=(qN h).2
   obtain rfl:=of_decide_eq_true g
   obtain⟨t,h1,h2⟩:=qF h
   rw[<- qa0 n] at h1
   refine⟨_,qRO,t,qC,h1,fun e vs' objs' hd=>?_⟩
   unfold qRO at hd
   split at hd
   ·skip
    have g:=(qN hd).1
    replace hd:=(qN hd).2
    obtain rfl:=of_decide_eq_true g
    cases hd
    exact h2
   ·skip
    have g:=(qN hd).1
    replace hd:=(qN hd).2
    obtain rfl:=of_decide_eq_true g
    cases hd
    exact h2
   ·cases hd
  ·cases h
def qaz:V->List Obj->Option ((Int×Nat×Bool×Int×Int×Nat×Int×Int×Nat×Nat×LL×LI×LI×Int×LL×LL×Nat×LL×Nat×LL)⊕(Int×Nat×Bool×Int×Int×Nat×Int×Int×Nat×Nat×LL×LI×LI×Int×LL×LL×Nat×LL×Nat×LL)):=fun v objs=>match v,objs with
 | .tup [W.s (.i .i64 y0),W.s (.sl 6 0 y1 true),W.s (.b y2)],[.cells 60 [.one [.ptr 1 0 none 0,.ptr 2 0 none 0,.i .i64 y3,.i .i64 y4]],.cells 104 [.one [.sl 3 0 y5 true,.i .i64 y6]],.cells 65 [.one [.ptr 4 0 none 0,.i .u64 y7,.sl 5 0 y8 true]],.sli 135 false (.rows kk0 y9 y10),.cells 84 [.arr .i8 81 y11,.arr .i8 16 y12,.one [.i .i8 y13],.rows [.i .u64,.i .u64] 32 y14,.rows [.i .u64,.i .u64] 2 y15],.sli 125 false (.rows [.i .i64,.i .i64,.i .i64,.b,.i .i8,.i .i8] y16 y17),.sli 41 false (.rows [.i .i64,.i .i64,.i .i64,.b] y18 y19)]=>bif decide (kk0=kL0) then some (.inl (y0,y1,y2,y3,y4,y5,y6,y7,y8,y9,y10,y11,y12,y13,y14,y15,y16,y17,y18,y19)) else none
 | .tup [W.s (.i .i64 y0),W.s (.sl 7 0 y1 true),W.s (.b y2)],[.cells 60 [.one [.ptr 1 0 none 0,.ptr 2 0 none 0,.i .i64 y3,.i .i64 y4]],.cells 104 [.one [.sl 3 0 y5 true,.i .i64 y6]],.cells 65 [.one [.ptr 4 0 none 0,.i .u64 y7,.sl 6 0 y8 true]],.sli 135 false (.rows kk0 y9 y10),.cells 84 [.arr .i8 81 y11,.arr .i8 16 y12,.one [.i .i8 y13],.rows [.i .u64,.i .u64] 32 y14,.rows [.i .u64,.i .u64] 2 y15],Obj.dead,.sli 125 false (.rows [.i .i64,.i .i64,.i .i64,.b,.i .i8,.i .i8] y16 y17),.sli 41 false (.rows [.i .i64,.i .i64,.i .i64,.b] y18 y19)]=>bif decide (kk0=kL0) then some (.inr (y0,y1,y2,y3,y4,y5,y6,y7,y8,y9,y10,y11,y12,y13,y14,y15,y16,y17,y18,y19)) else none
 | _,_=>none
theorem qoj (n:Nat) (x0 x1:Int) (x2 x3:Int) (x4 x5:Int) (x6:Nat) (x7 x8:Int) (x9 x10:Nat) (x11:LL) (x12 x13:LI) (x14:Int) (x15 x16:LL) (x17:Nat) (x18:LL):fnE (qJp n) Tryz.f20 ([.s (.ptr 0 0 none 0),.s (.i .i64 x0),.s (.i .i64 x1),.s (.i .i64 x2),.s (.i .i64 x3)]) ([.cells 60 [.one [.ptr 1 0 none 0,.ptr 2 0 none 0,.i .i64 x4,.i .i64 x5]],.cells 104 [.one [.sl 3 0 x6 true,.i .i64 x7]],.cells 65 [.one [.ptr 4 0 none 0,.i .u64 x8,.sl 5 0 x9 true]],.sli 135 false (.rows kL0 x10 x11),.cells 84 [.arr .i8 81 x12,.arr .i8 16 x13,.one [.i .i8 x14],.rows [.i .u64,.i .u64] 32 x15,.rows [.i .u64,.i .u64] 2 x16],.sli 125 false (.rows [.i .i64,.i .i64,.i .i64,.b,.i .i8,.i .i8] x17 x18)]) qaz=qBk (n+1) x0 x1 x2 x3 x4 x5 x6 x7 x8 x9 x10 x11 x12 x13 x14 x15 x16 x17 x18:=by kernel_rfl
theorem qok (n:Nat) (hc:CtxOK Tryz.prog (qJp n)) {vs:List V} {objs:List Obj} (x0 x1:Int) (x2 x3:Int) (x4 x5:Int) (x6:Nat) (x7 x8:Int) (x9 x10:Nat) (x11:LL) (x12 x13:LI) (x14:Int) (x15 x16:LL) (x17:Nat) (x18:LL) {R:Type} {K:Bool->V->List Obj->Option R} {r:R} (hv:vs=[.s (.ptr 0 0 none 0),.s (.i .i64 x0),.s (.i .i64 x1),.s (.i .i64 x2),.s (.i .i64 x3)]) (ho:objs=[.cells 60 [.one [.ptr 1 0 none 0,.ptr 2 0 none 0,.i .i64 x4,.i .i64 x5]],.cells 104 [.one [.sl 3 0 x6 true,.i .i64 x7]],.cells 65 [.one [.ptr 4 0 none 0,.i .u64 x8,.sl 5 0 x9 true]],.sli 135 false (.rows kL0 x10 x11),.cells 84 [.arr .i8 81 x12,.arr .i8 16 x13,.one [.i .i8 x14],.rows [.i .u64,.i .u64] 32 x15,.rows [.i .u64,.i .u64] 2 x16],.sli 125 false (.rows [.i .i64,.i .i64,.i .i64,.b,.i .i8,.i .i8] x17 x18)]) (h:ob (qBk (n+1) x0 x1 x2 x3 x4 x5 x6 x7 x8 x9 x10 x11 x12 x13 x14 x15 x16 x17 x18) (fun t0=>sw t0 (fun z=>K false (.tup [W.s (.i .i64 (z.1)),W.s (.sl 6 0 (z.2.1) true),W.s (.b (z.2.2.1))]) ([.cells 60 [.one [.ptr 1 0 none 0,.ptr 2 0 none 0,.i .i64 (z.2.2.2.1),.i .i64 (z.2.2.2.2.1)]],.cells 104 [.one [.sl 3 0 (z.2.2.2.2.2.1) true,.i .i64 (z.2.2.2.2.2.2.1)]],.cells 65 [.one [.ptr 4 0 none 0,.i .u64 (z.2.2.2.2.2.2.2.1),.sl 5 0 (z.2.2.2.2.2.2.2.2.1) true]],.sli 135 false (.rows kL0 (z.2.2.2.2.2.2.2.2.2.1) (z.2.2.2.2.2.2.2.2.2.2.1)),.cells 84 [.arr .i8 81 (z.2.2.2.2.2.2.2.2.2.2.2.1),.arr .i8 16 (z.2.2.2.2.2.2.2.2.2.2.2.2.1),.one [.i .i8 (z.2.2.2.2.2.2.2.2.2.2.2.2.2.1)],.rows [.i .u64,.i .u64] 32 (z.2.2.2.2.2.2.2.2.2.2.2.2.2.2.1),.rows [.i .u64,.i .u64] 2 (z.2.2.2.2.2.2.2.2.2.2.2.2.2.2.2.1)],.sli 125 false (.rows [.i .i64,.i .i64,.i .i64,.b,.i .i8,.i .i8] (z.2.2.2.2.2.2.2.2.2.2.2.2.2.2.2.2.1) (z.2.2.2.2.2.2.2.2.2.2.2.2.2.2.2.2.2.1)),.sli 41 false (.rows [.i .i64,.i .i64,.i .i64,.b] (z.2.2.2.2.2.2.2.2.2.2.2.2.2.2.2.2.2.2.1) (z.2.2.2.2.2.2.2.2.2.2.2.2.2.2.2.2.2.2.2))])) (fun z=>K false (.tup [W.s (.i .i64 (z.1)),W.s (.sl 7 0 (z.2.1) true),W.s (.b (z.2.2.1))]) ([.cells 60 [.one [.ptr 1 0 none 0,.ptr 2 0 none 0,.i .i64 (z.2.2.2.1),.i .i64 (z.2.2.2.2.1)]],.cells 104 [.one [.sl 3 0 (z.2.2.2.2.2.1) true,.i .i64 (z.2.2.2.2.2.2.1)]],.cells 65 [.one [.ptr 4 0 none 0,.i .u64 (z.2.2.2.2.2.2.2.1),.sl 6 0 (z.2.2.2.2.2.2.2.2.1) true]],.sli 135 false (.rows kL0 (z.2.2.2.2.2.2.2.2.2.1) (z.2.2.2.2.2.2.2.2.2.2.1)),.cells 84 [.arr .i8 81 (z.2.2.2.2.2.2.2.2.2.2.2.1),.arr .i8 16 (z.2.2.2.2.2.2.2.2.2.2.2.2.1),.one [.i .i8 (z.2.2.2.2.2.2.2.2.2.2.2.2.2.1)],.rows [.i .u64,.i .u64] 32 (z.2.2.2.2.2.2.2.2.2.2.2.2.2.2.1),.rows [.i .u64,.i .u64] 2 (z.2.2.2.2.2.2.2.2.2.2.2.2.2.2.2.1)],Obj.dead,.sli 125 false (.rows [.i .i64,.i .i64,.i .i64,.b,.i .i8,.i .i8] (z.2.2.2.2.2.2.2.2.2.2.2.2.2.2.2.2.1) (z.2.2.2.2.2.2.2.2.2.2.2.2.2.2.2.2.2.1)),.sli 41 false (.rows [.i .i64,.i .i64,.i .i64,.b] (z.2.2.2.2.2.2.2.2.2.2.2.2.2.2.2.2.2.2.1) (z.2.2.2.2.2.2.2.2.2.2.2.2.2.2.2.2.2.2.2))])))=some r):
  ∃ p v objs',K p v objs'=some r /\ qD5 Tryz.prog 20 vs objs p v objs':=by
 subst hv
 subst ho
 obtain⟨t,h1,h2⟩:=qF h
 refine qKI mixed hc (objs:=[.cells 60 [.one [.ptr 1 0 none 0,.ptr 2 0 none 0,.i .i64 x4,.i .i64 x5]],.cells 104 [.one [.sl 3 0 x6 true,.i .i64 x7]],.cells 65 [.one [.ptr 4 0 none 0,.i .u64 x8,.sl 5 0 x9 true]],.sli 135 false (.rows kL0 x10 x11),.cells 84 [.arr .i8 81 x12,.arr .i8 16 x13,.one [.i .i8 x14],.rows [.i .u64,.i .u64] 32 x15,.rows [.i .u64,.i .u64] 2 x16],.sli 125 false (.rows [.i .i64,.i .i64,.i .i64,.b,.i .i8,.i .i8] x17 x18)]) (fn:=Tryz.f20) (b:=(Tryz.f20).body.getD .skip) (by kernel_rfl) (by kernel_rfl) (by kernel_rfl) (qT.of (l':=[qG Tryz.f20 25]) (by kernel_rfl) ⟨qop n hc,trivial⟩) ((qoj n x0 x1 x2 x3 x4 x5 x6 x7 x8 x9 x10 x11 x12 x13 x14 x15 x16 x17 x18).trans h1) fun v objs' hd=>?_
 unfold qaz at hd
 split at hd
 ·skip
  have g:=(qN hd).1
  replace hd:=(qN hd).2
  obtain rfl:=of_decide_eq_true g
  cases hd
  exact h2
 ·skip
  have g:=(qN hd).1
  replace hd:=(qN hd).2
  obtain rfl:=of_decide_eq_true g
  cases hd
  exact h2
 ·cases hd
theorem qon:∀ (n:Nat) (o:Orc) (_:qCM Tryz.prog o),qCM Tryz.prog (qRQ n o):=by
 intro n
 induction n with
 | zero=>
   intro o ho R f vs objs K r h
   replace h:(bif Nat.beq f 20 then qGU 0 o vs objs K else o f vs objs K)=some r:=h
   cases hf:Nat.beq f 20 with
   | false=>rw[hf] at h;exact ho f vs objs K r h
   | true=>
     rw[hf] at h
     have e:=Nat.eq_of_beq_eq_true hf
     subst e
     replace h:qGU 0 o vs objs K=some r:=h
     unfold qGU at h
     split at h
     ·skip
      replace h:=(qN h).2
      cases h
     ·exact ho _ _ _ _ _ h
 | succ n ih=>
   intro o ho R f vs objs K r h
   replace h:(bif Nat.beq f 20 then qGU (n+1) o vs objs K else o f vs objs K)=some r:=h
   cases hf:Nat.beq f 20 with
   | false=>rw[hf] at h;exact ho f vs objs K r h
   | true=>
     rw[hf] at h
     have e:=Nat.eq_of_beq_eq_true hf
     subst e
     replace h:qGU (n+1) o vs objs K=some r:=h
     unfold qGU at h
     split at h
     ·skip
      have g:=(qN h).1
      replace h:=(qN h).2
      obtain rfl:=of_decide_eq_true g
      exact qok n ⟨tab_ok,ih _ (qqw _ (qgK _ (qgQ _ (qpz _ (qos _ (qqt _ (qrP _ (qWN _ qO)))))))),eqs_ok,bytes_ok,fun _ _ _=>rfl,exts_ok⟩ _ _ _ _ _ _ _ _ _ _ _ _ _ _ _ _ _ _ _ rfl rfl h
     ·exact ho _ _ _ _ _ h
end
end Go.Kk.KkSL
