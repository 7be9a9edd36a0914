/- Printed by a tool of this project (KkGen): the program's functions come to the plain ones. -/
import Derived.Test.YthklalefbhbhmaaGreatDoorKkGTb
namespace Go.Kk.KkGT
noncomputable section
open Go.Proofs Go.Kk.Pl
set_option maxRecDepth 100000
set_option maxHeartbeats 4000000
def qOU:Ex->List V->List Obj->Option (Nat×Int×Nat×Int×Int×LI×LI×Int×LL×LL×Int×Int×Nat×LL×Int×Int×Nat×LI):=fun e vs objs=>match e,vs,objs with
 | .exit 2,[.s (.ptr 0 0 none 0),.s (.ptr 1 0 none 0),.s (.sl 2 0 y0 true),.s (.i .i64 y1),.s (.ptr 3 0 none 0),.s (.sl 4 0 y2 true),.s (.i .i64 y3),.s (.i .i64 y4)],[.rcells 87 [.arr .i8 81 y5,.arr .i8 16 y6,.one [.i .i8 y7],.rows [.i .u64,.i .u64] 32 y8,.rows [.i .u64,.i .u64] 2 y9],.cells 83 [.one [.i .u64 y10,.i .u64 y11]],.sli 43 false (.rows [.i .i64,.i .i64,.i .i64,.b] y12 y13),.cells 83 [.one [.i .u64 y14,.i .u64 y15]],.sli 3 false (.arr .i64 y16 y17)]=>some (y0,y1,y2,y3,y4,y5,y6,y7,y8,y9,y10,y11,y12,y13,y14,y15,y16,y17)
 | _,_,_=>none
def qOS:Ex->List V->List Obj->Option (Nat×LI×LI×Int×LL×LL×Nat×LL):=fun e vs objs=>match e,vs,objs with
 | .exit 0,[.s (.sl 1 0 y0 true)],[.rcells 87 [.arr .i8 81 y1,.arr .i8 16 y2,.one [.i .i8 y3],.rows [.i .u64,.i .u64] 32 y4,.rows [.i .u64,.i .u64] 2 y5],.sli 43 false (.rows [.i .i64,.i .i64,.i .i64,.b] y6 y7)]=>some (y0,y1,y2,y3,y4,y5,y6,y7)
 | _,_,_=>none
def qOY:HL:=fun vs objs K=>match vs,objs with
 | [.s (.ptr 0 0 none 0),.s (.ptr 1 0 none 0),.s (.sl 2 0 x0 true),.s (.i .i64 x1),.s (.ptr 3 0 none 0),.s (.i .i64 x2),.s (.i .i8 x3),.s (.sl 4 0 x4 true),.s (.i .i64 x5),.s (.i .i64 x6),.s (.sl 5 0 x7 true),.s (.i .i64 x8),.s (.i .i64 x9)],[.rcells 87 [.arr .i8 81 x10,.arr .i8 16 x11,.one [.i .i8 x12],.rows [.i .u64,.i .u64] 32 x13,.rows [.i .u64,.i .u64] 2 x14],.cells 83 [.one [.i .u64 x15,.i .u64 x16]],.sli 43 false (.rows [.i .i64,.i .i64,.i .i64,.b] x17 x18),.cells 83 [.one [.i .u64 x19,.i .u64 x20]],.sli 3 false (.arr .i64 x21 x22),.sli 3 false (.arr .i64 x23 x24)]=>ob (qE5 qC x0 x1 x2 x3 x4 x5 x6 x7 x8 x9 x10 x11 x12 x13 x14 x15 x16 x17 x18 x19 x20 x21 x22 x23 x24) fun (z0,z1,z2,z3,z4,z5,z6,z7,z8,z9,z10,z11,z12,z13,z14,z15,z16,z17)=>K (.exit 2) ([.s (.ptr 0 0 none 0),.s (.ptr 1 0 none 0),.s (.sl 2 0 z0 true),.s (.i .i64 z1),.s (.ptr 3 0 none 0),.s (.sl 4 0 z2 true),.s (.i .i64 z3),.s (.i .i64 z4)]) ([.rcells 87 [.arr .i8 81 z5,.arr .i8 16 z6,.one [.i .i8 z7],.rows [.i .u64,.i .u64] 32 z8,.rows [.i .u64,.i .u64] 2 z9],.cells 83 [.one [.i .u64 z10,.i .u64 z11]],.sli 43 false (.rows [.i .i64,.i .i64,.i .i64,.b] z12 z13),.cells 83 [.one [.i .u64 z14,.i .u64 z15]],.sli 3 false (.arr .i64 z16 z17)])
 | _,_=>none
def qOX:HL:=fun vs objs K=>match vs,objs with
 | [.s (.ptr 0 0 none 0),.s (.ptr 1 0 none 0),.s (.sl 2 0 x0 true),.s (.i .i64 x1),.s (.ptr 3 0 none 0),.s (.sl 4 0 x2 true),.s (.i .i64 x3),.s (.i .i64 x4)],[.rcells 87 [.arr .i8 81 x5,.arr .i8 16 x6,.one [.i .i8 x7],.rows [.i .u64,.i .u64] 32 x8,.rows [.i .u64,.i .u64] 2 x9],.cells 83 [.one [.i .u64 x10,.i .u64 x11]],.sli 43 false (.rows [.i .i64,.i .i64,.i .i64,.b] x12 x13),.cells 83 [.one [.i .u64 x14,.i .u64 x15]],.sli 3 false (.arr .i64 x16 x17)]=>ob (qE4 qC x0 x1 x2 x3 x4 x5 x6 x7 x8 x9 x10 x11 x12 x13 x14 x15 x16 x17) fun (z0,z1,z2,z3,z4,z5,z6,z7)=>K (.exit 0) ([.s (.sl 1 0 z0 true)]) ([.rcells 87 [.arr .i8 81 z1,.arr .i8 16 z2,.one [.i .i8 z3],.rows [.i .u64,.i .u64] 32 z4,.rows [.i .u64,.i .u64] 2 z5],.sli 43 false (.rows [.i .i64,.i .i64,.i .i64,.b] z6 z7)])
 | _,_=>none
def qh8:{R:Type}->Nat->List V->List Obj->(Ex->List V->List Obj->Option R)->Option R:=fun q vs objs K=>bif Nat.beq q 9 then qOY vs objs K else bif Nat.beq q 5 then qOX vs objs K else none
def qI4:Ctx:=mkC 82 ((qWc (qFd (qMA (qLe (qG4 (qFo (qJj (qNM (qGc (qFp qK))))))))))) [(5,[0,3,5,6,7,29,30,31],[5]),(9,[0,3,5,6,7,9,10,29,30,31,51,52,53],[0,3,5,6,7,29,30,31])] qh8
theorem qOR:CtxOK Tryz.prog qI4:=mkC_ok ((qiN _ (qGZ _ (qSE _ (qQM _ (qIj _ (qGw _ (qME _ (qT6 _ (qIJ _ (qG1 _ qM)))))))))))
def qOV (f:Nat) (x0:Nat) (x1 x2 x3:Int) (x4:Nat) (x5 x6:Int) (x7:Nat) (x8 x9:Int) (x10 x11:LI) (x12:Int) (x13 x14:LL) (x15 x16:Int) (x17:Nat) (x18:LL) (x19 x20:Int) (x21:Nat) (x22:LI) (x23:Nat) (x24:LI):Option (Nat×Int×Nat×Int×Int×LI×LI×Int×LL×LL×Int×Int×Nat×LL×Int×Int×Nat×LI):=qh qI4 1 [0,3,5,6,7,9,10,29,30,31,51,52,53] [0,3,5,6,7,29,30,31] (qF Tryz.f86 9) f ([.s (.ptr 0 0 none 0),.s (.ptr 1 0 none 0),.s (.sl 2 0 x0 true),.s (.i .i64 x1),.s (.ptr 3 0 none 0),.s (.i .i64 x2),.s (.i .i8 x3),.s (.sl 4 0 x4 true),.s (.i .i64 x5),.s (.i .i64 x6),.s (.sl 5 0 x7 true),.s (.i .i64 x8),.s (.i .i64 x9)]) ([.rcells 87 [.arr .i8 81 x10,.arr .i8 16 x11,.one [.i .i8 x12],.rows [.i .u64,.i .u64] 32 x13,.rows [.i .u64,.i .u64] 2 x14],.cells 83 [.one [.i .u64 x15,.i .u64 x16]],.sli 43 false (.rows [.i .i64,.i .i64,.i .i64,.b] x17 x18),.cells 83 [.one [.i .u64 x19,.i .u64 x20]],.sli 3 false (.arr .i64 x21 x22),.sli 3 false (.arr .i64 x23 x24)]) qOU
theorem qh7 (f:Nat) (x0:Nat) (x1 x2 x3:Int) (x4:Nat) (x5 x6:Int) (x7:Nat) (x8 x9:Int) (x10 x11:LI) (x12:Int) (x13 x14:LL) (x15 x16:Int) (x17:Nat) (x18:LL) (x19 x20:Int) (x21:Nat) (x22:LI) (x23:Nat) (x24:LI):qOV (f+1) x0 x1 x2 x3 x4 x5 x6 x7 x8 x9 x10 x11 x12 x13 x14 x15 x16 x17 x18 x19 x20 x21 x22 x23 x24=qHL (qOV f) x0 x1 x2 x3 x4 x5 x6 x7 x8 x9 x10 x11 x12 x13 x14 x15 x16 x17 x18 x19 x20 x21 x22 x23 x24:=by kernel_rfl
theorem qWO:∀ f,qOV f=qE5 f
 | 0=>rfl
 | f+1=>by funext x0 x1 x2 x3 x4 x5 x6 x7 x8 x9 x10 x11 x12 x13 x14 x15 x16 x17 x18 x19 x20 x21 x22 x23 x24;rw[qh7,qWO f];rfl
def qOT (f:Nat) (x0:Nat) (x1:Int) (x2:Nat) (x3 x4:Int) (x5 x6:LI) (x7:Int) (x8 x9:LL) (x10 x11:Int) (x12:Nat) (x13:LL) (x14 x15:Int) (x16:Nat) (x17:LI):Option (Nat×LI×LI×Int×LL×LL×Nat×LL):=qh qI4 1 [0,3,5,6,7,29,30,31] [5] (qF Tryz.f86 5) f ([.s (.ptr 0 0 none 0),.s (.ptr 1 0 none 0),.s (.sl 2 0 x0 true),.s (.i .i64 x1),.s (.ptr 3 0 none 0),.s (.sl 4 0 x2 true),.s (.i .i64 x3),.s (.i .i64 x4)]) ([.rcells 87 [.arr .i8 81 x5,.arr .i8 16 x6,.one [.i .i8 x7],.rows [.i .u64,.i .u64] 32 x8,.rows [.i .u64,.i .u64] 2 x9],.cells 83 [.one [.i .u64 x10,.i .u64 x11]],.sli 43 false (.rows [.i .i64,.i .i64,.i .i64,.b] x12 x13),.cells 83 [.one [.i .u64 x14,.i .u64 x15]],.sli 3 false (.arr .i64 x16 x17)]) qOS
theorem qh6 (f:Nat) (x0:Nat) (x1:Int) (x2:Nat) (x3 x4:Int) (x5 x6:LI) (x7:Int) (x8 x9:LL) (x10 x11:Int) (x12:Nat) (x13:LL) (x14 x15:Int) (x16:Nat) (x17:LI):qOT (f+1) x0 x1 x2 x3 x4 x5 x6 x7 x8 x9 x10 x11 x12 x13 x14 x15 x16 x17=qHK (qOT f) x0 x1 x2 x3 x4 x5 x6 x7 x8 x9 x10 x11 x12 x13 x14 x15 x16 x17:=by kernel_rfl
theorem qWN:∀ f,qOT f=qE4 f
 | 0=>rfl
 | f+1=>by funext x0 x1 x2 x3 x4 x5 x6 x7 x8 x9 x10 x11 x12 x13 x14 x15 x16 x17;rw[qh6,qWN f];rfl
theorem qiA:qe Tryz.prog qI4 1 (qF Tryz.f86 9):=
 qj mixed qOR (qP.of (l':=[]) (by kernel_rfl) trivial) (q:=9) (kin:=[0,3,5,6,7,9,10,29,30,31,51,52,53]) (kout:=[0,3,5,6,7,29,30,31]) (by kernel_rfl) (by kernel_rfl) fun vs objs K r h=>by
  replace h:qOY vs objs K=some r:=h
  unfold qOY at h
  split at h
  ·obtain⟨t,h1,h2⟩:=qE h
   rw[<- qWO] at h1
   refine⟨_,qOU,t,qC,h1,fun e vs' objs' hd=>?_⟩
   unfold qOU at hd;split at hd;(cases hd;exact h2);cases hd
  ·cases h
theorem qh9:qe Tryz.prog qI4 1 (qF Tryz.f86 5):=
 qj mixed qOR (qP.of (l':=[qF Tryz.f86 9]) (by kernel_rfl) ⟨qiA,trivial⟩) (q:=5) (kin:=[0,3,5,6,7,29,30,31]) (kout:=[5]) (by kernel_rfl) (by kernel_rfl) fun vs objs K r h=>by
  replace h:qOX vs objs K=some r:=h
  unfold qOX at h
  split at h
  ·obtain⟨t,h1,h2⟩:=qE h
   rw[<- qWN] at h1
   refine⟨_,qOS,t,qC,h1,fun e vs' objs' hd=>?_⟩
   unfold qOS at hd;split at hd;(cases hd;exact h2);cases hd
  ·cases h
def qWM:V->List Obj->Option (Nat×Nat×LL):=fun v objs=>match v,objs with
 | .s (.sl 1 0 y0 true),[.sli 43 false (.rows [.i .i64,.i .i64,.i .i64,.b] y1 y2)]=>some (y0,y1,y2)
 | _,_=>none
def qWL:HA:=fun o vs objs K=>match vs,List.map Obj.toRO objs with
 | [.s (.ptr 0 0 none 0),.agg [.one [.i .u64 x0,.i .u64 x1]]],[.rcells 87 [.arr .i8 81 x2,.arr .i8 16 x3,.one [.i .i8 x4],.rows [.i .u64,.i .u64] 32 x5,.rows [.i .u64,.i .u64] 2 x6]]=>ob (qI3 x0 x1 x2 x3 x4 x5 x6) fun (z0,z1,z2)=>K true (.s (.sl 1 0 z0 true)) ([.sli 43 false (.rows [.i .i64,.i .i64,.i .i64,.b] z1 z2)])
 | _,_=>o 86 vs objs K
def qOW (o:Orc):Orc:=qL 86 (qWL o) o
theorem qWP:OQ Tryz.prog qOW:=fun _ ho=>qN ho fun vs objs K r h=>by
 unfold qWL at h
 split at h
 ·have hq:List.map Obj.toRO objs=_:=(by rename_i hq;first | exact hq | assumption)
  obtain⟨t,h1,h2⟩:=qE h
  refine qAs mixed qOR (D:=qWM) (m:=1) (fn:=Tryz.f86) (by kernel_rfl) hq (by kernel_rfl) (by kernel_rfl) (qP.of (l':=[qF Tryz.f86 5]) (by kernel_rfl) ⟨qh9,trivial⟩) (Eq.trans (by kernel_rfl) h1) fun v objs' hd=>?_
  unfold qWM at hd;split at hd;(cases hd;exact h2);cases hd
 ·exact ho _ _ _ _ _ h
def qjn:Ctx:=mkC 49 ((qGa (qIF (qMm (qJk (qG4 qK)))))) [] qV
theorem qjo:CtxOK Tryz.prog qjn:=mkC_ok ((qIH _ (qJe _ (qTT _ (qMF _ (qIj _ qM))))))
def qXs:V->List Obj->Option (Bool×LI×LI×Int×LL×LL×List (LI×LI)):=fun v objs=>match v,objs with
 | .s (.b y0),[.cells 87 [.arr .i8 81 y1,.arr .i8 16 y2,.one [.i .i8 y3],.rows [.i .u64,.i .u64] 32 y4,.rows [.i .u64,.i .u64] 2 y5],.map false true [.i .i64] [.i .u64,.i .u64] y6]=>some (y0,y1,y2,y3,y4,y5,y6)
 | _,_=>none
def qXr:HA:=fun o vs objs K=>match vs,objs with
 | [.agg [.one [.ptr 0 0 none 0,.i .i64 x0,.i .i64 x1,.i .u64 x2,.i .u64 x3,.mp 1,.b x4]],.agg [.one [.i .i64 x5,.i .i64 x6,.i .i64 x7,.b x8]]],[.cells 87 [.arr .i8 81 x9,.arr .i8 16 x10,.one [.i .i8 x11],.rows [.i .u64,.i .u64] 32 x12,.rows [.i .u64,.i .u64] 2 x13],.map false true [.i .i64] [.i .u64,.i .u64] x14]=>ob (qJC x0 x1 x2 x3 x4 x5 x6 x7 x8 x9 x10 x11 x12 x13 x14) fun (z0,z1,z2,z3,z4,z5,z6)=>K false (.s (.b z0)) ([.cells 87 [.arr .i8 81 z1,.arr .i8 16 z2,.one [.i .i8 z3],.rows [.i .u64,.i .u64] 32 z4,.rows [.i .u64,.i .u64] 2 z5],.map false true [.i .i64] [.i .u64,.i .u64] z6])
 | _,_=>o 88 vs objs K
def qPa (o:Orc):Orc:=qL 88 (qXr o) o
theorem qXt:OQ Tryz.prog qPa:=fun _ ho=>qN ho fun vs objs K r h=>by
 unfold qXr at h
 split at h
 ·obtain⟨t,h1,h2⟩:=qE h
  refine qd mixed qjo (D:=qXs) (fn:=Tryz.f88) (Eq.trans (by kernel_rfl) h1) (by kernel_rfl) fun v objs' hd=>?_
  unfold qXs at hd;split at hd;(cases hd;exact h2);cases hd
 ·exact ho _ _ _ _ _ h
def qe3:Ctx:=mkC 31 (qK) [] qV
theorem qe4:CtxOK Tryz.prog qe3:=mkC_ok (qM)
def qTv:V->List Obj->Option (Int):=fun v objs=>match v,objs with
 | .s (.i .i64 y0),[]=>some (y0)
 | _,_=>none
def qTu:HA:=fun o vs objs K=>match vs,List.map Obj.toRO objs with
 | [.s (.ptr 0 0 none 0),.s (.i .i64 x0),.s (.i .i64 x1)],[.rcells 87 [.arr .i8 81 x2,.arr .i8 16 x3,.one [.i .i8 x4],.rows [.i .u64,.i .u64] 32 x5,.rows [.i .u64,.i .u64] 2 x6]]=>ob (qC8 x0 x1 x2 x3 x4 x5 x6) fun y0=>K true (.s (.i .i64 y0)) ([])
 | _,_=>o 92 vs objs K
def qKF (o:Orc):Orc:=qL 92 (qTu o) o
theorem qNF:OQ Tryz.prog qKF:=fun _ ho=>qN ho fun vs objs K r h=>by
 unfold qTu at h
 split at h
 ·have hq:List.map Obj.toRO objs=_:=(by rename_i hq;first | exact hq | assumption)
  obtain⟨t,h1,h2⟩:=qE h
  refine qAs mixed qe4 (D:=qTv) (m:=1) (fn:=Tryz.f92) (by kernel_rfl) hq (by kernel_rfl) (by kernel_rfl) (qP.of (l':=[]) (by kernel_rfl) trivial) (Eq.trans (by kernel_rfl) h1) fun v objs' hd=>?_
  unfold qTv at hd;split at hd;(cases hd;exact h2);cases hd
 ·exact ho _ _ _ _ _ h
def qpr:Ctx:=mkC 6 ((qMA (qJd qK))) [] qV
theorem qps:CtxOK Tryz.prog qpr:=mkC_ok ((qSE _ (qL6 _ qM)))
def qcK:V->List Obj->Option (Int×Int):=fun v objs=>match v,objs with
 | .agg [.one [.i .u64 y0,.i .u64 y1]],[]=>some (y0,y1)
 | _,_=>none
def qcJ:HA:=fun o vs objs K=>match vs,objs with
 | [.agg [.one [.i .u64 x0,.i .u64 x1]]],[]=>ob (qMB x0 x1) fun (z0,z1)=>K false (.agg [.one [.i .u64 z0,.i .u64 z1]]) ([])
 | _,_=>o 131 vs objs K
def qcL (o:Orc):Orc:=qL 131 (qcJ o) o
theorem qpt:OQ Tryz.prog qcL:=fun _ ho=>qN ho fun vs objs K r h=>by
 unfold qcJ at h
 split at h
 ·obtain⟨t,h1,h2⟩:=qE h
  refine qd mixed qps (D:=qcK) (fn:=Tryz.f131) (Eq.trans (by kernel_rfl) h1) (by kernel_rfl) fun v objs' hd=>?_
  unfold qcK at hd;split at hd;(cases hd;exact h2);cases hd
 ·exact ho _ _ _ _ _ h
def qOh:Ex->List V->List Obj->Option (LI×LI×Int×LL×LL×Int×Int×Int×Int):=fun e vs objs=>match e,vs,objs with
 | .exit 0,[.s (.ptr 1 0 none 0),.s (.ptr 2 0 none 0)],[.rcells 87 [.arr .i8 81 y0,.arr .i8 16 y1,.one [.i .i8 y2],.rows [.i .u64,.i .u64] 32 y3,.rows [.i .u64,.i .u64] 2 y4],.cells 83 [.one [.i .u64 y5,.i .u64 y6]],.cells 83 [.one [.i .u64 y7,.i .u64 y8]]]=>some (y0,y1,y2,y3,y4,y5,y6,y7,y8)
 | _,_,_=>none
def qOj:HL:=fun vs objs K=>match vs,objs with
 | [.s (.ptr 0 0 none 0),.s (.i .i64 x0),.s (.i .i64 x1),.s (.ptr 1 0 none 0),.s (.i .i8 x2),.s (.ptr 2 0 none 0),.s (.sl 3 0 x3 true),.s (.i .i64 x4),.s (.i .i64 x5)],[.rcells 87 [.arr .i8 81 x6,.arr .i8 16 x7,.one [.i .i8 x8],.rows [.i .u64,.i .u64] 32 x9,.rows [.i .u64,.i .u64] 2 x10],.cells 83 [.one [.i .u64 x11,.i .u64 x12]],.cells 83 [.one [.i .u64 x13,.i .u64 x14]],.sli 3 false (.arr .i64 x15 x16)]=>ob (qDi qC x0 x1 x2 x3 x4 x5 x6 x7 x8 x9 x10 x11 x12 x13 x14 x15 x16) fun (z0,z1,z2,z3,z4,z5,z6,z7,z8)=>K (.exit 0) ([.s (.ptr 1 0 none 0),.s (.ptr 2 0 none 0)]) ([.rcells 87 [.arr .i8 81 z0,.arr .i8 16 z1,.one [.i .i8 z2],.rows [.i .u64,.i .u64] 32 z3,.rows [.i .u64,.i .u64] 2 z4],.cells 83 [.one [.i .u64 z5,.i .u64 z6]],.cells 83 [.one [.i .u64 z7,.i .u64 z8]]])
 | _,_=>none
def qiI:{R:Type}->Nat->List V->List Obj->(Ex->List V->List Obj->Option R)->Option R:=fun q vs objs K=>bif Nat.beq q 6 then qOj vs objs K else none
def qOg:Ctx:=mkC 53 ((qEV (qIF (qFd (qSC (qR7 (qFp (qMM (qJj (qcL (qG4 (qFJ qK)))))))))))) [(6,[0,1,2,6,7,8,24,25,26],[6,8])] qiI
theorem qWW:CtxOK Tryz.prog qOg:=mkC_ok ((qFh _ (qJe _ (qGZ _ (qcG _ (qb6 _ (qG1 _ (qSW _ (qME _ (qpt _ (qIj _ (qGH _ qM))))))))))))
def qOi (f:Nat) (x0 x1 x2:Int) (x3:Nat) (x4 x5:Int) (x6 x7:LI) (x8:Int) (x9 x10:LL) (x11 x12:Int) (x13 x14:Int) (x15:Nat) (x16:LI):Option (LI×LI×Int×LL×LL×Int×Int×Int×Int):=qh qOg 1 [0,1,2,6,7,8,24,25,26] [6,8] (qF Tryz.f118 6) f ([.s (.ptr 0 0 none 0),.s (.i .i64 x0),.s (.i .i64 x1),.s (.ptr 1 0 none 0),.s (.i .i8 x2),.s (.ptr 2 0 none 0),.s (.sl 3 0 x3 true),.s (.i .i64 x4),.s (.i .i64 x5)]) ([.rcells 87 [.arr .i8 81 x6,.arr .i8 16 x7,.one [.i .i8 x8],.rows [.i .u64,.i .u64] 32 x9,.rows [.i .u64,.i .u64] 2 x10],.cells 83 [.one [.i .u64 x11,.i .u64 x12]],.cells 83 [.one [.i .u64 x13,.i .u64 x14]],.sli 3 false (.arr .i64 x15 x16)]) qOh
theorem qiH (f:Nat) (x0 x1 x2:Int) (x3:Nat) (x4 x5:Int) (x6 x7:LI) (x8:Int) (x9 x10:LL) (x11 x12:Int) (x13 x14:Int) (x15:Nat) (x16:LI):qOi (f+1) x0 x1 x2 x3 x4 x5 x6 x7 x8 x9 x10 x11 x12 x13 x14 x15 x16=qHO (qOi f) x0 x1 x2 x3 x4 x5 x6 x7 x8 x9 x10 x11 x12 x13 x14 x15 x16:=by kernel_rfl
theorem qWY:∀ f,qOi f=qDi f
 | 0=>rfl
 | f+1=>by funext x0 x1 x2 x3 x4 x5 x6 x7 x8 x9 x10 x11 x12 x13 x14 x15 x16;rw[qiH,qWY f];rfl
theorem qiK:qe Tryz.prog qOg 1 (qF Tryz.f118 6):=
 qj mixed qWW (qP.of (l':=[]) (by kernel_rfl) trivial) (q:=6) (kin:=[0,1,2,6,7,8,24,25,26]) (kout:=[6,8]) (by kernel_rfl) (by kernel_rfl) fun vs objs K r h=>by
  replace h:qOj vs objs K=some r:=h
  unfold qOj at h
  split at h
  ·obtain⟨t,h1,h2⟩:=qE h
   rw[<- qWY] at h1
   refine⟨_,qOh,t,qC,h1,fun e vs' objs' hd=>?_⟩
   unfold qOh at hd;split at hd;(cases hd;exact h2);cases hd
  ·cases h
def qWX:V->List Obj->Option (Int×Int):=fun v objs=>match v,objs with
 | .agg [.one [.i .u64 y0,.i .u64 y1]],[]=>some (y0,y1)
 | _,_=>none
def qWV:HA:=fun o vs objs K=>match vs,List.map Obj.toRO objs with
 | [.s (.ptr 0 0 none 0),.s (.i .i64 x0),.s (.i .i64 x1)],[.rcells 87 [.arr .i8 81 x2,.arr .i8 16 x3,.one [.i .i8 x4],.rows [.i .u64,.i .u64] 32 x5,.rows [.i .u64,.i .u64] 2 x6]]=>ob (qKm x0 x1 x2 x3 x4 x5 x6) fun (z0,z1)=>K true (.agg [.one [.i .u64 z0,.i .u64 z1]]) ([])
 | _,_=>o 118 vs objs K
def qWZ (o:Orc):Orc:=qL 118 (qWV o) o
theorem qiJ:OQ Tryz.prog qWZ:=fun _ ho=>qN ho fun vs objs K r h=>by
 unfold qWV at h
 split at h
 ·have hq:List.map Obj.toRO objs=_:=(by rename_i hq;first | exact hq | assumption)
  obtain⟨t,h1,h2⟩:=qE h
  refine qAs mixed qWW (D:=qWX) (m:=1) (fn:=Tryz.f118) (by kernel_rfl) hq (by kernel_rfl) (by kernel_rfl) (qP.of (l':=[qF Tryz.f118 6]) (by kernel_rfl) ⟨qiK,trivial⟩) (Eq.trans (by kernel_rfl) h1) fun v objs' hd=>?_
  unfold qWX at hd;split at hd;(cases hd;exact h2);cases hd
 ·exact ho _ _ _ _ _ h
def qOc:Ex->List V->List Obj->Option (Nat×Int×Int×LI×LI×Int×LL×LL×Int×Int×Nat×LL):=fun e vs objs=>match e,vs,objs with
 | .exit 2,[.s (.ptr 0 0 none 0),.s (.ptr 1 0 none 0),.s (.sl 2 0 y0 true),.s (.i .i64 y1),.s (.i .i64 y2)],[.rcells 87 [.arr .i8 81 y3,.arr .i8 16 y4,.one [.i .i8 y5],.rows [.i .u64,.i .u64] 32 y6,.rows [.i .u64,.i .u64] 2 y7],.cells 83 [.one [.i .u64 y8,.i .u64 y9]],.sli 43 false (.rows [.i .i64,.i .i64,.i .i64,.b] y10 y11)]=>some (y0,y1,y2,y3,y4,y5,y6,y7,y8,y9,y10,y11)
 | _,_,_=>none
def qOa:Ex->List V->List Obj->Option (Nat×LI×LI×Int×LL×LL×Nat×LL):=fun e vs objs=>match e,vs,objs with
 | .exit 0,[.s (.sl 1 0 y0 true)],[.rcells 87 [.arr .i8 81 y1,.arr .i8 16 y2,.one [.i .i8 y3],.rows [.i .u64,.i .u64] 32 y4,.rows [.i .u64,.i .u64] 2 y5],.sli 43 false (.rows [.i .i64,.i .i64,.i .i64,.b] y6 y7)]=>some (y0,y1,y2,y3,y4,y5,y6,y7)
 | _,_,_=>none
def qOf:HL:=fun vs objs K=>match vs,objs with
 | [.s (.ptr 0 0 none 0),.s (.ptr 1 0 none 0),.s (.sl 2 0 x0 true),.s (.i .i64 x1),.s (.i .i64 x2),.s (.sl 3 0 x3 true),.s (.i .i64 x4),.s (.i .i64 x5)],[.rcells 87 [.arr .i8 81 x6,.arr .i8 16 x7,.one [.i .i8 x8],.rows [.i .u64,.i .u64] 32 x9,.rows [.i .u64,.i .u64] 2 x10],.cells 83 [.one [.i .u64 x11,.i .u64 x12]],.sli 43 false (.rows [.i .i64,.i .i64,.i .i64,.b] x13 x14),.sli 3 false (.arr .i64 x15 x16)]=>ob (qE7 qC x0 x1 x2 x3 x4 x5 x6 x7 x8 x9 x10 x11 x12 x13 x14 x15 x16) fun (z0,z1,z2,z3,z4,z5,z6,z7,z8,z9,z10,z11)=>K (.exit 2) ([.s (.ptr 0 0 none 0),.s (.ptr 1 0 none 0),.s (.sl 2 0 z0 true),.s (.i .i64 z1),.s (.i .i64 z2)]) ([.rcells 87 [.arr .i8 81 z3,.arr .i8 16 z4,.one [.i .i8 z5],.rows [.i .u64,.i .u64] 32 z6,.rows [.i .u64,.i .u64] 2 z7],.cells 83 [.one [.i .u64 z8,.i .u64 z9]],.sli 43 false (.rows [.i .i64,.i .i64,.i .i64,.b] z10 z11)])
 | _,_=>none
def qOe:HL:=fun vs objs K=>match vs,objs with
 | [.s (.ptr 0 0 none 0),.s (.ptr 1 0 none 0),.s (.sl 2 0 x0 true),.s (.i .i64 x1),.s (.i .i64 x2)],[.rcells 87 [.arr .i8 81 x3,.arr .i8 16 x4,.one [.i .i8 x5],.rows [.i .u64,.i .u64] 32 x6,.rows [.i .u64,.i .u64] 2 x7],.cells 83 [.one [.i .u64 x8,.i .u64 x9]],.sli 43 false (.rows [.i .i64,.i .i64,.i .i64,.b] x10 x11)]=>ob (qE6 qC x0 x1 x2 x3 x4 x5 x6 x7 x8 x9 x10 x11) fun (z0,z1,z2,z3,z4,z5,z6,z7)=>K (.exit 0) ([.s (.sl 1 0 z0 true)]) ([.rcells 87 [.arr .i8 81 z1,.arr .i8 16 z2,.one [.i .i8 z3],.rows [.i .u64,.i .u64] 32 z4,.rows [.i .u64,.i .u64] 2 z5],.sli 43 false (.rows [.i .i64,.i .i64,.i .i64,.b] z6 z7)])
 | _,_=>none
def qiD:{R:Type}->Nat->List V->List Obj->(Ex->List V->List Obj->Option R)->Option R:=fun q vs objs K=>bif Nat.beq q 8 then qOf vs objs K else bif Nat.beq q 4 then qOe vs objs K else none
def qI5:Ctx:=mkC 45 ((qJj (qFd (qWZ (qKF qK))))) [(4,[0,3,5,6,7],[5]),(8,[0,3,5,6,7,31,32,33],[0,3,5,6,7])] qiD
theorem qOZ:CtxOK Tryz.prog qI5:=mkC_ok ((qME _ (qGZ _ (qiJ _ (qNF _ qM)))))
def qOd (f:Nat) (x0:Nat) (x1 x2:Int) (x3:Nat) (x4 x5:Int) (x6 x7:LI) (x8:Int) (x9 x10:LL) (x11 x12:Int) (x13:Nat) (x14:LL) (x15:Nat) (x16:LI):Option (Nat×Int×Int×LI×LI×Int×LL×LL×Int×Int×Nat×LL):=qh qI5 1 [0,3,5,6,7,31,32,33] [0,3,5,6,7] (qF Tryz.f89 8) f ([.s (.ptr 0 0 none 0),.s (.ptr 1 0 none 0),.s (.sl 2 0 x0 true),.s (.i .i64 x1),.s (.i .i64 x2),.s (.sl 3 0 x3 true),.s (.i .i64 x4),.s (.i .i64 x5)]) ([.rcells 87 [.arr .i8 81 x6,.arr .i8 16 x7,.one [.i .i8 x8],.rows [.i .u64,.i .u64] 32 x9,.rows [.i .u64,.i .u64] 2 x10],.cells 83 [.one [.i .u64 x11,.i .u64 x12]],.sli 43 false (.rows [.i .i64,.i .i64,.i .i64,.b] x13 x14),.sli 3 false (.arr .i64 x15 x16)]) qOc
theorem qiC (f:Nat) (x0:Nat) (x1 x2:Int) (x3:Nat) (x4 x5:Int) (x6 x7:LI) (x8:Int) (x9 x10:LL) (x11 x12:Int) (x13:Nat) (x14:LL) (x15:Nat) (x16:LI):qOd (f+1) x0 x1 x2 x3 x4 x5 x6 x7 x8 x9 x10 x11 x12 x13 x14 x15 x16=qHN (qOd f) x0 x1 x2 x3 x4 x5 x6 x7 x8 x9 x10 x11 x12 x13 x14 x15 x16:=by kernel_rfl
theorem qWT:∀ f,qOd f=qE7 f
 | 0=>rfl
 | f+1=>by funext x0 x1 x2 x3 x4 x5 x6 x7 x8 x9 x10 x11 x12 x13 x14 x15 x16;rw[qiC,qWT f];rfl
def qOb (f:Nat) (x0:Nat) (x1 x2:Int) (x3 x4:LI) (x5:Int) (x6 x7:LL) (x8 x9:Int) (x10:Nat) (x11:LL):Option (Nat×LI×LI×Int×LL×LL×Nat×LL):=qh qI5 1 [0,3,5,6,7] [5] (qF Tryz.f89 4) f ([.s (.ptr 0 0 none 0),.s (.ptr 1 0 none 0),.s (.sl 2 0 x0 true),.s (.i .i64 x1),.s (.i .i64 x2)]) ([.rcells 87 [.arr .i8 81 x3,.arr .i8 16 x4,.one [.i .i8 x5],.rows [.i .u64,.i .u64] 32 x6,.rows [.i .u64,.i .u64] 2 x7],.cells 83 [.one [.i .u64 x8,.i .u64 x9]],.sli 43 false (.rows [.i .i64,.i .i64,.i .i64,.b] x10 x11)]) qOa
theorem qiB (f:Nat) (x0:Nat) (x1 x2:Int) (x3 x4:LI) (x5:Int) (x6 x7:LL) (x8 x9:Int) (x10:Nat) (x11:LL):qOb (f+1) x0 x1 x2 x3 x4 x5 x6 x7 x8 x9 x10 x11=qHM (qOb f) x0 x1 x2 x3 x4 x5 x6 x7 x8 x9 x10 x11:=by kernel_rfl
theorem qWS:∀ f,qOb f=qE6 f
 | 0=>rfl
 | f+1=>by funext x0 x1 x2 x3 x4 x5 x6 x7 x8 x9 x10 x11;rw[qiB,qWS f];rfl
theorem qiG:qe Tryz.prog qI5 1 (qF Tryz.f89 8):=
 qj mixed qOZ (qP.of (l':=[]) (by kernel_rfl) trivial) (q:=8) (kin:=[0,3,5,6,7,31,32,33]) (kout:=[0,3,5,6,7]) (by kernel_rfl) (by kernel_rfl) fun vs objs K r h=>by
  replace h:qOf vs objs K=some r:=h
  unfold qOf at h
  split at h
  ·obtain⟨t,h1,h2⟩:=qE h
   rw[<- qWT] at h1
   refine⟨_,qOc,t,qC,h1,fun e vs' objs' hd=>?_⟩
   unfold qOc at hd;split at hd;(cases hd;exact h2);cases hd
  ·cases h
theorem qiF:qe Tryz.prog qI5 1 (qF Tryz.f89 4):=
 qj mixed qOZ (qP.of (l':=[qF Tryz.f89 8]) (by kernel_rfl) ⟨qiG,trivial⟩) (q:=4) (kin:=[0,3,5,6,7]) (kout:=[5]) (by kernel_rfl) (by kernel_rfl) fun vs objs K r h=>by
  replace h:qOe vs objs K=some r:=h
  unfold qOe at h
  split at h
  ·obtain⟨t,h1,h2⟩:=qE h
   rw[<- qWS] at h1
   refine⟨_,qOa,t,qC,h1,fun e vs' objs' hd=>?_⟩
   unfold qOa at hd;split at hd;(cases hd;exact h2);cases hd
  ·cases h
def qWR:V->List Obj->Option (Nat×Nat×LL):=fun v objs=>match v,objs with
 | .s (.sl 1 0 y0 true),[.sli 43 false (.rows [.i .i64,.i .i64,.i .i64,.b] y1 y2)]=>some (y0,y1,y2)
 | _,_=>none
def qWQ:HA:=fun o vs objs K=>match vs,List.map Obj.toRO objs with
 | [.s (.ptr 0 0 none 0),.agg [.one [.i .u64 x0,.i .u64 x1]]],[.rcells 87 [.arr .i8 81 x2,.arr .i8 16 x3,.one [.i .i8 x4],.rows [.i .u64,.i .u64] 32 x5,.rows [.i .u64,.i .u64] 2 x6]]=>ob (qKl x0 x1 x2 x3 x4 x5 x6) fun (z0,z1,z2)=>K true (.s (.sl 1 0 z0 true)) ([.sli 43 false (.rows [.i .i64,.i .i64,.i .i64,.b] z1 z2)])
 | _,_=>o 89 vs objs K
def qWU (o:Orc):Orc:=qL 89 (qWQ o) o
theorem qiE:OQ Tryz.prog qWU:=fun _ ho=>qN ho fun vs objs K r h=>by
 unfold qWQ at h
 split at h
 ·have hq:List.map Obj.toRO objs=_:=(by rename_i hq;first | exact hq | assumption)
  obtain⟨t,h1,h2⟩:=qE h
  refine qAs mixed qOZ (D:=qWR) (m:=1) (fn:=Tryz.f89) (by kernel_rfl) hq (by kernel_rfl) (by kernel_rfl) (qP.of (l':=[qF Tryz.f89 4]) (by kernel_rfl) ⟨qiF,trivial⟩) (Eq.trans (by kernel_rfl) h1) fun v objs' hd=>?_
  unfold qWR at hd;split at hd;(cases hd;exact h2);cases hd
 ·exact ho _ _ _ _ _ h
def qe0:Ctx:=mkC 7 (qK) [] qV
theorem qe1:CtxOK Tryz.prog qe0:=mkC_ok (qM)
def qTs:V->List Obj->Option (LI×LI×Int×LL×LL):=fun v objs=>match v,objs with
 | .s (.ptr 1 0 none 0),[.cells 87 [.arr .i8 81 y0,.arr .i8 16 y1,.one [.i .i8 y2],.rows [.i .u64,.i .u64] 32 y3,.rows [.i .u64,.i .u64] 2 y4]]=>some (y0,y1,y2,y3,y4)
 | _,_=>none
def qTr:HA:=fun o vs objs K=>match vs,List.map Obj.toRO objs with
 | [.s (.ptr 0 0 none 0)],[.rcells 87 [.arr .i8 81 x0,.arr .i8 16 x1,.one [.i .i8 x2],.rows [.i .u64,.i .u64] 32 x3,.rows [.i .u64,.i .u64] 2 x4]]=>ob (qNE x0 x1 x2 x3 x4) fun (z0,z1,z2,z3,z4)=>K true (.s (.ptr 1 0 none 0)) ([.cells 87 [.arr .i8 81 z0,.arr .i8 16 z1,.one [.i .i8 z2],.rows [.i .u64,.i .u64] 32 z3,.rows [.i .u64,.i .u64] 2 z4]])
 | _,_=>o 119 vs objs K
def qTt (o:Orc):Orc:=qL 119 (qTr o) o
theorem qe2:OQ Tryz.prog qTt:=fun _ ho=>qN ho fun vs objs K r h=>by
 unfold qTr at h
 split at h
 ·have hq:List.map Obj.toRO objs=_:=(by rename_i hq;first | exact hq | assumption)
  obtain⟨t,h1,h2⟩:=qE h
  refine qAs mixed qe1 (D:=qTs) (m:=1) (fn:=Tryz.f119) (by kernel_rfl) hq (by kernel_rfl) (by kernel_rfl) (qP.of (l':=[]) (by kernel_rfl) trivial) (Eq.trans (by kernel_rfl) h1) fun v objs' hd=>?_
  unfold qTs at hd;split at hd;(cases hd;exact h2);cases hd
 ·exact ho _ _ _ _ _ h
def qPW:Ex->List V->List Obj->Option ((Bool×LI×LI×Int×LL×LL)⊕(LI×LI×Int×LL×LL)):=fun e vs objs=>match e,vs,objs with
 | .ret,[.s (.b y0)],[.rcells 87 [.arr .i8 81 y1,.arr .i8 16 y2,.one [.i .i8 y3],.rows [.i .u64,.i .u64] 32 y4,.rows [.i .u64,.i .u64] 2 y5]]=>some (.inl (y0,y1,y2,y3,y4,y5))
 | .exit 0,[.s .bad],[.rcells 87 [.arr .i8 81 y0,.arr .i8 16 y1,.one [.i .i8 y2],.rows [.i .u64,.i .u64] 32 y3,.rows [.i .u64,.i .u64] 2 y4]]=>some (.inr (y0,y1,y2,y3,y4))
 | _,_,_=>none
def qPY:HL:=fun vs objs K=>match vs,objs with
 | [.s (.ptr 1 0 none 0),.s (.sl 2 0 x0 true),.s (.i .i64 x1),.s (.i .i64 x2)],[.rcells 87 [.arr .i8 81 x3,.arr .i8 16 x4,.one [.i .i8 x5],.rows [.i .u64,.i .u64] 32 x6,.rows [.i .u64,.i .u64] 2 x7],.cells 120 [.one [.ptr 3 0 none 0,.i .i64 x8,.i .i64 x9,.i .u64 x10,.i .u64 x11,.mp 4,.b x12]],.sli 43 false (.rows [.i .i64,.i .i64,.i .i64,.b] x13 x14),.cells 87 [.arr .i8 81 x15,.arr .i8 16 x16,.one [.i .i8 x17],.rows [.i .u64,.i .u64] 32 x18,.rows [.i .u64,.i .u64] 2 x19],.map false true [.i .i64] [.i .u64,.i .u64] x20]=>ob (qFH qC x0 x1 x2 x3 x4 x5 x6 x7 x8 x9 x10 x11 x12 x13 x14 x15 x16 x17 x18 x19 x20) fun t0=>sw t0 (fun (z0,z1,z2,z3,z4,z5)=>K (.ret) ([.s (.b z0)]) ([.rcells 87 [.arr .i8 81 z1,.arr .i8 16 z2,.one [.i .i8 z3],.rows [.i .u64,.i .u64] 32 z4,.rows [.i .u64,.i .u64] 2 z5]])) (fun (z0,z1,z2,z3,z4)=>K (.exit 0) ([.s .bad]) ([.rcells 87 [.arr .i8 81 z0,.arr .i8 16 z1,.one [.i .i8 z2],.rows [.i .u64,.i .u64] 32 z3,.rows [.i .u64,.i .u64] 2 z4]]))
 | _,_=>none
def qji:{R:Type}->Nat->List V->List Obj->(Ex->List V->List Obj->Option R)->Option R:=fun q vs objs K=>bif Nat.beq q 11 then qPY vs objs K else none
def qPV:Ctx:=mkC 74 ((qPa (qOW (qJd (qPZ (qGa (qJ8 (qKI (qTt (qFo (qFJ qK))))))))))) [(11,[7,64,65,66],[4])] qji
theorem qXk:CtxOK Tryz.prog qPV:=mkC_ok ((qXt _ (qWP _ (qL6 _ (qXq _ (qIH _ (qMh _ (qNN _ (qe2 _ (qGw _ (qGH _ qM)))))))))))
def qPX (f:Nat) (x0:Nat) (x1 x2:Int) (x3 x4:LI) (x5:Int) (x6 x7:LL) (x8 x9:Int) (x10 x11:Int) (x12:Bool) (x13:Nat) (x14:LL) (x15 x16:LI) (x17:Int) (x18 x19:LL) (x20:List (LI×LI)):Option ((Bool×LI×LI×Int×LL×LL)⊕(LI×LI×Int×LL×LL)):=qh qPV 1 [7,64,65,66] [4] (qF Tryz.f90 11) f ([.s (.ptr 1 0 none 0),.s (.sl 2 0 x0 true),.s (.i .i64 x1),.s (.i .i64 x2)]) ([.rcells 87 [.arr .i8 81 x3,.arr .i8 16 x4,.one [.i .i8 x5],.rows [.i .u64,.i .u64] 32 x6,.rows [.i .u64,.i .u64] 2 x7],.cells 120 [.one [.ptr 3 0 none 0,.i .i64 x8,.i .i64 x9,.i .u64 x10,.i .u64 x11,.mp 4,.b x12]],.sli 43 false (.rows [.i .i64,.i .i64,.i .i64,.b] x13 x14),.cells 87 [.arr .i8 81 x15,.arr .i8 16 x16,.one [.i .i8 x17],.rows [.i .u64,.i .u64] 32 x18,.rows [.i .u64,.i .u64] 2 x19],.map false true [.i .i64] [.i .u64,.i .u64] x20]) qPW
theorem qjh (f:Nat) (x0:Nat) (x1 x2:Int) (x3 x4:LI) (x5:Int) (x6 x7:LL) (x8 x9:Int) (x10 x11:Int) (x12:Bool) (x13:Nat) (x14:LL) (x15 x16:LI) (x17:Int) (x18 x19:LL) (x20:List (LI×LI)):qPX (f+1) x0 x1 x2 x3 x4 x5 x6 x7 x8 x9 x10 x11 x12 x13 x14 x15 x16 x17 x18 x19 x20=qHZ (qPX f) x0 x1 x2 x3 x4 x5 x6 x7 x8 x9 x10 x11 x12 x13 x14 x15 x16 x17 x18 x19 x20:=by kernel_rfl
theorem qXm:∀ f,qPX f=qFH f
 | 0=>rfl
 | f+1=>by funext x0 x1 x2 x3 x4 x5 x6 x7 x8 x9 x10 x11 x12 x13 x14 x15 x16 x17 x18 x19 x20;rw[qjh,qXm f];rfl
theorem qjk:qe Tryz.prog qPV 1 (qF Tryz.f90 11):=
 qj mixed qXk (qP.of (l':=[]) (by kernel_rfl) trivial) (q:=11) (kin:=[7,64,65,66]) (kout:=[4]) (by kernel_rfl) (by kernel_rfl) fun vs objs K r h=>by
  replace h:qPY vs objs K=some r:=h
  unfold qPY at h
  split at h
  ·obtain⟨t,h1,h2⟩:=qE h
   rw[<- qXm] at h1
   refine⟨_,qPW,t,qC,h1,fun e vs' objs' hd=>?_⟩
   unfold qPW at hd;split at hd;(cases hd;exact h2);(cases hd;exact h2);cases hd
  ·cases h
def qXl:V->List Obj->Option (Bool):=fun v objs=>match v,objs with
 | .s (.b y0),[]=>some (y0)
 | _,_=>none
def qXj:HA:=fun o vs objs K=>match vs,List.map Obj.toRO objs with
 | [.s (.ptr 0 0 none 0),.s (.i .i64 x0)],[.rcells 87 [.arr .i8 81 x1,.arr .i8 16 x2,.one [.i .i8 x3],.rows [.i .u64,.i .u64] 32 x4,.rows [.i .u64,.i .u64] 2 x5]]=>ob (qK4 x0 x1 x2 x3 x4 x5) fun y0=>K true (.s (.b y0)) ([])
 | _,_=>o 90 vs objs K
def qXn (o:Orc):Orc:=qL 90 (qXj o) o
theorem qjj:OQ Tryz.prog qXn:=fun _ ho=>qN ho fun vs objs K r h=>by
 unfold qXj at h
 split at h
 ·have hq:List.map Obj.toRO objs=_:=(by rename_i hq;first | exact hq | assumption)
  obtain⟨t,h1,h2⟩:=qE h
  refine qAs mixed qXk (D:=qXl) (m:=1) (fn:=Tryz.f90) (by kernel_rfl) hq (by kernel_rfl) (by kernel_rfl) (qP.of (l':=[qF Tryz.f90 11]) (by kernel_rfl) ⟨qjk,trivial⟩) (Eq.trans (by kernel_rfl) h1) fun v objs' hd=>?_
  unfold qXl at hd;split at hd;(cases hd;exact h2);cases hd
 ·exact ho _ _ _ _ _ h
def qPM:Ex->List V->List Obj->Option (Nat×LI×LI×Int×LL×LL×Int×Int×Int×Int×Bool×Nat×LL×List (LI×LI)):=fun e vs objs=>match e,vs,objs with
 | .exit 0,[.s (.ptr 0 0 none 0),.s (.ptr 1 0 none 0),.s (.sl 2 0 y0 true)],[.cells 87 [.arr .i8 81 y1,.arr .i8 16 y2,.one [.i .i8 y3],.rows [.i .u64,.i .u64] 32 y4,.rows [.i .u64,.i .u64] 2 y5],.cells 120 [.one [.ptr 0 0 none 0,.i .i64 y6,.i .i64 y7,.i .u64 y8,.i .u64 y9,.mp 3,.b y10]],.sli 43 false (.rows [.i .i64,.i .i64,.i .i64,.b] y11 y12),.map false true [.i .i64] [.i .u64,.i .u64] y13]=>some (y0,y1,y2,y3,y4,y5,y6,y7,y8,y9,y10,y11,y12,y13)
 | _,_,_=>none
def qPK:Ex->List V->List Obj->Option (Nat×LI×LI×Int×LL×LL×Nat×LL):=fun e vs objs=>match e,vs,objs with
 | .exit 2,[.s (.sl 1 0 y0 true)],[.cells 87 [.arr .i8 81 y1,.arr .i8 16 y2,.one [.i .i8 y3],.rows [.i .u64,.i .u64] 32 y4,.rows [.i .u64,.i .u64] 2 y5],.sli 43 false (.rows [.i .i64,.i .i64,.i .i64,.b] y6 y7)]=>some (y0,y1,y2,y3,y4,y5,y6,y7)
 | _,_,_=>none
def qPQ:HL:=fun vs objs K=>match vs,objs with
 | [.s (.ptr 0 0 none 0),.s (.ptr 1 0 none 0),.s (.sl 2 0 x0 true),.s (.sl 3 0 x1 true),.s (.i .i64 x2),.s (.i .i64 x3)],[.cells 87 [.arr .i8 81 x4,.arr .i8 16 x5,.one [.i .i8 x6],.rows [.i .u64,.i .u64] 32 x7,.rows [.i .u64,.i .u64] 2 x8],.cells 120 [.one [.ptr 0 0 none 0,.i .i64 x9,.i .i64 x10,.i .u64 x11,.i .u64 x12,.mp 4,.b x13]],.sli 43 false (.rows [.i .i64,.i .i64,.i .i64,.b] x14 x15),.sli 43 false (.rows [.i .i64,.i .i64,.i .i64,.b] x16 x17),.map false true [.i .i64] [.i .u64,.i .u64] x18]=>ob (qFF qC x0 x1 x2 x3 x4 x5 x6 x7 x8 x9 x10 x11 x12 x13 x14 x15 x16 x17 x18) fun (z0,z1,z2,z3,z4,z5,z6,z7,z8,z9,z10,z11,z12,z13)=>K (.exit 0) ([.s (.ptr 0 0 none 0),.s (.ptr 1 0 none 0),.s (.sl 2 0 z0 true)]) ([.cells 87 [.arr .i8 81 z1,.arr .i8 16 z2,.one [.i .i8 z3],.rows [.i .u64,.i .u64] 32 z4,.rows [.i .u64,.i .u64] 2 z5],.cells 120 [.one [.ptr 0 0 none 0,.i .i64 z6,.i .i64 z7,.i .u64 z8,.i .u64 z9,.mp 3,.b z10]],.sli 43 false (.rows [.i .i64,.i .i64,.i .i64,.b] z11 z12),.map false true [.i .i64] [.i .u64,.i .u64] z13])
 | _,_=>none
def qPP:HL:=fun vs objs K=>match vs,objs with
 | [.s (.ptr 0 0 none 0),.s (.sl 1 0 x0 true),.s (.sl 2 0 x1 true),.s (.i .i64 x2),.s (.i .i64 x3)],[.cells 87 [.arr .i8 81 x4,.arr .i8 16 x5,.one [.i .i8 x6],.rows [.i .u64,.i .u64] 32 x7,.rows [.i .u64,.i .u64] 2 x8],.sli 43 false (.rows [.i .i64,.i .i64,.i .i64,.b] x9 x10),.sli 43 false (.rows [.i .i64,.i .i64,.i .i64,.b] x11 x12)]=>ob (qEI qC x0 x1 x2 x3 x4 x5 x6 x7 x8 x9 x10 x11 x12) fun (z0,z1,z2,z3,z4,z5,z6,z7)=>K (.exit 2) ([.s (.sl 1 0 z0 true)]) ([.cells 87 [.arr .i8 81 z1,.arr .i8 16 z2,.one [.i .i8 z3],.rows [.i .u64,.i .u64] 32 z4,.rows [.i .u64,.i .u64] 2 z5],.sli 43 false (.rows [.i .i64,.i .i64,.i .i64,.b] z6 z7)])
 | _,_=>none
def qja:{R:Type}->Nat->List V->List Obj->(Ex->List V->List Obj->Option R)->Option R:=fun q vs objs K=>bif Nat.beq q 4 then qPQ vs objs K else bif Nat.beq q 10 then qPP vs objs K else none
def qI9:Ctx:=mkC 51 ((qXn (qWU (qPa (qOW (qJd (qPZ qK))))))) [(4,[0,3,4,13,14,15],[0,3,4]),(10,[0,4,30,31,32],[4])] qja
theorem qPJ:CtxOK Tryz.prog qI9:=mkC_ok ((qjj _ (qiE _ (qXt _ (qWP _ (qL6 _ (qXq _ qM)))))))
def qPN (f:Nat) (x0 x1:Nat) (x2 x3:Int) (x4 x5:LI) (x6:Int) (x7 x8:LL) (x9 x10:Int) (x11 x12:Int) (x13:Bool) (x14:Nat) (x15:LL) (x16:Nat) (x17:LL) (x18:List (LI×LI)):Option (Nat×LI×LI×Int×LL×LL×Int×Int×Int×Int×Bool×Nat×LL×List (LI×LI)):=qh qI9 1 [0,3,4,13,14,15] [0,3,4] (qF Tryz.f54 4) f ([.s (.ptr 0 0 none 0),.s (.ptr 1 0 none 0),.s (.sl 2 0 x0 true),.s (.sl 3 0 x1 true),.s (.i .i64 x2),.s (.i .i64 x3)]) ([.cells 87 [.arr .i8 81 x4,.arr .i8 16 x5,.one [.i .i8 x6],.rows [.i .u64,.i .u64] 32 x7,.rows [.i .u64,.i .u64] 2 x8],.cells 120 [.one [.ptr 0 0 none 0,.i .i64 x9,.i .i64 x10,.i .u64 x11,.i .u64 x12,.mp 4,.b x13]],.sli 43 false (.rows [.i .i64,.i .i64,.i .i64,.b] x14 x15),.sli 43 false (.rows [.i .i64,.i .i64,.i .i64,.b] x16 x17),.map false true [.i .i64] [.i .u64,.i .u64] x18]) qPM
theorem qjZ (f:Nat) (x0 x1:Nat) (x2 x3:Int) (x4 x5:LI) (x6:Int) (x7 x8:LL) (x9 x10:Int) (x11 x12:Int) (x13:Bool) (x14:Nat) (x15:LL) (x16:Nat) (x17:LL) (x18:List (LI×LI)):qPN (f+1) x0 x1 x2 x3 x4 x5 x6 x7 x8 x9 x10 x11 x12 x13 x14 x15 x16 x17 x18=qHX (qPN f) x0 x1 x2 x3 x4 x5 x6 x7 x8 x9 x10 x11 x12 x13 x14 x15 x16 x17 x18:=by kernel_rfl
theorem qXc:∀ f,qPN f=qFF f
 | 0=>rfl
 | f+1=>by funext x0 x1 x2 x3 x4 x5 x6 x7 x8 x9 x10 x11 x12 x13 x14 x15 x16 x17 x18;rw[qjZ,qXc f];rfl
def qPL (f:Nat) (x0 x1:Nat) (x2 x3:Int) (x4 x5:LI) (x6:Int) (x7 x8:LL) (x9:Nat) (x10:LL) (x11:Nat) (x12:LL):Option (Nat×LI×LI×Int×LL×LL×Nat×LL):=qh qI9 1 [0,4,30,31,32] [4] (qF Tryz.f54 10) f ([.s (.ptr 0 0 none 0),.s (.sl 1 0 x0 true),.s (.sl 2 0 x1 true),.s (.i .i64 x2),.s (.i .i64 x3)]) ([.cells 87 [.arr .i8 81 x4,.arr .i8 16 x5,.one [.i .i8 x6],.rows [.i .u64,.i .u64] 32 x7,.rows [.i .u64,.i .u64] 2 x8],.sli 43 false (.rows [.i .i64,.i .i64,.i .i64,.b] x9 x10),.sli 43 false (.rows [.i .i64,.i .i64,.i .i64,.b] x11 x12)]) qPK
theorem qjY (f:Nat) (x0 x1:Nat) (x2 x3:Int) (x4 x5:LI) (x6:Int) (x7 x8:LL) (x9:Nat) (x10:LL) (x11:Nat) (x12:LL):qPL (f+1) x0 x1 x2 x3 x4 x5 x6 x7 x8 x9 x10 x11 x12=qHW (qPL f) x0 x1 x2 x3 x4 x5 x6 x7 x8 x9 x10 x11 x12:=by kernel_rfl
theorem qXb:∀ f,qPL f=qEI f
 | 0=>rfl
 | f+1=>by funext x0 x1 x2 x3 x4 x5 x6 x7 x8 x9 x10 x11 x12;rw[qjY,qXb f];rfl
theorem qjc:qe Tryz.prog qI9 1 (qF Tryz.f54 4):=
 qj mixed qPJ (qP.of (l':=[]) (by kernel_rfl) trivial) (q:=4) (kin:=[0,3,4,13,14,15]) (kout:=[0,3,4]) (by kernel_rfl) (by kernel_rfl) fun vs objs K r h=>by
  replace h:qPQ vs objs K=some r:=h
  unfold qPQ at h
  split at h
  ·obtain⟨t,h1,h2⟩:=qE h
   rw[<- qXc] at h1
   refine⟨_,qPM,t,qC,h1,fun e vs' objs' hd=>?_⟩
   unfold qPM at hd;split at hd;(cases hd;exact h2);cases hd
  ·cases h
theorem qjb:qe Tryz.prog qI9 1 (qF Tryz.f54 10):=
 qj mixed qPJ (qP.of (l':=[]) (by kernel_rfl) trivial) (q:=10) (kin:=[0,4,30,31,32]) (kout:=[4]) (by kernel_rfl) (by kernel_rfl) fun vs objs K r h=>by
  replace h:qPP vs objs K=some r:=h
  unfold qPP at h
  split at h
  ·obtain⟨t,h1,h2⟩:=qE h
   rw[<- qXb] at h1
   refine⟨_,qPK,t,qC,h1,fun e vs' objs' hd=>?_⟩
   unfold qPK at hd;split at hd;(cases hd;exact h2);cases hd
  ·cases h
def qXa:V->List Obj->Option (Nat×LI×LI×Int×LL×LL×Nat×LL):=fun v objs=>match v,objs with
 | .s (.sl 1 0 y0 true),[.cells 87 [.arr .i8 81 y1,.arr .i8 16 y2,.one [.i .i8 y3],.rows [.i .u64,.i .u64] 32 y4,.rows [.i .u64,.i .u64] 2 y5],.sli 43 false (.rows [.i .i64,.i .i64,.i .i64,.b] y6 y7)]=>some (y0,y1,y2,y3,y4,y5,y6,y7)
 | _,_=>none
def qXZ:HA:=fun o vs objs K=>match vs,objs with
 | [.s (.ptr 0 0 none 0)],[.cells 87 [.arr .i8 81 x0,.arr .i8 16 x1,.one [.i .i8 x2],.rows [.i .u64,.i .u64] 32 x3,.rows [.i .u64,.i .u64] 2 x4]]=>ob (qHV x0 x1 x2 x3 x4) fun (z0,z1,z2,z3,z4,z5,z6,z7)=>K false (.s (.sl 1 0 z0 true)) ([.cells 87 [.arr .i8 81 z1,.arr .i8 16 z2,.one [.i .i8 z3],.rows [.i .u64,.i .u64] 32 z4,.rows [.i .u64,.i .u64] 2 z5],.sli 43 false (.rows [.i .i64,.i .i64,.i .i64,.b] z6 z7)])
 | _,_=>o 54 vs objs K
def qPO (o:Orc):Orc:=qL 54 (qXZ o) o
theorem qXd:OQ Tryz.prog qPO:=fun _ ho=>qN ho fun vs objs K r h=>by
 unfold qXZ at h
 split at h
 ·obtain⟨t,h1,h2⟩:=qE h
  refine qAQ mixed qPJ (D:=qXa) (fn:=Tryz.f54) (Eq.trans (by kernel_rfl) h1) (by kernel_rfl) (m:=1) rfl (qP.of (l':=[qF Tryz.f54 4,qF Tryz.f54 10]) (by kernel_rfl) ⟨qjc,qjb,trivial⟩) fun v objs' hd=>?_
  unfold qXa at hd;split at hd;(cases hd;exact h2);cases hd
 ·exact ho _ _ _ _ _ h
def qOO:Ex->List V->List Obj->Option ((Bool×Int×LI×LI×Int×Nat×Nat×Nat×Int×Int×Int×Nat×Nat×LL×Nat×LL×LL×Nat×List Bool×LI×LI×Int×LL×LL×Nat×LL×LL)⊕(Int×LI×LI×Int×Nat×Nat×Nat×Int×Int×Int×Nat×Nat×LL×Nat×LL×LL×Nat×List Bool×LI×LI×Int×LL×LL×Nat×LL×LL)):=fun e vs objs=>match e,vs,objs with
 | .ret,[.s (.b y0),.s (.i .i64 y1)],[.cells 71 [.arr .i8 81 y2,.arr .i8 16 y3,.one [.i .i8 y4],.one [.ptr 1 0 none 0,.sl 2 0 y5 true,.sl 3 0 y6 true,.mp 4,.sl 5 0 y7 true,.i .i64 y8,.i .i64 y9]],.cells 80 [.one [.ptr 6 0 none 0,.i .u64 y10,.sl 7 0 y11 true]],.sli 43 false (.rows [.i .i64,.i .i64,.i .i64,.b] y12 y13),.sli 28 false (.rows kk0 y14 y15),Obj.maps false [.i .u64] y16 8 none,.sli 4 false (Seg.barr y17 y18),.cells 87 [.arr .i8 81 y19,.arr .i8 16 y20,.one [.i .i8 y21],.rows [.i .u64,.i .u64] 32 y22,.rows [.i .u64,.i .u64] 2 y23],.sli 109 false (.rows [.i .i64,.i .i64,.i .i64,.b,.i .i8,.i .i8] y24 y25),Obj.pol 3 (PS.a .i64 y26)]=>bif decide (kk0=kL0) then some (.inl (y0,y1,y2,y3,y4,y5,y6,y7,y8,y9,y10,y11,y12,y13,y14,y15,y16,y17,y18,y19,y20,y21,y22,y23,y24,y25,y26)) else none
 | .exit 0,[.s .bad,.s (.i .i64 y0)],[.cells 71 [.arr .i8 81 y1,.arr .i8 16 y2,.one [.i .i8 y3],.one [.ptr 1 0 none 0,.sl 2 0 y4 true,.sl 3 0 y5 true,.mp 4,.sl 5 0 y6 true,.i .i64 y7,.i .i64 y8]],.cells 80 [.one [.ptr 6 0 none 0,.i .u64 y9,.sl 7 0 y10 true]],.sli 43 false (.rows [.i .i64,.i .i64,.i .i64,.b] y11 y12),.sli 28 false (.rows kk0 y13 y14),Obj.maps false [.i .u64] y15 8 none,.sli 4 false (Seg.barr y16 y17),.cells 87 [.arr .i8 81 y18,.arr .i8 16 y19,.one [.i .i8 y20],.rows [.i .u64,.i .u64] 32 y21,.rows [.i .u64,.i .u64] 2 y22],.sli 109 false (.rows [.i .i64,.i .i64,.i .i64,.b,.i .i8,.i .i8] y23 y24),Obj.pol 3 (PS.a .i64 y25)]=>bif decide (kk0=kL0) then some (.inr (y0,y1,y2,y3,y4,y5,y6,y7,y8,y9,y10,y11,y12,y13,y14,y15,y16,y17,y18,y19,y20,y21,y22,y23,y24,y25)) else none
 | _,_,_=>none
def qOQ:HL:=fun vs objs K=>match vs,objs with
 | [.s (.ptr 0 0 none 0),.s (.i .i64 x0),.s (.i .i64 x1),.s (.i .i64 x2)],[.cells 71 [.arr .i8 81 x3,.arr .i8 16 x4,.one [.i .i8 x5],.one [.ptr 1 0 none 0,.sl 2 0 x6 true,.sl 3 0 x7 true,.mp 4,.sl 5 0 x8 true,.i .i64 x9,.i .i64 x10]],.cells 80 [.one [.ptr 6 0 none 0,.i .u64 x11,.sl 7 0 x12 true]],.sli 43 false (.rows [.i .i64,.i .i64,.i .i64,.b] x13 x14),.sli 28 false (.rows kk0 x15 x16),Obj.maps false [.i .u64] x17 8 none,.sli 4 false (Seg.barr x18 x19),.cells 87 [.arr .i8 81 x20,.arr .i8 16 x21,.one [.i .i8 x22],.rows [.i .u64,.i .u64] 32 x23,.rows [.i .u64,.i .u64] 2 x24],.sli 109 false (.rows [.i .i64,.i .i64,.i .i64,.b,.i .i8,.i .i8] x25 x26),Obj.pol 3 (PS.a .i64 x27)]=>bif decide (kk0=kL0) then ob (qE3 qC x0 x1 x2 x3 x4 x5 x6 x7 x8 x9 x10 x11 x12 x13 x14 x15 x16 x17 x18 x19 x20 x21 x22 x23 x24 x25 x26 x27) fun t0=>sw t0 (fun (z0,z1,z2,z3,z4,z5,z6,z7,z8,z9,z10,z11,z12,z13,z14,z15,z16,z17,z18,z19,z20,z21,z22,z23,z24,z25,z26)=>K (.ret) ([.s (.b z0),.s (.i .i64 z1)]) ([.cells 71 [.arr .i8 81 z2,.arr .i8 16 z3,.one [.i .i8 z4],.one [.ptr 1 0 none 0,.sl 2 0 z5 true,.sl 3 0 z6 true,.mp 4,.sl 5 0 z7 true,.i .i64 z8,.i .i64 z9]],.cells 80 [.one [.ptr 6 0 none 0,.i .u64 z10,.sl 7 0 z11 true]],.sli 43 false (.rows [.i .i64,.i .i64,.i .i64,.b] z12 z13),.sli 28 false (.rows kL0 z14 z15),Obj.maps false [.i .u64] z16 8 none,.sli 4 false (Seg.barr z17 z18),.cells 87 [.arr .i8 81 z19,.arr .i8 16 z20,.one [.i .i8 z21],.rows [.i .u64,.i .u64] 32 z22,.rows [.i .u64,.i .u64] 2 z23],.sli 109 false (.rows [.i .i64,.i .i64,.i .i64,.b,.i .i8,.i .i8] z24 z25),Obj.pol 3 (PS.a .i64 z26)])) (fun (z0,z1,z2,z3,z4,z5,z6,z7,z8,z9,z10,z11,z12,z13,z14,z15,z16,z17,z18,z19,z20,z21,z22,z23,z24,z25)=>K (.exit 0) ([.s .bad,.s (.i .i64 z0)]) ([.cells 71 [.arr .i8 81 z1,.arr .i8 16 z2,.one [.i .i8 z3],.one [.ptr 1 0 none 0,.sl 2 0 z4 true,.sl 3 0 z5 true,.mp 4,.sl 5 0 z6 true,.i .i64 z7,.i .i64 z8]],.cells 80 [.one [.ptr 6 0 none 0,.i .u64 z9,.sl 7 0 z10 true]],.sli 43 false (.rows [.i .i64,.i .i64,.i .i64,.b] z11 z12),.sli 28 false (.rows kL0 z13 z14),Obj.maps false [.i .u64] z15 8 none,.sli 4 false (Seg.barr z16 z17),.cells 87 [.arr .i8 81 z18,.arr .i8 16 z19,.one [.i .i8 z20],.rows [.i .u64,.i .u64] 32 z21,.rows [.i .u64,.i .u64] 2 z22],.sli 109 false (.rows [.i .i64,.i .i64,.i .i64,.b,.i .i8,.i .i8] z23 z24),Obj.pol 3 (PS.a .i64 z25)])) else none
 | _,_=>none
def qh2:{R:Type}->Nat->List V->List Obj->(Ex->List V->List Obj->Option R)->Option R:=fun q vs objs K=>bif Nat.beq q 3 then qOQ vs objs K else none
def qON:Ctx:=mkC 43 (qK) [(3,[0,1,7,8],[6,7])] qh2
theorem qWG:CtxOK Tryz.prog qON:=mkC_ok (qM)
def qOP (f:Nat) (x0 x1 x2:Int) (x3 x4:LI) (x5:Int) (x6 x7 x8:Nat) (x9 x10 x11:Int) (x12 x13:Nat) (x14:LL) (x15:Nat) (x16 x17:LL) (x18:Nat) (x19:List Bool) (x20 x21:LI) (x22:Int) (x23 x24:LL) (x25:Nat) (x26 x27:LL):Option ((Bool×Int×LI×LI×Int×Nat×Nat×Nat×Int×Int×Int×Nat×Nat×LL×Nat×LL×LL×Nat×List Bool×LI×LI×Int×LL×LL×Nat×LL×LL)⊕(Int×LI×LI×Int×Nat×Nat×Nat×Int×Int×Int×Nat×Nat×LL×Nat×LL×LL×Nat×List Bool×LI×LI×Int×LL×LL×Nat×LL×LL)):=qh qON 9 [0,1,7,8] [6,7] (qF Tryz.f55 3) f ([.s (.ptr 0 0 none 0),.s (.i .i64 x0),.s (.i .i64 x1),.s (.i .i64 x2)]) ([.cells 71 [.arr .i8 81 x3,.arr .i8 16 x4,.one [.i .i8 x5],.one [.ptr 1 0 none 0,.sl 2 0 x6 true,.sl 3 0 x7 true,.mp 4,.sl 5 0 x8 true,.i .i64 x9,.i .i64 x10]],.cells 80 [.one [.ptr 6 0 none 0,.i .u64 x11,.sl 7 0 x12 true]],.sli 43 false (.rows [.i .i64,.i .i64,.i .i64,.b] x13 x14),.sli 28 false (.rows kL0 x15 x16),Obj.maps false [.i .u64] x17 8 none,.sli 4 false (Seg.barr x18 x19),.cells 87 [.arr .i8 81 x20,.arr .i8 16 x21,.one [.i .i8 x22],.rows [.i .u64,.i .u64] 32 x23,.rows [.i .u64,.i .u64] 2 x24],.sli 109 false (.rows [.i .i64,.i .i64,.i .i64,.b,.i .i8,.i .i8] x25 x26),Obj.pol 3 (PS.a .i64 x27)]) qOO
theorem qh1 (f:Nat) (x0 x1 x2:Int) (x3 x4:LI) (x5:Int) (x6 x7 x8:Nat) (x9 x10 x11:Int) (x12 x13:Nat) (x14:LL) (x15:Nat) (x16 x17:LL) (x18:Nat) (x19:List Bool) (x20 x21:LI) (x22:Int) (x23 x24:LL) (x25:Nat) (x26 x27:LL):qOP (f+1) x0 x1 x2 x3 x4 x5 x6 x7 x8 x9 x10 x11 x12 x13 x14 x15 x16 x17 x18 x19 x20 x21 x22 x23 x24 x25 x26 x27=qKk (qOP f) x0 x1 x2 x3 x4 x5 x6 x7 x8 x9 x10 x11 x12 x13 x14 x15 x16 x17 x18 x19 x20 x21 x22 x23 x24 x25 x26 x27:=by kernel_rfl
theorem qWI:∀ f,qOP f=qE3 f
 | 0=>rfl
 | f+1=>by funext x0 x1 x2 x3 x4 x5 x6 x7 x8 x9 x10 x11 x12 x13 x14 x15 x16 x17 x18 x19 x20 x21 x22 x23 x24 x25 x26 x27;rw[qh1,qWI f];rfl
theorem qh4:qe Tryz.prog qON 9 (qF Tryz.f55 3):=
 qj mixed qWG (qP.of (l':=[]) (by kernel_rfl) trivial) (q:=3) (kin:=[0,1,7,8]) (kout:=[6,7]) (by kernel_rfl) (by kernel_rfl) fun vs objs K r h=>by
  replace h:qOQ vs objs K=some r:=h
  unfold qOQ at h
  split at h
  ·obtain rfl:=(ql h).1
   replace h:=(ql h).2
   obtain⟨t,h1,h2⟩:=qE h
   rw[<- qWI] at h1
   refine⟨_,qOO,t,qC,h1,fun e vs' objs' hd=>?_⟩
   unfold qOO at hd;split at hd;(obtain rfl:=(ql hd).1;replace hd:=(ql hd).2;cases hd;exact h2);(obtain rfl:=(ql hd).1;replace hd:=(ql hd).2;cases hd;exact h2);cases hd
  ·cases h
def qWH:V->List Obj->Option (Bool×LI×LI×Int×Nat×Nat×Nat×Int×Int×Int×Nat×Nat×LL×Nat×LL×LL×Nat×List Bool×LI×LI×Int×LL×LL×Nat×LL×LL):=fun v objs=>match v,objs with
 | .s (.b y0),[.cells 71 [.arr .i8 81 y1,.arr .i8 16 y2,.one [.i .i8 y3],.one [.ptr 1 0 none 0,.sl 2 0 y4 true,.sl 3 0 y5 true,.mp 4,.sl 5 0 y6 true,.i .i64 y7,.i .i64 y8]],.cells 80 [.one [.ptr 6 0 none 0,.i .u64 y9,.sl 7 0 y10 true]],.sli 43 false (.rows [.i .i64,.i .i64,.i .i64,.b] y11 y12),.sli 28 false (.rows kk0 y13 y14),Obj.maps false [.i .u64] y15 8 none,.sli 4 false (Seg.barr y16 y17),.cells 87 [.arr .i8 81 y18,.arr .i8 16 y19,.one [.i .i8 y20],.rows [.i .u64,.i .u64] 32 y21,.rows [.i .u64,.i .u64] 2 y22],.sli 109 false (.rows [.i .i64,.i .i64,.i .i64,.b,.i .i8,.i .i8] y23 y24),Obj.pol 3 (PS.a .i64 y25)]=>bif decide (kk0=kL0) then some (y0,y1,y2,y3,y4,y5,y6,y7,y8,y9,y10,y11,y12,y13,y14,y15,y16,y17,y18,y19,y20,y21,y22,y23,y24,y25) else none
 | _,_=>none
def qWF:HA:=fun o vs objs K=>match vs,objs with
 | [.s (.ptr 0 0 none 0),.s (.i .i64 x0),.s (.i .i64 x1)],[.cells 71 [.arr .i8 81 x2,.arr .i8 16 x3,.one [.i .i8 x4],.one [.ptr 1 0 none 0,.sl 2 0 x5 true,.sl 3 0 x6 true,.mp 4,.sl 5 0 x7 true,.i .i64 x8,.i .i64 x9]],.cells 80 [.one [.ptr 6 0 none 0,.i .u64 x10,.sl 7 0 x11 true]],.sli 43 false (.rows [.i .i64,.i .i64,.i .i64,.b] x12 x13),.sli 28 false (.rows kk0 x14 x15),Obj.maps false [.i .u64] x16 8 none,.sli 4 false (Seg.barr x17 x18),.cells 87 [.arr .i8 81 x19,.arr .i8 16 x20,.one [.i .i8 x21],.rows [.i .u64,.i .u64] 32 x22,.rows [.i .u64,.i .u64] 2 x23],.sli 109 false (.rows [.i .i64,.i .i64,.i .i64,.b,.i .i8,.i .i8] x24 x25),Obj.pol 3 (PS.a .i64 x26)]=>bif decide (kk0=kL0) then ob (qI2 x0 x1 x2 x3 x4 x5 x6 x7 x8 x9 x10 x11 x12 x13 x14 x15 x16 x17 x18 x19 x20 x21 x22 x23 x24 x25 x26) fun (z0,z1,z2,z3,z4,z5,z6,z7,z8,z9,z10,z11,z12,z13,z14,z15,z16,z17,z18,z19,z20,z21,z22,z23,z24,z25)=>K false (.s (.b z0)) ([.cells 71 [.arr .i8 81 z1,.arr .i8 16 z2,.one [.i .i8 z3],.one [.ptr 1 0 none 0,.sl 2 0 z4 true,.sl 3 0 z5 true,.mp 4,.sl 5 0 z6 true,.i .i64 z7,.i .i64 z8]],.cells 80 [.one [.ptr 6 0 none 0,.i .u64 z9,.sl 7 0 z10 true]],.sli 43 false (.rows [.i .i64,.i .i64,.i .i64,.b] z11 z12),.sli 28 false (.rows kL0 z13 z14),Obj.maps false [.i .u64] z15 8 none,.sli 4 false (Seg.barr z16 z17),.cells 87 [.arr .i8 81 z18,.arr .i8 16 z19,.one [.i .i8 z20],.rows [.i .u64,.i .u64] 32 z21,.rows [.i .u64,.i .u64] 2 z22],.sli 109 false (.rows [.i .i64,.i .i64,.i .i64,.b,.i .i8,.i .i8] z23 z24),Obj.pol 3 (PS.a .i64 z25)]) else none
 | _,_=>o 55 vs objs K
def qWJ (o:Orc):Orc:=qL 55 (qWF o) o
theorem qh3:OQ Tryz.prog qWJ:=fun _ ho=>qN ho fun vs objs K r h=>by
 unfold qWF at h
 split at h
 ·obtain rfl:=(ql h).1
  replace h:=(ql h).2
  obtain⟨t,h1,h2⟩:=qE h
  refine qAQ mixed qWG (D:=qWH) (fn:=Tryz.f55) (Eq.trans (by kernel_rfl) h1) (by kernel_rfl) (m:=9) rfl (qP.of (l':=[qF Tryz.f55 3]) (by kernel_rfl) ⟨qh4,trivial⟩) fun v objs' hd=>?_
  unfold qWH at hd;split at hd;(obtain rfl:=(ql hd).1;replace hd:=(ql hd).2;cases hd;exact h2);cases hd
 ·exact ho _ _ _ _ _ h
def qhz:Ctx:=mkC 131 ((qWJ (qPO (qWB (qNv (qMi qK)))))) [] qV
theorem qh0:CtxOK Tryz.prog qhz:=mkC_ok ((qh3 _ (qXd _ (qhw _ (qUw _ (qTO _ qM))))))
def qWD:V->List Obj->Option (LI×LI×Int×Nat×Nat×Nat×Int×Int×Int×Nat×Nat×LL×LL×LI×LI×Int×LL×LL×Nat×LL×Nat×LL×Nat×List Bool×LL):=fun v objs=>match v,objs with
 | .tup [],[.cells 71 [.arr .i8 81 y0,.arr .i8 16 y1,.one [.i .i8 y2],.one [.ptr 1 0 none 0,.sl 2 0 y3 true,.sl 9 0 y4 true,.mp 4,.sl 10 0 y5 true,.i .i64 y6,.i .i64 y7]],.cells 80 [.one [.ptr 6 0 none 0,.i .u64 y8,.sl 7 0 y9 true]],.sli 43 false (.rows [.i .i64,.i .i64,.i .i64,.b] y10 y11),Obj.dead,Obj.maps false [.i .u64] y12 11 none,Obj.dead,.cells 87 [.arr .i8 81 y13,.arr .i8 16 y14,.one [.i .i8 y15],.rows [.i .u64,.i .u64] 32 y16,.rows [.i .u64,.i .u64] 2 y17],.sli 109 false (.rows [.i .i64,.i .i64,.i .i64,.b,.i .i8,.i .i8] y18 y19),Obj.dead,.sli 28 false (.rows kk0 y20 y21),.sli 4 false (Seg.barr y22 y23),Obj.pol 3 (PS.a .i64 y24)]=>bif decide (kk0=kL0) then some (y0,y1,y2,y3,y4,y5,y6,y7,y8,y9,y10,y11,y12,y13,y14,y15,y16,y17,y18,y19,y20,y21,y22,y23,y24) else none
 | _,_=>none
def qWC:HA:=fun o vs objs K=>match vs,objs with
 | [.s (.ptr 0 0 none 0)],[.cells 71 [.arr .i8 81 x0,.arr .i8 16 x1,.one [.i .i8 x2],.one [.ptr 1 0 none 0,.sl 2 0 x3 true,.sl 3 0 x4 true,.mp 4,.sl 5 0 x5 true,.i .i64 x6,.i .i64 x7]],.cells 80 [.one [.ptr 6 0 none 0,.i .u64 x8,.sl 7 0 x9 true]],.sli 43 false (.rows [.i .i64,.i .i64,.i .i64,.b] x10 x11),.sli 28 false (.rows kk0 x12 x13),Obj.maps false [.i .u64] x14 8 none,.sli 4 false (Seg.barr x15 x16),.cells 87 [.arr .i8 81 x17,.arr .i8 16 x18,.one [.i .i8 x19],.rows [.i .u64,.i .u64] 32 x20,.rows [.i .u64,.i .u64] 2 x21],.sli 109 false (.rows [.i .i64,.i .i64,.i .i64,.b,.i .i8,.i .i8] x22 x23),Obj.pol 3 (PS.a .i64 x24)]=>bif decide (kk0=kL0) then ob (qHJ x0 x1 x2 x3 x4 x5 x6 x7 x8 x9 x10 x11 x12 x13 x14 x15 x16 x17 x18 x19 x20 x21 x22 x23 x24) fun (z0,z1,z2,z3,z4,z5,z6,z7,z8,z9,z10,z11,z12,z13,z14,z15,z16,z17,z18,z19,z20,z21,z22,z23,z24)=>K false (.tup []) ([.cells 71 [.arr .i8 81 z0,.arr .i8 16 z1,.one [.i .i8 z2],.one [.ptr 1 0 none 0,.sl 2 0 z3 true,.sl 9 0 z4 true,.mp 4,.sl 10 0 z5 true,.i .i64 z6,.i .i64 z7]],.cells 80 [.one [.ptr 6 0 none 0,.i .u64 z8,.sl 7 0 z9 true]],.sli 43 false (.rows [.i .i64,.i .i64,.i .i64,.b] z10 z11),Obj.dead,Obj.maps false [.i .u64] z12 11 none,Obj.dead,.cells 87 [.arr .i8 81 z13,.arr .i8 16 z14,.one [.i .i8 z15],.rows [.i .u64,.i .u64] 32 z16,.rows [.i .u64,.i .u64] 2 z17],.sli 109 false (.rows [.i .i64,.i .i64,.i .i64,.b,.i .i8,.i .i8] z18 z19),Obj.dead,.sli 28 false (.rows kL0 z20 z21),.sli 4 false (Seg.barr z22 z23),Obj.pol 3 (PS.a .i64 z24)]) else none
 | _,_=>o 27 vs objs K
def qOM (o:Orc):Orc:=qL 27 (qWC o) o
theorem qWE:OQ Tryz.prog qOM:=fun _ ho=>qN ho fun vs objs K r h=>by
 unfold qWC at h
 split at h
 ·obtain rfl:=(ql h).1
  replace h:=(ql h).2
  obtain⟨t,h1,h2⟩:=qE h
  refine qd mixed qh0 (D:=qWD) (fn:=Tryz.f27) (Eq.trans (by kernel_rfl) h1) (by kernel_rfl) fun v objs' hd=>?_
  unfold qWD at hd;split at hd;(obtain rfl:=(ql hd).1;replace hd:=(ql hd).2;cases hd;exact h2);cases hd
 ·exact ho _ _ _ _ _ h
def qhf:Ctx:=mkC 20 ((qOM (qVB (qTL qK)))) [] qV
theorem qhg:CtxOK Tryz.prog qhf:=mkC_ok ((qWE _ (qgp _ (qeG _ qM))))
def qVm:V->List Obj->Option ((Int)⊕(Int×LI×LI×Int×Nat×Nat×Nat×Int×Int×Int×Nat×Nat×LL×Nat×LL×LL×Nat×List Bool×LI×LI×Int×LL×LL×Nat×LL×LL)):=fun v objs=>match v,objs with
 | .tup [W.s .nilp,W.s (.i .i64 y0)],[]=>some (.inl (y0))
 | .tup [W.s (.ptr 0 0 none 0),W.s (.i .i64 y0)],[.cells 71 [.arr .i8 81 y1,.arr .i8 16 y2,.one [.i .i8 y3],.one [.ptr 1 0 none 0,.sl 2 0 y4 true,.sl 3 0 y5 true,.mp 4,.sl 5 0 y6 true,.i .i64 y7,.i .i64 y8]],.cells 80 [.one [.ptr 6 0 none 0,.i .u64 y9,.sl 7 0 y10 true]],.sli 43 false (.rows [.i .i64,.i .i64,.i .i64,.b] y11 y12),.sli 28 false (.rows kk0 y13 y14),Obj.maps false [.i .u64] y15 8 none,.sli 4 false (Seg.barr y16 y17),.cells 87 [.arr .i8 81 y18,.arr .i8 16 y19,.one [.i .i8 y20],.rows [.i .u64,.i .u64] 32 y21,.rows [.i .u64,.i .u64] 2 y22],.sli 109 false (.rows [.i .i64,.i .i64,.i .i64,.b,.i .i8,.i .i8] y23 y24),Obj.pol 3 (PS.a .i64 y25)]=>bif decide (kk0=kL0) then some (.inr (y0,y1,y2,y3,y4,y5,y6,y7,y8,y9,y10,y11,y12,y13,y14,y15,y16,y17,y18,y19,y20,y21,y22,y23,y24,y25)) else none
 | _,_=>none
def qVl:HA:=fun o vs objs K=>match vs,objs with
 | [.agg [.arr .i8 81 x0,.arr .i8 16 x1,.one [.i .i8 x2]]],[]=>ob (qI1 x0 x1 x2) fun t0=>sw t0 (fun y0=>K false (.tup [W.s .nilp,W.s (.i .i64 y0)]) ([])) (fun (z0,z1,z2,z3,z4,z5,z6,z7,z8,z9,z10,z11,z12,z13,z14,z15,z16,z17,z18,z19,z20,z21,z22,z23,z24,z25)=>K false (.tup [W.s (.ptr 0 0 none 0),W.s (.i .i64 z0)]) ([.cells 71 [.arr .i8 81 z1,.arr .i8 16 z2,.one [.i .i8 z3],.one [.ptr 1 0 none 0,.sl 2 0 z4 true,.sl 3 0 z5 true,.mp 4,.sl 5 0 z6 true,.i .i64 z7,.i .i64 z8]],.cells 80 [.one [.ptr 6 0 none 0,.i .u64 z9,.sl 7 0 z10 true]],.sli 43 false (.rows [.i .i64,.i .i64,.i .i64,.b] z11 z12),.sli 28 false (.rows kL0 z13 z14),Obj.maps false [.i .u64] z15 8 none,.sli 4 false (Seg.barr z16 z17),.cells 87 [.arr .i8 81 z18,.arr .i8 16 z19,.one [.i .i8 z20],.rows [.i .u64,.i .u64] 32 z21,.rows [.i .u64,.i .u64] 2 z22],.sli 109 false (.rows [.i .i64,.i .i64,.i .i64,.b,.i .i8,.i .i8] z23 z24),Obj.pol 3 (PS.a .i64 z25)]))
 | _,_=>o 10 vs objs K
def qOB (o:Orc):Orc:=qL 10 (qVl o) o
theorem qVn:OQ Tryz.prog qOB:=fun _ ho=>qN ho fun vs objs K r h=>by
 unfold qVl at h
 split at h
 ·obtain⟨t,h1,h2⟩:=qE h
  refine qd mixed qhg (D:=qVm) (fn:=Tryz.f10) (Eq.trans (by kernel_rfl) h1) (by kernel_rfl) fun v objs' hd=>?_
  unfold qVm at hd;split at hd;(cases hd;exact h2);(obtain rfl:=(ql hd).1;replace hd:=(ql hd).2;cases hd;exact h2);cases hd
 ·exact ho _ _ _ _ _ h
def qhc:Ctx:=mkC 40 (qK) [] qV
theorem qhd:CtxOK Tryz.prog qhc:=mkC_ok (qM)
def qVj:V->List Obj->Option (Empty):=fun v objs=>match v,objs with
 | _,_=>none
def qVi:HA:=fun o vs objs K=>match vs,objs with
 | [.s .nilp,.agg [.one [.i .i64 x0,.i .i64 x1,.i .i64 x2,.b x3]]],[]=>ob (qVe x0 x1 x2 x3) fun _=>none
 | _,_=>o 13 vs objs K
def qVk (o:Orc):Orc:=qL 13 (qVi o) o
theorem qhe:OQ Tryz.prog qVk:=fun _ ho=>qN ho fun vs objs K r h=>by
 unfold qVi at h
 split at h
 ·obtain⟨t,h1,h2⟩:=qE h
  refine qd mixed qhd (D:=qVj) (fn:=Tryz.f13) (Eq.trans (by kernel_rfl) h1) (by kernel_rfl) fun v objs' hd=>?_
  unfold qVj at hd
  split at hd
  ·cases hd
 ·exact ho _ _ _ _ _ h
end
end Go.Kk.KkGT
