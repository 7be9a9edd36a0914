/- Printed by a tool of this project (KkGen): the program's functions come to the plain ones. -/
import Derived.Test.YthklalefbhbhmaaGreatDoorKkGTc
namespace Go.Kk.KkGT
noncomputable section
open Go.Proofs Go.Kk.Pl
set_option maxRecDepth 100000
set_option maxHeartbeats 4000000
def qPS:Ex->List V->List Obj->Option ((Bool×LI×LI×Int×LL×LL)⊕(LI×LI×Int×LL×LL)):=fun e vs objs=>match e,vs,objs with
 | .ret,[.s (.b y0)],[.cells 87 [.arr .i8 81 y1,.arr .i8 16 y2,.one [.i .i8 y3],.rows [.i .u64,.i .u64] 32 y4,.rows [.i .u64,.i .u64] 2 y5]]=>some (.inl (y0,y1,y2,y3,y4,y5))
 | .exit 0,[.s .bad],[.cells 87 [.arr .i8 81 y0,.arr .i8 16 y1,.one [.i .i8 y2],.rows [.i .u64,.i .u64] 32 y3,.rows [.i .u64,.i .u64] 2 y4]]=>some (.inr (y0,y1,y2,y3,y4))
 | _,_,_=>none
def qPU:HL:=fun vs objs K=>match vs,objs with
 | [.s (.ptr 1 0 none 0),.s (.sl 2 0 x0 true),.s (.i .i64 x1),.s (.i .i64 x2)],[.cells 87 [.arr .i8 81 x3,.arr .i8 16 x4,.one [.i .i8 x5],.rows [.i .u64,.i .u64] 32 x6,.rows [.i .u64,.i .u64] 2 x7],.cells 43 [.one [.i .i64 x8,.i .i64 x9,.i .i64 x10,.b x11]],.sli 43 false (.rows [.i .i64,.i .i64,.i .i64,.b] x12 x13)]=>ob (qFG qC x0 x1 x2 x3 x4 x5 x6 x7 x8 x9 x10 x11 x12 x13) fun t0=>sw t0 (fun (z0,z1,z2,z3,z4,z5)=>K (.ret) ([.s (.b z0)]) ([.cells 87 [.arr .i8 81 z1,.arr .i8 16 z2,.one [.i .i8 z3],.rows [.i .u64,.i .u64] 32 z4,.rows [.i .u64,.i .u64] 2 z5]])) (fun (z0,z1,z2,z3,z4)=>K (.exit 0) ([.s .bad]) ([.cells 87 [.arr .i8 81 z0,.arr .i8 16 z1,.one [.i .i8 z2],.rows [.i .u64,.i .u64] 32 z3,.rows [.i .u64,.i .u64] 2 z4]]))
 | _,_=>none
def qje:{R:Type}->Nat->List V->List Obj->(Ex->List V->List Obj->Option R)->Option R:=fun q vs objs K=>bif Nat.beq q 2 then qPU vs objs K else none
def qPR:Ctx:=mkC 18 ((qPO qK)) [(2,[3,8,9,10],[4])] qje
theorem qXf:CtxOK Tryz.prog qPR:=mkC_ok ((qXd _ qM))
def qPT (f:Nat) (x0:Nat) (x1 x2:Int) (x3 x4:LI) (x5:Int) (x6 x7:LL) (x8 x9 x10:Int) (x11:Bool) (x12:Nat) (x13:LL):Option ((Bool×LI×LI×Int×LL×LL)⊕(LI×LI×Int×LL×LL)):=qh qPR 1 [3,8,9,10] [4] (qF Tryz.f30 2) f ([.s (.ptr 1 0 none 0),.s (.sl 2 0 x0 true),.s (.i .i64 x1),.s (.i .i64 x2)]) ([.cells 87 [.arr .i8 81 x3,.arr .i8 16 x4,.one [.i .i8 x5],.rows [.i .u64,.i .u64] 32 x6,.rows [.i .u64,.i .u64] 2 x7],.cells 43 [.one [.i .i64 x8,.i .i64 x9,.i .i64 x10,.b x11]],.sli 43 false (.rows [.i .i64,.i .i64,.i .i64,.b] x12 x13)]) qPS
theorem qjd (f:Nat) (x0:Nat) (x1 x2:Int) (x3 x4:LI) (x5:Int) (x6 x7:LL) (x8 x9 x10:Int) (x11:Bool) (x12:Nat) (x13:LL):qPT (f+1) x0 x1 x2 x3 x4 x5 x6 x7 x8 x9 x10 x11 x12 x13=qHY (qPT f) x0 x1 x2 x3 x4 x5 x6 x7 x8 x9 x10 x11 x12 x13:=by kernel_rfl
theorem qXh:∀ f,qPT f=qFG f
 | 0=>rfl
 | f+1=>by funext x0 x1 x2 x3 x4 x5 x6 x7 x8 x9 x10 x11 x12 x13;rw[qjd,qXh f];rfl
theorem qjg:qe Tryz.prog qPR 1 (qF Tryz.f30 2):=
 qj mixed qXf (qP.of (l':=[]) (by kernel_rfl) trivial) (q:=2) (kin:=[3,8,9,10]) (kout:=[4]) (by kernel_rfl) (by kernel_rfl) fun vs objs K r h=>by
  replace h:qPU vs objs K=some r:=h
  unfold qPU at h
  split at h
  ·obtain⟨t,h1,h2⟩:=qE h
   rw[<- qXh] at h1
   refine⟨_,qPS,t,qC,h1,fun e vs' objs' hd=>?_⟩
   unfold qPS at hd;split at hd;(cases hd;exact h2);(cases hd;exact h2);cases hd
  ·cases h
def qXg:V->List Obj->Option (Bool×LI×LI×Int×LL×LL):=fun v objs=>match v,objs with
 | .s (.b y0),[.cells 87 [.arr .i8 81 y1,.arr .i8 16 y2,.one [.i .i8 y3],.rows [.i .u64,.i .u64] 32 y4,.rows [.i .u64,.i .u64] 2 y5]]=>some (y0,y1,y2,y3,y4,y5)
 | _,_=>none
def qXe:HA:=fun o vs objs K=>match vs,objs with
 | [.s (.ptr 0 0 none 0),.agg [.one [.i .i64 x0,.i .i64 x1,.i .i64 x2,.b x3]]],[.cells 87 [.arr .i8 81 x4,.arr .i8 16 x5,.one [.i .i8 x6],.rows [.i .u64,.i .u64] 32 x7,.rows [.i .u64,.i .u64] 2 x8]]=>ob (qJA x0 x1 x2 x3 x4 x5 x6 x7 x8) fun (z0,z1,z2,z3,z4,z5)=>K false (.s (.b z0)) ([.cells 87 [.arr .i8 81 z1,.arr .i8 16 z2,.one [.i .i8 z3],.rows [.i .u64,.i .u64] 32 z4,.rows [.i .u64,.i .u64] 2 z5]])
 | _,_=>o 30 vs objs K
def qXi (o:Orc):Orc:=qL 30 (qXe o) o
theorem qjf:OQ Tryz.prog qXi:=fun _ ho=>qN ho fun vs objs K r h=>by
 unfold qXe at h
 split at h
 ·obtain⟨t,h1,h2⟩:=qE h
  refine qAQ mixed qXf (D:=qXg) (fn:=Tryz.f30) (Eq.trans (by kernel_rfl) h1) (by kernel_rfl) (m:=1) rfl (qP.of (l':=[qF Tryz.f30 2]) (by kernel_rfl) ⟨qjg,trivial⟩) fun v objs' hd=>?_
  unfold qXg at hd;split at hd;(cases hd;exact h2);cases hd
 ·exact ho _ _ _ _ _ h
def qkL:Ctx:=mkC 48 (qK) [] qV
theorem qkM:CtxOK Tryz.prog qkL:=mkC_ok (qM)
def qYN:V->List Obj->Option (Int):=fun v objs=>match v,objs with
 | .s (.i .i64 y0),[]=>some (y0)
 | _,_=>none
def qYM:HA:=fun o vs objs K=>match vs,objs with
 | [.agg [.one [.i .i64 x0,.i .i64 x1,.i .i64 x2,.b x3]]],[]=>ob (qHh x0 x1 x2 x3) fun y0=>K false (.s (.i .i64 y0)) ([])
 | _,_=>o 91 vs objs K
def qYO (o:Orc):Orc:=qL 91 (qYM o) o
theorem qkN:OQ Tryz.prog qYO:=fun _ ho=>qN ho fun vs objs K r h=>by
 unfold qYM at h
 split at h
 ·obtain⟨t,h1,h2⟩:=qE h
  refine qd mixed qkM (D:=qYN) (fn:=Tryz.f91) (Eq.trans (by kernel_rfl) h1) (by kernel_rfl) fun v objs' hd=>?_
  unfold qYN at hd;split at hd;(cases hd;exact h2);cases hd
 ·exact ho _ _ _ _ _ h
def qgW:Ctx:=mkC 104 ((qLV (qDI (qFK (qFo (qKF (qYO qK))))))) [] qV
theorem qgX:CtxOK Tryz.prog qgW:=mkC_ok ((qP5 _ (qDo _ (qGI _ (qGw _ (qNF _ (qkN _ qM)))))))
def qUs:V->List Obj->Option (Bool):=fun v objs=>match v,objs with
 | .s (.b y0),[]=>some (y0)
 | _,_=>none
def qUr:HA:=fun o vs objs K=>match vs,List.map Obj.toRO objs with
 | [.s (.ptr 0 0 none 0),.agg [.one [.i .i64 x0,.i .i64 x1,.i .i64 x2,.b x3]]],[.rcells 80 [.one [.ptr 1 0 none 0,.i .u64 x4,.sl 2 0 x5 true]],.rcells 87 [.arr .i8 81 x6,.arr .i8 16 x7,.one [.i .i8 x8],.rows [.i .u64,.i .u64] 32 x9,.rows [.i .u64,.i .u64] 2 x10],.sli 109 true (.rows [.i .i64,.i .i64,.i .i64,.b,.i .i8,.i .i8] x11 x12)]=>ob (qEx x0 x1 x2 x3 x4 x5 x6 x7 x8 x9 x10 x11 x12) fun y0=>K true (.s (.b y0)) ([])
 | _,_=>o 59 vs objs K
def qUt (o:Orc):Orc:=qL 59 (qUr o) o
theorem qgY:OQ Tryz.prog qUt:=fun _ ho=>qN ho fun vs objs K r h=>by
 unfold qUr at h
 split at h
 ·have hq:List.map Obj.toRO objs=_:=(by rename_i hq;first | exact hq | assumption)
  obtain⟨t,h1,h2⟩:=qE h
  refine qAs mixed qgX (D:=qUs) (m:=3) (fn:=Tryz.f59) (by kernel_rfl) hq (by kernel_rfl) (by kernel_rfl) (qP.of (l':=[]) (by kernel_rfl) trivial) (Eq.trans (by kernel_rfl) h1) fun v objs' hd=>?_
  unfold qUs at hd;split at hd;(cases hd;exact h2);cases hd
 ·exact ho _ _ _ _ _ h
def qge:Ctx:=mkC 54 ((qOv (qKF qK))) [] qV
theorem qgf:CtxOK Tryz.prog qge:=mkC_ok ((qW6 _ (qNF _ qM)))
def qU1:V->List Obj->Option (Int×Nat×LI×LI×Int×LL×LL×Nat×LL):=fun v objs=>match v,objs with
 | .tup [],[.cells 80 [.one [.ptr 1 0 none 0,.i .u64 y0,.sl 2 0 y1 true]],.cells 87 [.arr .i8 81 y2,.arr .i8 16 y3,.one [.i .i8 y4],.rows [.i .u64,.i .u64] 32 y5,.rows [.i .u64,.i .u64] 2 y6],.sli 109 false (.rows [.i .i64,.i .i64,.i .i64,.b,.i .i8,.i .i8] y7 y8)]=>some (y0,y1,y2,y3,y4,y5,y6,y7,y8)
 | _,_=>none
def qU0:HA:=fun o vs objs K=>match vs,objs with
 | [.s (.ptr 0 0 none 0),.s (.i .i64 x0),.s (.i .i64 x1),.s (.i .i64 x2)],[.cells 80 [.one [.ptr 1 0 none 0,.i .u64 x3,.sl 2 0 x4 true]],.cells 87 [.arr .i8 81 x5,.arr .i8 16 x6,.one [.i .i8 x7],.rows [.i .u64,.i .u64] 32 x8,.rows [.i .u64,.i .u64] 2 x9],.sli 109 false (.rows [.i .i64,.i .i64,.i .i64,.b,.i .i8,.i .i8] x10 x11)]=>ob (qFt x0 x1 x2 x3 x4 x5 x6 x7 x8 x9 x10 x11) fun (z0,z1,z2,z3,z4,z5,z6,z7,z8)=>K false (.tup []) ([.cells 80 [.one [.ptr 1 0 none 0,.i .u64 z0,.sl 2 0 z1 true]],.cells 87 [.arr .i8 81 z2,.arr .i8 16 z3,.one [.i .i8 z4],.rows [.i .u64,.i .u64] 32 z5,.rows [.i .u64,.i .u64] 2 z6],.sli 109 false (.rows [.i .i64,.i .i64,.i .i64,.b,.i .i8,.i .i8] z7 z8)])
 | _,_=>o 61 vs objs K
def qU2 (o:Orc):Orc:=qL 61 (qU0 o) o
theorem qgg:OQ Tryz.prog qU2:=fun _ ho=>qN ho fun vs objs K r h=>by
 unfold qU0 at h
 split at h
 ·obtain⟨t,h1,h2⟩:=qE h
  refine qd mixed qgf (D:=qU1) (fn:=Tryz.f61) (Eq.trans (by kernel_rfl) h1) (by kernel_rfl) fun v objs' hd=>?_
  unfold qU1 at hd;split at hd;(cases hd;exact h2);cases hd
 ·exact ho _ _ _ _ _ h
def qgh:Ctx:=mkC 32 ((qKI (qO5 (qFo qK)))) [] qV
theorem qgi:CtxOK Tryz.prog qgh:=mkC_ok ((qNN _ (qXF _ (qGw _ qM))))
def qU4:V->List Obj->Option (Int×Nat×LI×LI×Int×LL×LL×Nat×LL):=fun v objs=>match v,objs with
 | .tup [],[.cells 80 [.one [.ptr 1 0 none 0,.i .u64 y0,.sl 2 0 y1 true]],.cells 87 [.arr .i8 81 y2,.arr .i8 16 y3,.one [.i .i8 y4],.rows [.i .u64,.i .u64] 32 y5,.rows [.i .u64,.i .u64] 2 y6],.sli 109 false (.rows [.i .i64,.i .i64,.i .i64,.b,.i .i8,.i .i8] y7 y8)]=>some (y0,y1,y2,y3,y4,y5,y6,y7,y8)
 | _,_=>none
def qU3:HA:=fun o vs objs K=>match vs,objs with
 | [.s (.ptr 0 0 none 0),.s (.i .i64 x0),.s (.i .i8 x1)],[.cells 80 [.one [.ptr 1 0 none 0,.i .u64 x2,.sl 2 0 x3 true]],.cells 87 [.arr .i8 81 x4,.arr .i8 16 x5,.one [.i .i8 x6],.rows [.i .u64,.i .u64] 32 x7,.rows [.i .u64,.i .u64] 2 x8],.sli 109 false (.rows [.i .i64,.i .i64,.i .i64,.b,.i .i8,.i .i8] x9 x10)]=>ob (qDg x0 x1 x2 x3 x4 x5 x6 x7 x8 x9 x10) fun (z0,z1,z2,z3,z4,z5,z6,z7,z8)=>K false (.tup []) ([.cells 80 [.one [.ptr 1 0 none 0,.i .u64 z0,.sl 2 0 z1 true]],.cells 87 [.arr .i8 81 z2,.arr .i8 16 z3,.one [.i .i8 z4],.rows [.i .u64,.i .u64] 32 z5,.rows [.i .u64,.i .u64] 2 z6],.sli 109 false (.rows [.i .i64,.i .i64,.i .i64,.b,.i .i8,.i .i8] z7 z8)])
 | _,_=>o 62 vs objs K
def qU5 (o:Orc):Orc:=qL 62 (qU3 o) o
theorem qgj:OQ Tryz.prog qU5:=fun _ ho=>qN ho fun vs objs K r h=>by
 unfold qU3 at h
 split at h
 ·obtain⟨t,h1,h2⟩:=qE h
  refine qd mixed qgi (D:=qU4) (fn:=Tryz.f62) (Eq.trans (by kernel_rfl) h1) (by kernel_rfl) fun v objs' hd=>?_
  unfold qU4 at hd;split at hd;(cases hd;exact h2);cases hd
 ·exact ho _ _ _ _ _ h
def qgk:Ctx:=mkC 26 ((qO6 qK)) [] qV
theorem qgl:CtxOK Tryz.prog qgk:=mkC_ok ((qXI _ qM))
def qU7:V->List Obj->Option (Int×Nat×LI×LI×Int×LL×LL×Nat×LL):=fun v objs=>match v,objs with
 | .tup [],[.cells 80 [.one [.ptr 1 0 none 0,.i .u64 y0,.sl 2 0 y1 true]],.cells 87 [.arr .i8 81 y2,.arr .i8 16 y3,.one [.i .i8 y4],.rows [.i .u64,.i .u64] 32 y5,.rows [.i .u64,.i .u64] 2 y6],.sli 109 false (.rows [.i .i64,.i .i64,.i .i64,.b,.i .i8,.i .i8] y7 y8)]=>some (y0,y1,y2,y3,y4,y5,y6,y7,y8)
 | _,_=>none
def qU6:HA:=fun o vs objs K=>match vs,objs with
 | [.s (.ptr 0 0 none 0)],[.cells 80 [.one [.ptr 1 0 none 0,.i .u64 x0,.sl 2 0 x1 true]],.cells 87 [.arr .i8 81 x2,.arr .i8 16 x3,.one [.i .i8 x4],.rows [.i .u64,.i .u64] 32 x5,.rows [.i .u64,.i .u64] 2 x6],.sli 109 false (.rows [.i .i64,.i .i64,.i .i64,.b,.i .i8,.i .i8] x7 x8)]=>ob (qDh x0 x1 x2 x3 x4 x5 x6 x7 x8) fun (z0,z1,z2,z3,z4,z5,z6,z7,z8)=>K false (.tup []) ([.cells 80 [.one [.ptr 1 0 none 0,.i .u64 z0,.sl 2 0 z1 true]],.cells 87 [.arr .i8 81 z2,.arr .i8 16 z3,.one [.i .i8 z4],.rows [.i .u64,.i .u64] 32 z5,.rows [.i .u64,.i .u64] 2 z6],.sli 109 false (.rows [.i .i64,.i .i64,.i .i64,.b,.i .i8,.i .i8] z7 z8)])
 | _,_=>o 66 vs objs K
def qU8 (o:Orc):Orc:=qL 66 (qU6 o) o
theorem qgm:OQ Tryz.prog qU8:=fun _ ho=>qN ho fun vs objs K r h=>by
 unfold qU6 at h
 split at h
 ·obtain⟨t,h1,h2⟩:=qE h
  refine qd mixed qgl (D:=qU7) (fn:=Tryz.f66) (Eq.trans (by kernel_rfl) h1) (by kernel_rfl) fun v objs' hd=>?_
  unfold qU7 at hd;split at hd;(cases hd;exact h2);cases hd
 ·exact ho _ _ _ _ _ h
def qgb:Ctx:=mkC 97 ((qP3 (qLV (qDI (qU8 (qU5 (qU2 (qFJ (qFo (qUt qK)))))))))) [] qV
theorem qgc:CtxOK Tryz.prog qgb:=mkC_ok ((qYv _ (qP5 _ (qDo _ (qgm _ (qgj _ (qgg _ (qGH _ (qGw _ (qgY _ qM))))))))))
def qUy:V->List Obj->Option ((Bool×Int×Nat×LI×LI×Int×LL×LL×Nat×LL)⊕(Bool×Int×Nat×LI×LI×Int×LL×LL×Nat×LL)):=fun v objs=>match v,objs with
 | .s (.b y0),[.cells 80 [.one [.ptr 1 0 none 0,.i .u64 y1,.sl 2 0 y2 true]],.cells 87 [.arr .i8 81 y3,.arr .i8 16 y4,.one [.i .i8 y5],.rows [.i .u64,.i .u64] 32 y6,.rows [.i .u64,.i .u64] 2 y7],.sli 109 false (.rows [.i .i64,.i .i64,.i .i64,.b,.i .i8,.i .i8] y8 y9)]=>some (.inl (y0,y1,y2,y3,y4,y5,y6,y7,y8,y9))
 | .s (.b y0),[.cells 80 [.one [.ptr 1 0 none 0,.i .u64 y1,.sl 3 0 y2 true]],.cells 87 [.arr .i8 81 y3,.arr .i8 16 y4,.one [.i .i8 y5],.rows [.i .u64,.i .u64] 32 y6,.rows [.i .u64,.i .u64] 2 y7],Obj.dead,.sli 109 false (.rows [.i .i64,.i .i64,.i .i64,.b,.i .i8,.i .i8] y8 y9)]=>some (.inr (y0,y1,y2,y3,y4,y5,y6,y7,y8,y9))
 | _,_=>none
def qUx:HA:=fun o vs objs K=>match vs,objs with
 | [.s (.ptr 0 0 none 0),.agg [.one [.i .i64 x0,.i .i64 x1,.i .i64 x2,.b x3]]],[.cells 80 [.one [.ptr 1 0 none 0,.i .u64 x4,.sl 2 0 x5 true]],.cells 87 [.arr .i8 81 x6,.arr .i8 16 x7,.one [.i .i8 x8],.rows [.i .u64,.i .u64] 32 x9,.rows [.i .u64,.i .u64] 2 x10],.sli 109 false (.rows [.i .i64,.i .i64,.i .i64,.b,.i .i8,.i .i8] x11 x12)]=>ob (qEy x0 x1 x2 x3 x4 x5 x6 x7 x8 x9 x10 x11 x12) fun t0=>sw t0 (fun (z0,z1,z2,z3,z4,z5,z6,z7,z8,z9)=>K false (.s (.b z0)) ([.cells 80 [.one [.ptr 1 0 none 0,.i .u64 z1,.sl 2 0 z2 true]],.cells 87 [.arr .i8 81 z3,.arr .i8 16 z4,.one [.i .i8 z5],.rows [.i .u64,.i .u64] 32 z6,.rows [.i .u64,.i .u64] 2 z7],.sli 109 false (.rows [.i .i64,.i .i64,.i .i64,.b,.i .i8,.i .i8] z8 z9)])) (fun (z0,z1,z2,z3,z4,z5,z6,z7,z8,z9)=>K false (.s (.b z0)) ([.cells 80 [.one [.ptr 1 0 none 0,.i .u64 z1,.sl 3 0 z2 true]],.cells 87 [.arr .i8 81 z3,.arr .i8 16 z4,.one [.i .i8 z5],.rows [.i .u64,.i .u64] 32 z6,.rows [.i .u64,.i .u64] 2 z7],Obj.dead,.sli 109 false (.rows [.i .i64,.i .i64,.i .i64,.b,.i .i8,.i .i8] z8 z9)]))
 | _,_=>o 31 vs objs K
def qUz (o:Orc):Orc:=qL 31 (qUx o) o
theorem qgd:OQ Tryz.prog qUz:=fun _ ho=>qN ho fun vs objs K r h=>by
 unfold qUx at h
 split at h
 ·obtain⟨t,h1,h2⟩:=qE h
  refine qd mixed qgc (D:=qUy) (fn:=Tryz.f31) (Eq.trans (by kernel_rfl) h1) (by kernel_rfl) fun v objs' hd=>?_
  unfold qUy at hd;split at hd;(cases hd;exact h2);(cases hd;exact h2);cases hd
 ·exact ho _ _ _ _ _ h
def qha:Ctx:=mkC 40 ((qOM (qUz (qXi qK)))) [] qV
theorem qhb:CtxOK Tryz.prog qha:=mkC_ok ((qWE _ (qgd _ (qjf _ qM))))
def qVg:V->List Obj->Option ((Int×LI×LI×Int×Nat×Nat×Nat×Int×Int×Int×Nat×Nat×LL×Nat×LL×LL×Nat×List Bool×LI×LI×Int×LL×LL×Nat×LL×LL)⊕((Int×LI×LI×Int×Nat×Nat×Nat×Int×Int×Int×Nat×LL×LI×LI×Int×LL×LL×Nat×LL×Nat×LL×Nat×LL×Nat×List Bool×LL)⊕(Int×LI×LI×Int×Nat×Nat×Nat×Int×Int×Int×Nat×LL×LI×LI×Int×LL×LL×Nat×LL×Nat×LL×Nat×List Bool×Nat×LL×LL))):=fun v objs=>match v,objs with
 | .s (.i .i64 y0),[.cells 71 [.arr .i8 81 y1,.arr .i8 16 y2,.one [.i .i8 y3],.one [.ptr 1 0 none 0,.sl 2 0 y4 true,.sl 3 0 y5 true,.mp 4,.sl 5 0 y6 true,.i .i64 y7,.i .i64 y8]],.cells 80 [.one [.ptr 6 0 none 0,.i .u64 y9,.sl 7 0 y10 true]],.sli 43 false (.rows [.i .i64,.i .i64,.i .i64,.b] y11 y12),.sli 28 false (.rows kk0 y13 y14),Obj.maps false [.i .u64] y15 8 none,.sli 4 false (Seg.barr y16 y17),.cells 87 [.arr .i8 81 y18,.arr .i8 16 y19,.one [.i .i8 y20],.rows [.i .u64,.i .u64] 32 y21,.rows [.i .u64,.i .u64] 2 y22],.sli 109 false (.rows [.i .i64,.i .i64,.i .i64,.b,.i .i8,.i .i8] y23 y24),Obj.pol 3 (PS.a .i64 y25)]=>bif decide (kk0=kL0) then some (.inl (y0,y1,y2,y3,y4,y5,y6,y7,y8,y9,y10,y11,y12,y13,y14,y15,y16,y17,y18,y19,y20,y21,y22,y23,y24,y25)) else none
 | .s (.i .i64 y0),[.cells 71 [.arr .i8 81 y1,.arr .i8 16 y2,.one [.i .i8 y3],.one [.ptr 1 0 none 0,.sl 9 0 y4 true,.sl 10 0 y5 true,.mp 4,.sl 11 0 y6 true,.i .i64 y7,.i .i64 y8]],.cells 80 [.one [.ptr 6 0 none 0,.i .u64 y9,.sl 7 0 y10 true]],Obj.dead,Obj.dead,Obj.maps false [.i .u64] y11 12 none,Obj.dead,.cells 87 [.arr .i8 81 y12,.arr .i8 16 y13,.one [.i .i8 y14],.rows [.i .u64,.i .u64] 32 y15,.rows [.i .u64,.i .u64] 2 y16],.sli 109 false (.rows [.i .i64,.i .i64,.i .i64,.b,.i .i8,.i .i8] y17 y18),Obj.dead,.sli 43 false (.rows [.i .i64,.i .i64,.i .i64,.b] y19 y20),.sli 28 false (.rows kk0 y21 y22),.sli 4 false (Seg.barr y23 y24),Obj.pol 3 (PS.a .i64 y25)]=>bif decide (kk0=kL0) then some (.inr (.inl (y0,y1,y2,y3,y4,y5,y6,y7,y8,y9,y10,y11,y12,y13,y14,y15,y16,y17,y18,y19,y20,y21,y22,y23,y24,y25))) else none
 | .s (.i .i64 y0),[.cells 71 [.arr .i8 81 y1,.arr .i8 16 y2,.one [.i .i8 y3],.one [.ptr 1 0 none 0,.sl 9 0 y4 true,.sl 10 0 y5 true,.mp 4,.sl 11 0 y6 true,.i .i64 y7,.i .i64 y8]],.cells 80 [.one [.ptr 6 0 none 0,.i .u64 y9,.sl 12 0 y10 true]],Obj.dead,Obj.dead,Obj.maps false [.i .u64] y11 13 none,Obj.dead,.cells 87 [.arr .i8 81 y12,.arr .i8 16 y13,.one [.i .i8 y14],.rows [.i .u64,.i .u64] 32 y15,.rows [.i .u64,.i .u64] 2 y16],Obj.dead,Obj.dead,.sli 43 false (.rows [.i .i64,.i .i64,.i .i64,.b] y17 y18),.sli 28 false (.rows kk0 y19 y20),.sli 4 false (Seg.barr y21 y22),.sli 109 false (.rows [.i .i64,.i .i64,.i .i64,.b,.i .i8,.i .i8] y23 y24),Obj.pol 3 (PS.a .i64 y25)]=>bif decide (kk0=kL0) then some (.inr (.inr (y0,y1,y2,y3,y4,y5,y6,y7,y8,y9,y10,y11,y12,y13,y14,y15,y16,y17,y18,y19,y20,y21,y22,y23,y24,y25))) else none
 | _,_=>none
def qVf:HA:=fun o vs objs K=>match vs,objs with
 | [.s (.ptr 0 0 none 0),.agg [.one [.i .i64 x0,.i .i64 x1,.i .i64 x2,.b x3]]],[.cells 71 [.arr .i8 81 x4,.arr .i8 16 x5,.one [.i .i8 x6],.one [.ptr 1 0 none 0,.sl 2 0 x7 true,.sl 3 0 x8 true,.mp 4,.sl 5 0 x9 true,.i .i64 x10,.i .i64 x11]],.cells 80 [.one [.ptr 6 0 none 0,.i .u64 x12,.sl 7 0 x13 true]],.sli 43 false (.rows [.i .i64,.i .i64,.i .i64,.b] x14 x15),.sli 28 false (.rows kk0 x16 x17),Obj.maps false [.i .u64] x18 8 none,.sli 4 false (Seg.barr x19 x20),.cells 87 [.arr .i8 81 x21,.arr .i8 16 x22,.one [.i .i8 x23],.rows [.i .u64,.i .u64] 32 x24,.rows [.i .u64,.i .u64] 2 x25],.sli 109 false (.rows [.i .i64,.i .i64,.i .i64,.b,.i .i8,.i .i8] x26 x27),Obj.pol 3 (PS.a .i64 x28)]=>bif decide (kk0=kL0) then ob (qF0 x0 x1 x2 x3 x4 x5 x6 x7 x8 x9 x10 x11 x12 x13 x14 x15 x16 x17 x18 x19 x20 x21 x22 x23 x24 x25 x26 x27 x28) fun t0=>sw t0 (fun (z0,z1,z2,z3,z4,z5,z6,z7,z8,z9,z10,z11,z12,z13,z14,z15,z16,z17,z18,z19,z20,z21,z22,z23,z24,z25)=>K false (.s (.i .i64 z0)) ([.cells 71 [.arr .i8 81 z1,.arr .i8 16 z2,.one [.i .i8 z3],.one [.ptr 1 0 none 0,.sl 2 0 z4 true,.sl 3 0 z5 true,.mp 4,.sl 5 0 z6 true,.i .i64 z7,.i .i64 z8]],.cells 80 [.one [.ptr 6 0 none 0,.i .u64 z9,.sl 7 0 z10 true]],.sli 43 false (.rows [.i .i64,.i .i64,.i .i64,.b] z11 z12),.sli 28 false (.rows kL0 z13 z14),Obj.maps false [.i .u64] z15 8 none,.sli 4 false (Seg.barr z16 z17),.cells 87 [.arr .i8 81 z18,.arr .i8 16 z19,.one [.i .i8 z20],.rows [.i .u64,.i .u64] 32 z21,.rows [.i .u64,.i .u64] 2 z22],.sli 109 false (.rows [.i .i64,.i .i64,.i .i64,.b,.i .i8,.i .i8] z23 z24),Obj.pol 3 (PS.a .i64 z25)])) (fun t1=>sw t1 (fun (z0,z1,z2,z3,z4,z5,z6,z7,z8,z9,z10,z11,z12,z13,z14,z15,z16,z17,z18,z19,z20,z21,z22,z23,z24,z25)=>K false (.s (.i .i64 z0)) ([.cells 71 [.arr .i8 81 z1,.arr .i8 16 z2,.one [.i .i8 z3],.one [.ptr 1 0 none 0,.sl 9 0 z4 true,.sl 10 0 z5 true,.mp 4,.sl 11 0 z6 true,.i .i64 z7,.i .i64 z8]],.cells 80 [.one [.ptr 6 0 none 0,.i .u64 z9,.sl 7 0 z10 true]],Obj.dead,Obj.dead,Obj.maps false [.i .u64] z11 12 none,Obj.dead,.cells 87 [.arr .i8 81 z12,.arr .i8 16 z13,.one [.i .i8 z14],.rows [.i .u64,.i .u64] 32 z15,.rows [.i .u64,.i .u64] 2 z16],.sli 109 false (.rows [.i .i64,.i .i64,.i .i64,.b,.i .i8,.i .i8] z17 z18),Obj.dead,.sli 43 false (.rows [.i .i64,.i .i64,.i .i64,.b] z19 z20),.sli 28 false (.rows kL0 z21 z22),.sli 4 false (Seg.barr z23 z24),Obj.pol 3 (PS.a .i64 z25)])) (fun (z0,z1,z2,z3,z4,z5,z6,z7,z8,z9,z10,z11,z12,z13,z14,z15,z16,z17,z18,z19,z20,z21,z22,z23,z24,z25)=>K false (.s (.i .i64 z0)) ([.cells 71 [.arr .i8 81 z1,.arr .i8 16 z2,.one [.i .i8 z3],.one [.ptr 1 0 none 0,.sl 9 0 z4 true,.sl 10 0 z5 true,.mp 4,.sl 11 0 z6 true,.i .i64 z7,.i .i64 z8]],.cells 80 [.one [.ptr 6 0 none 0,.i .u64 z9,.sl 12 0 z10 true]],Obj.dead,Obj.dead,Obj.maps false [.i .u64] z11 13 none,Obj.dead,.cells 87 [.arr .i8 81 z12,.arr .i8 16 z13,.one [.i .i8 z14],.rows [.i .u64,.i .u64] 32 z15,.rows [.i .u64,.i .u64] 2 z16],Obj.dead,Obj.dead,.sli 43 false (.rows [.i .i64,.i .i64,.i .i64,.b] z17 z18),.sli 28 false (.rows kL0 z19 z20),.sli 4 false (Seg.barr z21 z22),.sli 109 false (.rows [.i .i64,.i .i64,.i .i64,.b,.i .i8,.i .i8] z23 z24),Obj.pol 3 (PS.a .i64 z25)]))) else none
 | _,_=>o 13 vs objs K
def qOA (o:Orc):Orc:=qL 13 (qVf o) o
theorem qVh:OQ Tryz.prog qOA:=fun _ ho=>qN ho fun vs objs K r h=>by
 unfold qVf at h
 split at h
 ·obtain rfl:=(ql h).1
  replace h:=(ql h).2
  obtain⟨t,h1,h2⟩:=qE h
  refine qd mixed qhb (D:=qVg) (fn:=Tryz.f13) (Eq.trans (by kernel_rfl) h1) (by kernel_rfl) fun v objs' hd=>?_
  unfold qVg at hd;split at hd;(obtain rfl:=(ql hd).1;replace hd:=(ql hd).2;cases hd;exact h2);(obtain rfl:=(ql hd).1;replace hd:=(ql hd).2;cases hd;exact h2);(obtain rfl:=(ql hd).1;replace hd:=(ql hd).2;cases hd;exact h2);cases hd
 ·exact ho _ _ _ _ _ h
def qOC:Ex->List V->List Obj->Option (Nat×Nat×LL):=fun e vs objs=>match e,vs,objs with
 | .exit 0,[.s (.sl 0 0 y0 true),.s .bad,.s .bad,.s .bad,.s .nilp],[.sli 43 true (.rows [.i .i64,.i .i64,.i .i64,.b] y1 y2)]=>some (y0,y1,y2)
 | _,_,_=>none
def qOE:Ex->List V->List Obj->Option ((Nat×Int×Int×Nat×LL×LI×LI×Int×Nat×Nat×Nat×Int×Int×Int×Nat×Nat×LL×Nat×LL×LL×Nat×List Bool×LI×LI×Int×LL×LL×Nat×LL×LL)⊕(Nat×Nat×LL×LI×LI×Int×Nat×Nat×Nat×Int×Int×Int×Nat×Nat×LL×Nat×LL×LL×Nat×List Bool×LI×LI×Int×LL×LL×Nat×LL×LL)):=fun e vs objs=>match e,vs,objs with
 | .ret,[.s (.sl 0 0 y0 true),.s (.ptr 1 0 none 0),.s (.i .i64 y1),.s (.i .i64 y2),.s (.ptr 1 0 none 0)],[.sli 43 true (.rows [.i .i64,.i .i64,.i .i64,.b] y3 y4),.cells 71 [.arr .i8 81 y5,.arr .i8 16 y6,.one [.i .i8 y7],.one [.ptr 2 0 none 0,.sl 3 0 y8 true,.sl 4 0 y9 true,.mp 5,.sl 6 0 y10 true,.i .i64 y11,.i .i64 y12]],.cells 80 [.one [.ptr 7 0 none 0,.i .u64 y13,.sl 8 0 y14 true]],.sli 43 false (.rows [.i .i64,.i .i64,.i .i64,.b] y15 y16),.sli 28 false (.rows kk0 y17 y18),Obj.maps false [.i .u64] y19 9 none,.sli 4 false (Seg.barr y20 y21),.cells 87 [.arr .i8 81 y22,.arr .i8 16 y23,.one [.i .i8 y24],.rows [.i .u64,.i .u64] 32 y25,.rows [.i .u64,.i .u64] 2 y26],.sli 109 false (.rows [.i .i64,.i .i64,.i .i64,.b,.i .i8,.i .i8] y27 y28),Obj.pol 3 (PS.a .i64 y29)]=>bif decide (kk0=kL0) then some (.inl (y0,y1,y2,y3,y4,y5,y6,y7,y8,y9,y10,y11,y12,y13,y14,y15,y16,y17,y18,y19,y20,y21,y22,y23,y24,y25,y26,y27,y28,y29)) else none
 | .exit 0,[.s (.sl 0 0 y0 true),.s .bad,.s .bad,.s .bad,.s (.ptr 1 0 none 0)],[.sli 43 true (.rows [.i .i64,.i .i64,.i .i64,.b] y1 y2),.cells 71 [.arr .i8 81 y3,.arr .i8 16 y4,.one [.i .i8 y5],.one [.ptr 2 0 none 0,.sl 3 0 y6 true,.sl 4 0 y7 true,.mp 5,.sl 6 0 y8 true,.i .i64 y9,.i .i64 y10]],.cells 80 [.one [.ptr 7 0 none 0,.i .u64 y11,.sl 8 0 y12 true]],.sli 43 false (.rows [.i .i64,.i .i64,.i .i64,.b] y13 y14),.sli 28 false (.rows kk0 y15 y16),Obj.maps false [.i .u64] y17 9 none,.sli 4 false (Seg.barr y18 y19),.cells 87 [.arr .i8 81 y20,.arr .i8 16 y21,.one [.i .i8 y22],.rows [.i .u64,.i .u64] 32 y23,.rows [.i .u64,.i .u64] 2 y24],.sli 109 false (.rows [.i .i64,.i .i64,.i .i64,.b,.i .i8,.i .i8] y25 y26),Obj.pol 3 (PS.a .i64 y27)]=>bif decide (kk0=kL0) then some (.inr (y0,y1,y2,y3,y4,y5,y6,y7,y8,y9,y10,y11,y12,y13,y14,y15,y16,y17,y18,y19,y20,y21,y22,y23,y24,y25,y26,y27)) else none
 | _,_,_=>none
def qOG:HL:=fun vs objs K=>match vs,objs with
 | [.s (.sl 0 0 x0 true),.s .nilp,.s (.sl 0 0 x1 true),.s (.i .i64 x2),.s (.i .i64 x3)],[.sli 43 true (.rows [.i .i64,.i .i64,.i .i64,.b] x4 x5)]=>ob (qKg qC x0 x1 x2 x3 x4 x5) fun (z0,z1,z2)=>K (.exit 0) ([.s (.sl 0 0 z0 true),.s .bad,.s .bad,.s .bad,.s .nilp]) ([.sli 43 true (.rows [.i .i64,.i .i64,.i .i64,.b] z1 z2)])
 | [.s (.sl 0 0 x0 true),.s (.ptr 1 0 none 0),.s (.sl 0 0 x1 true),.s (.i .i64 x2),.s (.i .i64 x3)],[.sli 43 true (.rows [.i .i64,.i .i64,.i .i64,.b] x4 x5),.cells 71 [.arr .i8 81 x6,.arr .i8 16 x7,.one [.i .i8 x8],.one [.ptr 2 0 none 0,.sl 3 0 x9 true,.sl 4 0 x10 true,.mp 5,.sl 6 0 x11 true,.i .i64 x12,.i .i64 x13]],.cells 80 [.one [.ptr 7 0 none 0,.i .u64 x14,.sl 8 0 x15 true]],.sli 43 false (.rows [.i .i64,.i .i64,.i .i64,.b] x16 x17),.sli 28 false (.rows kk0 x18 x19),Obj.maps false [.i .u64] x20 9 none,.sli 4 false (Seg.barr x21 x22),.cells 87 [.arr .i8 81 x23,.arr .i8 16 x24,.one [.i .i8 x25],.rows [.i .u64,.i .u64] 32 x26,.rows [.i .u64,.i .u64] 2 x27],.sli 109 false (.rows [.i .i64,.i .i64,.i .i64,.b,.i .i8,.i .i8] x28 x29),Obj.pol 3 (PS.a .i64 x30)]=>bif decide (kk0=kL0) then ob (qKh qC x0 x1 x2 x3 x4 x5 x6 x7 x8 x9 x10 x11 x12 x13 x14 x15 x16 x17 x18 x19 x20 x21 x22 x23 x24 x25 x26 x27 x28 x29 x30) fun t0=>sw t0 (fun (z0,z1,z2,z3,z4,z5,z6,z7,z8,z9,z10,z11,z12,z13,z14,z15,z16,z17,z18,z19,z20,z21,z22,z23,z24,z25,z26,z27,z28,z29)=>K (.ret) ([.s (.sl 0 0 z0 true),.s (.ptr 1 0 none 0),.s (.i .i64 z1),.s (.i .i64 z2),.s (.ptr 1 0 none 0)]) ([.sli 43 true (.rows [.i .i64,.i .i64,.i .i64,.b] z3 z4),.cells 71 [.arr .i8 81 z5,.arr .i8 16 z6,.one [.i .i8 z7],.one [.ptr 2 0 none 0,.sl 3 0 z8 true,.sl 4 0 z9 true,.mp 5,.sl 6 0 z10 true,.i .i64 z11,.i .i64 z12]],.cells 80 [.one [.ptr 7 0 none 0,.i .u64 z13,.sl 8 0 z14 true]],.sli 43 false (.rows [.i .i64,.i .i64,.i .i64,.b] z15 z16),.sli 28 false (.rows kL0 z17 z18),Obj.maps false [.i .u64] z19 9 none,.sli 4 false (Seg.barr z20 z21),.cells 87 [.arr .i8 81 z22,.arr .i8 16 z23,.one [.i .i8 z24],.rows [.i .u64,.i .u64] 32 z25,.rows [.i .u64,.i .u64] 2 z26],.sli 109 false (.rows [.i .i64,.i .i64,.i .i64,.b,.i .i8,.i .i8] z27 z28),Obj.pol 3 (PS.a .i64 z29)])) (fun (z0,z1,z2,z3,z4,z5,z6,z7,z8,z9,z10,z11,z12,z13,z14,z15,z16,z17,z18,z19,z20,z21,z22,z23,z24,z25,z26,z27)=>K (.exit 0) ([.s (.sl 0 0 z0 true),.s .bad,.s .bad,.s .bad,.s (.ptr 1 0 none 0)]) ([.sli 43 true (.rows [.i .i64,.i .i64,.i .i64,.b] z1 z2),.cells 71 [.arr .i8 81 z3,.arr .i8 16 z4,.one [.i .i8 z5],.one [.ptr 2 0 none 0,.sl 3 0 z6 true,.sl 4 0 z7 true,.mp 5,.sl 6 0 z8 true,.i .i64 z9,.i .i64 z10]],.cells 80 [.one [.ptr 7 0 none 0,.i .u64 z11,.sl 8 0 z12 true]],.sli 43 false (.rows [.i .i64,.i .i64,.i .i64,.b] z13 z14),.sli 28 false (.rows kL0 z15 z16),Obj.maps false [.i .u64] z17 9 none,.sli 4 false (Seg.barr z18 z19),.cells 87 [.arr .i8 81 z20,.arr .i8 16 z21,.one [.i .i8 z22],.rows [.i .u64,.i .u64] 32 z23,.rows [.i .u64,.i .u64] 2 z24],.sli 109 false (.rows [.i .i64,.i .i64,.i .i64,.b,.i .i8,.i .i8] z25 z26),Obj.pol 3 (PS.a .i64 z27)])) else none
 | _,_=>none
def qhm:{R:Type}->Nat->List V->List Obj->(Ex->List V->List Obj->Option R)->Option R:=fun q vs objs K=>bif Nat.beq q 5 then qOG vs objs K else none
def qKf:Ctx:=mkC 39 ((qOA (qVk (qOB qK)))) [(5,[1,7,20,21,22],[1,4,5,6,7])] qhm
theorem qVt:CtxOK Tryz.prog qKf:=mkC_ok ((qVh _ (qhe _ (qVn _ qM))))
def qOD (f:Nat) (x0 x1:Nat) (x2 x3:Int) (x4:Nat) (x5:LL):Option (Nat×Nat×LL):=qh qKf 1 [1,7,20,21,22] [1,4,5,6,7] (qF Tryz.f19 5) f ([.s (.sl 0 0 x0 true),.s .nilp,.s (.sl 0 0 x1 true),.s (.i .i64 x2),.s (.i .i64 x3)]) ([.sli 43 true (.rows [.i .i64,.i .i64,.i .i64,.b] x4 x5)]) qOC
theorem qhk (f:Nat) (x0 x1:Nat) (x2 x3:Int) (x4:Nat) (x5:LL):qOD (f+1) x0 x1 x2 x3 x4 x5=qVw (qOD f) x0 x1 x2 x3 x4 x5:=by kernel_rfl
theorem qVv:∀ f,qOD f=qKg f
 | 0=>rfl
 | f+1=>by funext x0 x1 x2 x3 x4 x5;rw[qhk,qVv f];rfl
def qOF (f:Nat) (x0 x1:Nat) (x2 x3:Int) (x4:Nat) (x5:LL) (x6 x7:LI) (x8:Int) (x9 x10 x11:Nat) (x12 x13 x14:Int) (x15 x16:Nat) (x17:LL) (x18:Nat) (x19 x20:LL) (x21:Nat) (x22:List Bool) (x23 x24:LI) (x25:Int) (x26 x27:LL) (x28:Nat) (x29 x30:LL):Option ((Nat×Int×Int×Nat×LL×LI×LI×Int×Nat×Nat×Nat×Int×Int×Int×Nat×Nat×LL×Nat×LL×LL×Nat×List Bool×LI×LI×Int×LL×LL×Nat×LL×LL)⊕(Nat×Nat×LL×LI×LI×Int×Nat×Nat×Nat×Int×Int×Int×Nat×Nat×LL×Nat×LL×LL×Nat×List Bool×LI×LI×Int×LL×LL×Nat×LL×LL)):=qh qKf 1 [1,7,20,21,22] [1,4,5,6,7] (qF Tryz.f19 5) f ([.s (.sl 0 0 x0 true),.s (.ptr 1 0 none 0),.s (.sl 0 0 x1 true),.s (.i .i64 x2),.s (.i .i64 x3)]) ([.sli 43 true (.rows [.i .i64,.i .i64,.i .i64,.b] x4 x5),.cells 71 [.arr .i8 81 x6,.arr .i8 16 x7,.one [.i .i8 x8],.one [.ptr 2 0 none 0,.sl 3 0 x9 true,.sl 4 0 x10 true,.mp 5,.sl 6 0 x11 true,.i .i64 x12,.i .i64 x13]],.cells 80 [.one [.ptr 7 0 none 0,.i .u64 x14,.sl 8 0 x15 true]],.sli 43 false (.rows [.i .i64,.i .i64,.i .i64,.b] x16 x17),.sli 28 false (.rows kL0 x18 x19),Obj.maps false [.i .u64] x20 9 none,.sli 4 false (Seg.barr x21 x22),.cells 87 [.arr .i8 81 x23,.arr .i8 16 x24,.one [.i .i8 x25],.rows [.i .u64,.i .u64] 32 x26,.rows [.i .u64,.i .u64] 2 x27],.sli 109 false (.rows [.i .i64,.i .i64,.i .i64,.b,.i .i8,.i .i8] x28 x29),Obj.pol 3 (PS.a .i64 x30)]) qOE
theorem qhl (f:Nat) (x0 x1:Nat) (x2 x3:Int) (x4:Nat) (x5:LL) (x6 x7:LI) (x8:Int) (x9 x10 x11:Nat) (x12 x13 x14:Int) (x15 x16:Nat) (x17:LL) (x18:Nat) (x19 x20:LL) (x21:Nat) (x22:List Bool) (x23 x24:LI) (x25:Int) (x26 x27:LL) (x28:Nat) (x29 x30:LL):qOF (f+1) x0 x1 x2 x3 x4 x5 x6 x7 x8 x9 x10 x11 x12 x13 x14 x15 x16 x17 x18 x19 x20 x21 x22 x23 x24 x25 x26 x27 x28 x29 x30=qVy (qOF f) x0 x1 x2 x3 x4 x5 x6 x7 x8 x9 x10 x11 x12 x13 x14 x15 x16 x17 x18 x19 x20 x21 x22 x23 x24 x25 x26 x27 x28 x29 x30:=by kernel_rfl
theorem qVx:∀ f,qOF f=qKh f
 | 0=>rfl
 | f+1=>by funext x0 x1 x2 x3 x4 x5 x6 x7 x8 x9 x10 x11 x12 x13 x14 x15 x16 x17 x18 x19 x20 x21 x22 x23 x24 x25 x26 x27 x28 x29 x30;rw[qhl,qVx f];rfl
theorem qho:qe Tryz.prog qKf 1 (qF Tryz.f19 5):=
 qj mixed qVt (qP.of (l':=[]) (by kernel_rfl) trivial) (q:=5) (kin:=[1,7,20,21,22]) (kout:=[1,4,5,6,7]) (by kernel_rfl) (by kernel_rfl) fun vs objs K r h=>by
  replace h:qOG vs objs K=some r:=h
  unfold qOG at h
  split at h
  ·obtain⟨t,h1,h2⟩:=qE h
   rw[<- qVv] at h1
   refine⟨_,qOC,t,qC,h1,fun e vs' objs' hd=>?_⟩
   unfold qOC at hd;split at hd;(cases hd;exact h2);cases hd
  ·obtain rfl:=(ql h).1
   replace h:=(ql h).2
   obtain⟨t,h1,h2⟩:=qE h
   rw[<- qVx] at h1
   refine⟨_,qOE,t,qC,h1,fun e vs' objs' hd=>?_⟩
   unfold qOE at hd;split at hd;(obtain rfl:=(ql hd).1;replace hd:=(ql hd).2;cases hd;exact h2);(obtain rfl:=(ql hd).1;replace hd:=(ql hd).2;cases hd;exact h2);cases hd
  ·cases h
def qVu:V->List Obj->Option ((Int×Int)⊕(Int×Int×LI×LI×Int×Nat×Nat×Nat×Int×Int×Int×Nat×Nat×LL×Nat×LL×LL×Nat×List Bool×LI×LI×Int×LL×LL×Nat×LL×LL)):=fun v objs=>match v,objs with
 | .tup [W.s .nilp,W.s (.i .i64 y0),W.s (.i .i64 y1)],[]=>some (.inl (y0,y1))
 | .tup [W.s (.ptr 1 0 none 0),W.s (.i .i64 y0),W.s (.i .i64 y1)],[.cells 71 [.arr .i8 81 y2,.arr .i8 16 y3,.one [.i .i8 y4],.one [.ptr 2 0 none 0,.sl 3 0 y5 true,.sl 4 0 y6 true,.mp 5,.sl 6 0 y7 true,.i .i64 y8,.i .i64 y9]],.cells 80 [.one [.ptr 7 0 none 0,.i .u64 y10,.sl 8 0 y11 true]],.sli 43 false (.rows [.i .i64,.i .i64,.i .i64,.b] y12 y13),.sli 28 false (.rows kk0 y14 y15),Obj.maps false [.i .u64] y16 9 none,.sli 4 false (Seg.barr y17 y18),.cells 87 [.arr .i8 81 y19,.arr .i8 16 y20,.one [.i .i8 y21],.rows [.i .u64,.i .u64] 32 y22,.rows [.i .u64,.i .u64] 2 y23],.sli 109 false (.rows [.i .i64,.i .i64,.i .i64,.b,.i .i8,.i .i8] y24 y25),Obj.pol 3 (PS.a .i64 y26)]=>bif decide (kk0=kL0) then some (.inr (y0,y1,y2,y3,y4,y5,y6,y7,y8,y9,y10,y11,y12,y13,y14,y15,y16,y17,y18,y19,y20,y21,y22,y23,y24,y25,y26)) else none
 | _,_=>none
def qVs:HA:=fun o vs objs K=>match vs,List.map Obj.toRO objs with
 | [.agg [.arr .i8 81 x0,.arr .i8 16 x1,.one [.i .i8 x2]],.s (.sl 0 0 x3 true)],[.sli 43 true (.rows [.i .i64,.i .i64,.i .i64,.b] x4 x5)]=>ob (qVr x0 x1 x2 x3 x4 x5) fun t0=>sw t0 (fun (z0,z1)=>K true (.tup [W.s .nilp,W.s (.i .i64 z0),W.s (.i .i64 z1)]) ([])) (fun (z0,z1,z2,z3,z4,z5,z6,z7,z8,z9,z10,z11,z12,z13,z14,z15,z16,z17,z18,z19,z20,z21,z22,z23,z24,z25,z26)=>K true (.tup [W.s (.ptr 1 0 none 0),W.s (.i .i64 z0),W.s (.i .i64 z1)]) ([.cells 71 [.arr .i8 81 z2,.arr .i8 16 z3,.one [.i .i8 z4],.one [.ptr 2 0 none 0,.sl 3 0 z5 true,.sl 4 0 z6 true,.mp 5,.sl 6 0 z7 true,.i .i64 z8,.i .i64 z9]],.cells 80 [.one [.ptr 7 0 none 0,.i .u64 z10,.sl 8 0 z11 true]],.sli 43 false (.rows [.i .i64,.i .i64,.i .i64,.b] z12 z13),.sli 28 false (.rows kL0 z14 z15),Obj.maps false [.i .u64] z16 9 none,.sli 4 false (Seg.barr z17 z18),.cells 87 [.arr .i8 81 z19,.arr .i8 16 z20,.one [.i .i8 z21],.rows [.i .u64,.i .u64] 32 z22,.rows [.i .u64,.i .u64] 2 z23],.sli 109 false (.rows [.i .i64,.i .i64,.i .i64,.b,.i .i8,.i .i8] z24 z25),Obj.pol 3 (PS.a .i64 z26)]))
 | _,_=>o 19 vs objs K
def qVz (o:Orc):Orc:=qL 19 (qVs o) o
theorem qhn:OQ Tryz.prog qVz:=fun _ ho=>qN ho fun vs objs K r h=>by
 unfold qVs at h
 split at h
 ·have hq:List.map Obj.toRO objs=_:=(by rename_i hq;first | exact hq | assumption)
  obtain⟨t,h1,h2⟩:=qE h
  refine qAs mixed qVt (D:=qVu) (m:=1) (fn:=Tryz.f19) (by kernel_rfl) hq (by kernel_rfl) (by kernel_rfl) (qP.of (l':=[qF Tryz.f19 5]) (by kernel_rfl) ⟨qho,trivial⟩) (Eq.trans (by kernel_rfl) h1) fun v objs' hd=>?_
  unfold qVu at hd;split at hd;(cases hd;exact h2);(obtain rfl:=(ql hd).1;replace hd:=(ql hd).2;cases hd;exact h2);cases hd
 ·exact ho _ _ _ _ _ h
def qhp:Ctx:=mkC 26 (qK) [] qV
theorem qhq:CtxOK Tryz.prog qhp:=mkC_ok (qM)
def qV2:V->List Obj->Option (Int×LI×LI×Int×Nat×Nat×Nat×Int×Int×Int×Nat×Nat×LL×Nat×LL×LL×Nat×List Bool×LI×LI×Int×LL×LL×Nat×LL×LL):=fun v objs=>match v,objs with
 | .s (.i .i64 y0),[.cells 71 [.arr .i8 81 y1,.arr .i8 16 y2,.one [.i .i8 y3],.one [.ptr 1 0 none 0,.sl 2 0 y4 true,.sl 3 0 y5 true,.mp 4,.sl 5 0 y6 true,.i .i64 y7,.i .i64 y8]],.cells 80 [.one [.ptr 6 0 none 0,.i .u64 y9,.sl 7 0 y10 true]],.sli 43 false (.rows [.i .i64,.i .i64,.i .i64,.b] y11 y12),.sli 28 false (.rows kk0 y13 y14),Obj.maps false [.i .u64] y15 8 none,.sli 4 false (Seg.barr y16 y17),.cells 87 [.arr .i8 81 y18,.arr .i8 16 y19,.one [.i .i8 y20],.rows [.i .u64,.i .u64] 32 y21,.rows [.i .u64,.i .u64] 2 y22],.sli 109 false (.rows [.i .i64,.i .i64,.i .i64,.b,.i .i8,.i .i8] y23 y24),Obj.pol 3 (PS.a .i64 y25)]=>bif decide (kk0=kL0) then some (y0,y1,y2,y3,y4,y5,y6,y7,y8,y9,y10,y11,y12,y13,y14,y15,y16,y17,y18,y19,y20,y21,y22,y23,y24,y25) else none
 | _,_=>none
def qV1:HA:=fun o vs objs K=>match vs,objs with
 | [.s (.ptr 0 0 none 0)],[.cells 71 [.arr .i8 81 x0,.arr .i8 16 x1,.one [.i .i8 x2],.one [.ptr 1 0 none 0,.sl 2 0 x3 true,.sl 3 0 x4 true,.mp 4,.sl 5 0 x5 true,.i .i64 x6,.i .i64 x7]],.cells 80 [.one [.ptr 6 0 none 0,.i .u64 x8,.sl 7 0 x9 true]],.sli 43 false (.rows [.i .i64,.i .i64,.i .i64,.b] x10 x11),.sli 28 false (.rows kk0 x12 x13),Obj.maps false [.i .u64] x14 8 none,.sli 4 false (Seg.barr x15 x16),.cells 87 [.arr .i8 81 x17,.arr .i8 16 x18,.one [.i .i8 x19],.rows [.i .u64,.i .u64] 32 x20,.rows [.i .u64,.i .u64] 2 x21],.sli 109 false (.rows [.i .i64,.i .i64,.i .i64,.b,.i .i8,.i .i8] x22 x23),Obj.pol 3 (PS.a .i64 x24)]=>bif decide (kk0=kL0) then ob (qV0 x0 x1 x2 x3 x4 x5 x6 x7 x8 x9 x10 x11 x12 x13 x14 x15 x16 x17 x18 x19 x20 x21 x22 x23 x24) fun (z0,z1,z2,z3,z4,z5,z6,z7,z8,z9,z10,z11,z12,z13,z14,z15,z16,z17,z18,z19,z20,z21,z22,z23,z24,z25)=>K false (.s (.i .i64 z0)) ([.cells 71 [.arr .i8 81 z1,.arr .i8 16 z2,.one [.i .i8 z3],.one [.ptr 1 0 none 0,.sl 2 0 z4 true,.sl 3 0 z5 true,.mp 4,.sl 5 0 z6 true,.i .i64 z7,.i .i64 z8]],.cells 80 [.one [.ptr 6 0 none 0,.i .u64 z9,.sl 7 0 z10 true]],.sli 43 false (.rows [.i .i64,.i .i64,.i .i64,.b] z11 z12),.sli 28 false (.rows kL0 z13 z14),Obj.maps false [.i .u64] z15 8 none,.sli 4 false (Seg.barr z16 z17),.cells 87 [.arr .i8 81 z18,.arr .i8 16 z19,.one [.i .i8 z20],.rows [.i .u64,.i .u64] 32 z21,.rows [.i .u64,.i .u64] 2 z22],.sli 109 false (.rows [.i .i64,.i .i64,.i .i64,.b,.i .i8,.i .i8] z23 z24),Obj.pol 3 (PS.a .i64 z25)]) else none
 | _,_=>o 17 vs objs K
def qV3 (o:Orc):Orc:=qL 17 (qV1 o) o
theorem qhr:OQ Tryz.prog qV3:=fun _ ho=>qN ho fun vs objs K r h=>by
 unfold qV1 at h
 split at h
 ·obtain rfl:=(ql h).1
  replace h:=(ql h).2
  obtain⟨t,h1,h2⟩:=qE h
  refine qd mixed qhq (D:=qV2) (fn:=Tryz.f17) (Eq.trans (by kernel_rfl) h1) (by kernel_rfl) fun v objs' hd=>?_
  unfold qV2 at hd;split at hd;(obtain rfl:=(ql hd).1;replace hd:=(ql hd).2;cases hd;exact h2);cases hd
 ·exact ho _ _ _ _ _ h
def qhs:Ctx:=mkC 12 (qK) [] qV
theorem qht:CtxOK Tryz.prog qhs:=mkC_ok (qM)
def qV5:V->List Obj->Option (Int×Int×LI×LI×Int×Nat×Nat×Nat×Int×Int×Int×Nat×Nat×LL×Nat×LL×LL×Nat×List Bool×LI×LI×Int×LL×LL×Nat×LL×LL):=fun v objs=>match v,objs with
 | .tup [W.s (.i .i64 y0),W.s (.i .i64 y1)],[.cells 71 [.arr .i8 81 y2,.arr .i8 16 y3,.one [.i .i8 y4],.one [.ptr 1 0 none 0,.sl 2 0 y5 true,.sl 3 0 y6 true,.mp 4,.sl 5 0 y7 true,.i .i64 y8,.i .i64 y9]],.cells 80 [.one [.ptr 6 0 none 0,.i .u64 y10,.sl 7 0 y11 true]],.sli 43 false (.rows [.i .i64,.i .i64,.i .i64,.b] y12 y13),.sli 28 false (.rows kk0 y14 y15),Obj.maps false [.i .u64] y16 8 none,.sli 4 false (Seg.barr y17 y18),.cells 87 [.arr .i8 81 y19,.arr .i8 16 y20,.one [.i .i8 y21],.rows [.i .u64,.i .u64] 32 y22,.rows [.i .u64,.i .u64] 2 y23],.sli 109 false (.rows [.i .i64,.i .i64,.i .i64,.b,.i .i8,.i .i8] y24 y25),Obj.pol 3 (PS.a .i64 y26)]=>bif decide (kk0=kL0) then some (y0,y1,y2,y3,y4,y5,y6,y7,y8,y9,y10,y11,y12,y13,y14,y15,y16,y17,y18,y19,y20,y21,y22,y23,y24,y25,y26) else none
 | _,_=>none
def qV4:HA:=fun o vs objs K=>match vs,objs with
 | [.s (.ptr 0 0 none 0)],[.cells 71 [.arr .i8 81 x0,.arr .i8 16 x1,.one [.i .i8 x2],.one [.ptr 1 0 none 0,.sl 2 0 x3 true,.sl 3 0 x4 true,.mp 4,.sl 5 0 x5 true,.i .i64 x6,.i .i64 x7]],.cells 80 [.one [.ptr 6 0 none 0,.i .u64 x8,.sl 7 0 x9 true]],.sli 43 false (.rows [.i .i64,.i .i64,.i .i64,.b] x10 x11),.sli 28 false (.rows kk0 x12 x13),Obj.maps false [.i .u64] x14 8 none,.sli 4 false (Seg.barr x15 x16),.cells 87 [.arr .i8 81 x17,.arr .i8 16 x18,.one [.i .i8 x19],.rows [.i .u64,.i .u64] 32 x20,.rows [.i .u64,.i .u64] 2 x21],.sli 109 false (.rows [.i .i64,.i .i64,.i .i64,.b,.i .i8,.i .i8] x22 x23),Obj.pol 3 (PS.a .i64 x24)]=>bif decide (kk0=kL0) then ob (qE2 x0 x1 x2 x3 x4 x5 x6 x7 x8 x9 x10 x11 x12 x13 x14 x15 x16 x17 x18 x19 x20 x21 x22 x23 x24) fun (z0,z1,z2,z3,z4,z5,z6,z7,z8,z9,z10,z11,z12,z13,z14,z15,z16,z17,z18,z19,z20,z21,z22,z23,z24,z25,z26)=>K false (.tup [W.s (.i .i64 z0),W.s (.i .i64 z1)]) ([.cells 71 [.arr .i8 81 z2,.arr .i8 16 z3,.one [.i .i8 z4],.one [.ptr 1 0 none 0,.sl 2 0 z5 true,.sl 3 0 z6 true,.mp 4,.sl 5 0 z7 true,.i .i64 z8,.i .i64 z9]],.cells 80 [.one [.ptr 6 0 none 0,.i .u64 z10,.sl 7 0 z11 true]],.sli 43 false (.rows [.i .i64,.i .i64,.i .i64,.b] z12 z13),.sli 28 false (.rows kL0 z14 z15),Obj.maps false [.i .u64] z16 8 none,.sli 4 false (Seg.barr z17 z18),.cells 87 [.arr .i8 81 z19,.arr .i8 16 z20,.one [.i .i8 z21],.rows [.i .u64,.i .u64] 32 z22,.rows [.i .u64,.i .u64] 2 z23],.sli 109 false (.rows [.i .i64,.i .i64,.i .i64,.b,.i .i8,.i .i8] z24 z25),Obj.pol 3 (PS.a .i64 z26)]) else none
 | _,_=>o 14 vs objs K
def qOH (o:Orc):Orc:=qL 14 (qV4 o) o
theorem qV6:OQ Tryz.prog qOH:=fun _ ho=>qN ho fun vs objs K r h=>by
 unfold qV4 at h
 split at h
 ·obtain rfl:=(ql h).1
  replace h:=(ql h).2
  obtain⟨t,h1,h2⟩:=qE h
  refine qd mixed qht (D:=qV5) (fn:=Tryz.f14) (Eq.trans (by kernel_rfl) h1) (by kernel_rfl) fun v objs' hd=>?_
  unfold qV5 at hd;split at hd;(obtain rfl:=(ql hd).1;replace hd:=(ql hd).2;cases hd;exact h2);cases hd
 ·exact ho _ _ _ _ _ h
def qjT:Ctx:=mkC 46 ((qOH (qV3 (qVz (qUJ qK))))) [] qV
theorem qjU:CtxOK Tryz.prog qjT:=mkC_ok ((qV6 _ (qhr _ (qhn _ (qfM _ qM)))))
def qXW:V->List Obj->Option (Bool):=fun v objs=>match v,objs with
 | .s (.b y0),[]=>some (y0)
 | _,_=>none
def qXV:HA:=fun o vs objs K=>match vs,objs with
 | [],[]=>ob (qPH ) fun y0=>K false (.s (.b y0)) ([])
 | _,_=>o 8 vs objs K
def qXX (o:Orc):Orc:=qL 8 (qXV o) o
theorem qjV:OQ Tryz.prog qXX:=fun _ ho=>qN ho fun vs objs K r h=>by
 unfold qXV at h
 split at h
 ·obtain⟨t,h1,h2⟩:=qE h
  refine qd mixed qjU (D:=qXW) (fn:=Tryz.f8) (Eq.trans (by kernel_rfl) h1) (by kernel_rfl) fun v objs' hd=>?_
  unfold qXW at hd;split at hd;(cases hd;exact h2);cases hd
 ·exact ho _ _ _ _ _ h
def qmr:Ctx:=mkC 23 (qK) [] qV
theorem qms:CtxOK Tryz.prog qmr:=mkC_ok (qM)
def qZd:V->List Obj->Option (Int):=fun v objs=>match v,objs with
 | .s (.i .i64 y0),[]=>some (y0)
 | _,_=>none
def qZc:HA:=fun o vs objs K=>match vs,objs with
 | [.s (.i .i64 x0)],[]=>ob (qAb x0) fun y0=>K false (.s (.i .i64 y0)) ([])
 | _,_=>o 38 vs objs K
def qDK (o:Orc):Orc:=qL 38 (qZc o) o
theorem qDr:OQ Tryz.prog qDK:=fun _ ho=>qN ho fun vs objs K r h=>by
 unfold qZc at h
 split at h
 ·obtain⟨t,h1,h2⟩:=qE h
  refine qd mixed qms (D:=qZd) (fn:=Tryz.f38) (Eq.trans (by kernel_rfl) h1) (by kernel_rfl) fun v objs' hd=>?_
  unfold qZd at hd;split at hd;(cases hd;exact h2);cases hd
 ·exact ho _ _ _ _ _ h
def qQ6:Ex->List V->List Obj->Option (Int):=fun e vs objs=>match e,vs,objs with
 | .exit 0,[.s (.i .i64 y0)],[]=>some (y0)
 | _,_,_=>none
def qQ9:HL:=fun vs objs K=>match vs,objs with
 | [.s (.i .i64 x0),.s (.i .i64 x1),.s (.ptr 0 0 none 0),.s (.i .i64 x2),.s (.i .i64 x3)],[.cells 28 [.arr .i8 81 x4,.arr .i8 16 x5,.one [.i .i8 x6]]]=>ob (qCj qC x0 x1 x2 x3 x4 x5 x6) fun y0=>K (.exit 0) ([.s (.i .i64 y0)]) ([])
 | _,_=>none
def qnk:{R:Type}->Nat->List V->List Obj->(Ex->List V->List Obj->Option R)->Option R:=fun q vs objs K=>bif Nat.beq q 3 then qQ9 vs objs K else none
def qQ5:Ctx:=mkC 26 (qK) [(3,[1,2,3,7,8],[7])] qnk
theorem qaW:CtxOK Tryz.prog qQ5:=mkC_ok (qM)
def qQ7 (f:Nat) (x0 x1:Int) (x2 x3:Int) (x4 x5:LI) (x6:Int):Option (Int):=qh qQ5 0 [1,2,3,7,8] [7] (qF Tryz.f43 3) f ([.s (.i .i64 x0),.s (.i .i64 x1),.s (.ptr 0 0 none 0),.s (.i .i64 x2),.s (.i .i64 x3)]) ([.cells 28 [.arr .i8 81 x4,.arr .i8 16 x5,.one [.i .i8 x6]]]) qQ6
theorem qnj (f:Nat) (x0 x1:Int) (x2 x3:Int) (x4 x5:LI) (x6:Int):qQ7 (f+1) x0 x1 x2 x3 x4 x5 x6=qD0 (qQ7 f) x0 x1 x2 x3 x4 x5 x6:=by kernel_rfl
theorem qaY:∀ f,qQ7 f=qCj f
 | 0=>rfl
 | f+1=>by funext x0 x1 x2 x3 x4 x5 x6;rw[qnj,qaY f];rfl
theorem qnl:qe Tryz.prog qQ5 0 (qF Tryz.f43 3):=
 qj mixed qaW (qP.of (l':=[]) (by kernel_rfl) trivial) (q:=3) (kin:=[1,2,3,7,8]) (kout:=[7]) (by kernel_rfl) (by kernel_rfl) fun vs objs K r h=>by
  replace h:qQ9 vs objs K=some r:=h
  unfold qQ9 at h
  split at h
  ·obtain⟨t,h1,h2⟩:=qE h
   rw[<- qaY] at h1
   refine⟨_,qQ6,t,qC,h1,fun e vs' objs' hd=>?_⟩
   unfold qQ6 at hd;split at hd;(cases hd;exact h2);cases hd
  ·cases h
def qaX:V->List Obj->Option (Int):=fun v objs=>match v,objs with
 | .s (.i .i64 y0),[]=>some (y0)
 | _,_=>none
def qaV:HA:=fun o vs objs K=>match vs,objs with
 | [.agg [.arr .i8 81 x0,.arr .i8 16 x1,.one [.i .i8 x2]],.s (.i .i64 x3),.s (.i .i64 x4)],[]=>ob (qEP x0 x1 x2 x3 x4) fun y0=>K false (.s (.i .i64 y0)) ([])
 | _,_=>o 43 vs objs K
def qLn (o:Orc):Orc:=qL 43 (qaV o) o
theorem qQ8:OQ Tryz.prog qLn:=fun _ ho=>qN ho fun vs objs K r h=>by
 unfold qaV at h
 split at h
 ·obtain⟨t,h1,h2⟩:=qE h
  refine qAQ mixed qaW (D:=qaX) (fn:=Tryz.f43) (Eq.trans (by kernel_rfl) h1) (by kernel_rfl) (m:=0) rfl (qP.of (l':=[qF Tryz.f43 3]) (by kernel_rfl) ⟨qnl,trivial⟩) fun v objs' hd=>?_
  unfold qaX at hd;split at hd;(cases hd;exact h2);cases hd
 ·exact ho _ _ _ _ _ h
def qRG:Ex->List V->List Obj->Option (Int):=fun e vs objs=>match e,vs,objs with
 | .exit 0,[.s (.i .i64 y0)],[]=>some (y0)
 | _,_,_=>none
def qRI:HL:=fun vs objs K=>match vs,objs with
 | [.s (.i .i64 x0),.s (.ptr 0 0 none 0),.s (.i .i64 x1),.s (.i .i64 x2)],[.cells 28 [.arr .i8 81 x3,.arr .i8 16 x4,.one [.i .i8 x5]]]=>ob (qCl qC x0 x1 x2 x3 x4 x5) fun y0=>K (.exit 0) ([.s (.i .i64 y0)]) ([])
 | _,_=>none
def qnq:{R:Type}->Nat->List V->List Obj->(Ex->List V->List Obj->Option R)->Option R:=fun q vs objs K=>bif Nat.beq q 3 then qRI vs objs K else none
def qRF:Ctx:=mkC 18 ((qLn qK)) [(3,[1,2,5,6],[5])] qnq
theorem qae:CtxOK Tryz.prog qRF:=mkC_ok ((qQ8 _ qM))
def qRH (f:Nat) (x0 x1 x2:Int) (x3 x4:LI) (x5:Int):Option (Int):=qh qRF 0 [1,2,5,6] [5] (qF Tryz.f39 3) f ([.s (.i .i64 x0),.s (.ptr 0 0 none 0),.s (.i .i64 x1),.s (.i .i64 x2)]) ([.cells 28 [.arr .i8 81 x3,.arr .i8 16 x4,.one [.i .i8 x5]]]) qRG
theorem qnp (f:Nat) (x0 x1 x2:Int) (x3 x4:LI) (x5:Int):qRH (f+1) x0 x1 x2 x3 x4 x5=qD1 (qRH f) x0 x1 x2 x3 x4 x5:=by kernel_rfl
theorem qag:∀ f,qRH f=qCl f
 | 0=>rfl
 | f+1=>by funext x0 x1 x2 x3 x4 x5;rw[qnp,qag f];rfl
theorem qns:qe Tryz.prog qRF 0 (qF Tryz.f39 3):=
 qj mixed qae (qP.of (l':=[]) (by kernel_rfl) trivial) (q:=3) (kin:=[1,2,5,6]) (kout:=[5]) (by kernel_rfl) (by kernel_rfl) fun vs objs K r h=>by
  replace h:qRI vs objs K=some r:=h
  unfold qRI at h
  split at h
  ·obtain⟨t,h1,h2⟩:=qE h
   rw[<- qag] at h1
   refine⟨_,qRG,t,qC,h1,fun e vs' objs' hd=>?_⟩
   unfold qRG at hd;split at hd;(cases hd;exact h2);cases hd
  ·cases h
def qaf:V->List Obj->Option (Int):=fun v objs=>match v,objs with
 | .s (.i .i64 y0),[]=>some (y0)
 | _,_=>none
def qad:HA:=fun o vs objs K=>match vs,objs with
 | [.agg [.arr .i8 81 x0,.arr .i8 16 x1,.one [.i .i8 x2]],.s (.i .i64 x3)],[]=>ob (qCk x0 x1 x2 x3) fun y0=>K false (.s (.i .i64 y0)) ([])
 | _,_=>o 39 vs objs K
def qah (o:Orc):Orc:=qL 39 (qad o) o
theorem qnr:OQ Tryz.prog qah:=fun _ ho=>qN ho fun vs objs K r h=>by
 unfold qad at h
 split at h
 ·obtain⟨t,h1,h2⟩:=qE h
  refine qAQ mixed qae (D:=qaf) (fn:=Tryz.f39) (Eq.trans (by kernel_rfl) h1) (by kernel_rfl) (m:=0) rfl (qP.of (l':=[qF Tryz.f39 3]) (by kernel_rfl) ⟨qns,trivial⟩) fun v objs' hd=>?_
  unfold qaf at hd;split at hd;(cases hd;exact h2);cases hd
 ·exact ho _ _ _ _ _ h
def qmt:Ctx:=mkC 18 (qK) [] qV
theorem qmu:CtxOK Tryz.prog qmt:=mkC_ok (qM)
def qZf:V->List Obj->Option (Int):=fun v objs=>match v,objs with
 | .s (.i .i64 y0),[]=>some (y0)
 | _,_=>none
def qZe:HA:=fun o vs objs K=>match vs,objs with
 | [.s (.i .i64 x0)],[]=>ob (qJO x0) fun y0=>K false (.s (.i .i64 y0)) ([])
 | _,_=>o 58 vs objs K
def qQV (o:Orc):Orc:=qL 58 (qZe o) o
theorem qZg:OQ Tryz.prog qQV:=fun _ ho=>qN ho fun vs objs K r h=>by
 unfold qZe at h
 split at h
 ·obtain⟨t,h1,h2⟩:=qE h
  refine qd mixed qmu (D:=qZf) (fn:=Tryz.f58) (Eq.trans (by kernel_rfl) h1) (by kernel_rfl) fun v objs' hd=>?_
  unfold qZf at hd;split at hd;(cases hd;exact h2);cases hd
 ·exact ho _ _ _ _ _ h
def qQ2:Ex->List V->List Obj->Option (Int×Int×LI×LI×Int):=fun e vs objs=>match e,vs,objs with
 | .exit 0,[.s (.i .i64 y0),.s (.ptr 0 0 none 0),.s (.i .i64 y1)],[.cells 28 [.arr .i8 81 y2,.arr .i8 16 y3,.one [.i .i8 y4]]]=>some (y0,y1,y2,y3,y4)
 | _,_,_=>none
def qQ4:HL:=fun vs objs K=>match vs,objs with
 | [.s (.i .i64 x0),.s (.ptr 0 0 none 0),.s (.i .i64 x1),.s (.i .i64 x2)],[.cells 28 [.arr .i8 81 x3,.arr .i8 16 x4,.one [.i .i8 x5]]]=>ob (qFS qC x0 x1 x2 x3 x4 x5) fun (z0,z1,z2,z3,z4)=>K (.exit 0) ([.s (.i .i64 z0),.s (.ptr 0 0 none 0),.s (.i .i64 z1)]) ([.cells 28 [.arr .i8 81 z2,.arr .i8 16 z3,.one [.i .i8 z4]]])
 | _,_=>none
def qng:{R:Type}->Nat->List V->List Obj->(Ex->List V->List Obj->Option R)->Option R:=fun q vs objs K=>bif Nat.beq q 3 then qQ4 vs objs K else none
def qQ1:Ctx:=mkC 37 ((qQV (qDK qK))) [(3,[1,2,5,6],[1,2,5])] qng
theorem qaR:CtxOK Tryz.prog qQ1:=mkC_ok ((qZg _ (qDr _ qM)))
def qQ3 (f:Nat) (x0 x1 x2:Int) (x3 x4:LI) (x5:Int):Option (Int×Int×LI×LI×Int):=qh qQ1 0 [1,2,5,6] [1,2,5] (qF Tryz.f40 3) f ([.s (.i .i64 x0),.s (.ptr 0 0 none 0),.s (.i .i64 x1),.s (.i .i64 x2)]) ([.cells 28 [.arr .i8 81 x3,.arr .i8 16 x4,.one [.i .i8 x5]]]) qQ2
theorem qnf (f:Nat) (x0 x1 x2:Int) (x3 x4:LI) (x5:Int):qQ3 (f+1) x0 x1 x2 x3 x4 x5=qHv (qQ3 f) x0 x1 x2 x3 x4 x5:=by kernel_rfl
theorem qaT:∀ f,qQ3 f=qFS f
 | 0=>rfl
 | f+1=>by funext x0 x1 x2 x3 x4 x5;rw[qnf,qaT f];rfl
theorem qni:qe Tryz.prog qQ1 0 (qF Tryz.f40 3):=
 qj mixed qaR (qP.of (l':=[]) (by kernel_rfl) trivial) (q:=3) (kin:=[1,2,5,6]) (kout:=[1,2,5]) (by kernel_rfl) (by kernel_rfl) fun vs objs K r h=>by
  replace h:qQ4 vs objs K=some r:=h
  unfold qQ4 at h
  split at h
  ·obtain⟨t,h1,h2⟩:=qE h
   rw[<- qaT] at h1
   refine⟨_,qQ2,t,qC,h1,fun e vs' objs' hd=>?_⟩
   unfold qQ2 at hd;split at hd;(cases hd;exact h2);cases hd
  ·cases h
def qaS:V->List Obj->Option (Int):=fun v objs=>match v,objs with
 | .s (.i .i64 y0),[]=>some (y0)
 | _,_=>none
def qaQ:HA:=fun o vs objs K=>match vs,objs with
 | [.agg [.arr .i8 81 x0,.arr .i8 16 x1,.one [.i .i8 x2]],.s (.i .i64 x3)],[]=>ob (qLm x0 x1 x2 x3) fun y0=>K false (.s (.i .i64 y0)) ([])
 | _,_=>o 40 vs objs K
def qaU (o:Orc):Orc:=qL 40 (qaQ o) o
theorem qnh:OQ Tryz.prog qaU:=fun _ ho=>qN ho fun vs objs K r h=>by
 unfold qaQ at h
 split at h
 ·obtain⟨t,h1,h2⟩:=qE h
  refine qAQ mixed qaR (D:=qaS) (fn:=Tryz.f40) (Eq.trans (by kernel_rfl) h1) (by kernel_rfl) (m:=0) rfl (qP.of (l':=[qF Tryz.f40 3]) (by kernel_rfl) ⟨qni,trivial⟩) fun v objs' hd=>?_
  unfold qaS at hd;split at hd;(cases hd;exact h2);cases hd
 ·exact ho _ _ _ _ _ h
def qmx:Ctx:=mkC 15 (qK) [] qV
theorem qmy:CtxOK Tryz.prog qmx:=mkC_ok (qM)
def qZk:V->List Obj->Option (Int):=fun v objs=>match v,objs with
 | .s (.i .i64 y0),[]=>some (y0)
 | _,_=>none
def qZj:HA:=fun o vs objs K=>match vs,objs with
 | [.s (.i .i64 x0)],[]=>ob (qLg x0) fun y0=>K false (.s (.i .i64 y0)) ([])
 | _,_=>o 41 vs objs K
def qZl (o:Orc):Orc:=qL 41 (qZj o) o
theorem qmz:OQ Tryz.prog qZl:=fun _ ho=>qN ho fun vs objs K r h=>by
 unfold qZj at h
 split at h
 ·obtain⟨t,h1,h2⟩:=qE h
  refine qd mixed qmy (D:=qZk) (fn:=Tryz.f41) (Eq.trans (by kernel_rfl) h1) (by kernel_rfl) fun v objs' hd=>?_
  unfold qZk at hd;split at hd;(cases hd;exact h2);cases hd
 ·exact ho _ _ _ _ _ h
def qmv:Ctx:=mkC 8 ((qDK qK)) [] qV
theorem qmw:CtxOK Tryz.prog qmv:=mkC_ok ((qDr _ qM))
def qZi:V->List Obj->Option (Int):=fun v objs=>match v,objs with
 | .s (.i .i64 y0),[]=>some (y0)
 | _,_=>none
def qZh:HA:=fun o vs objs K=>match vs,objs with
 | [.s (.i .i64 x0)],[]=>ob (qBU x0) fun y0=>K false (.s (.i .i64 y0)) ([])
 | _,_=>o 46 vs objs K
def qFO (o:Orc):Orc:=qL 46 (qZh o) o
theorem qGN:OQ Tryz.prog qFO:=fun _ ho=>qN ho fun vs objs K r h=>by
 unfold qZh at h
 split at h
 ·obtain⟨t,h1,h2⟩:=qE h
  refine qd mixed qmw (D:=qZi) (fn:=Tryz.f46) (Eq.trans (by kernel_rfl) h1) (by kernel_rfl) fun v objs' hd=>?_
  unfold qZi at hd;split at hd;(cases hd;exact h2);cases hd
 ·exact ho _ _ _ _ _ h
def qm4:Ctx:=mkC 26 (qK) [] qV
theorem qm5:CtxOK Tryz.prog qm4:=mkC_ok (qM)
def qZr:V->List Obj->Option (Int):=fun v objs=>match v,objs with
 | .s (.i .i64 y0),[]=>some (y0)
 | _,_=>none
def qZq:HA:=fun o vs objs K=>match vs,objs with
 | [.s (.i .i64 x0),.s (.i .i64 x1)],[]=>ob (qDt x0 x1) fun y0=>K false (.s (.i .i64 y0)) ([])
 | _,_=>o 72 vs objs K
def qQY (o:Orc):Orc:=qL 72 (qZq o) o
theorem qZs:OQ Tryz.prog qQY:=fun _ ho=>qN ho fun vs objs K r h=>by
 unfold qZq at h
 split at h
 ·obtain⟨t,h1,h2⟩:=qE h
  refine qd mixed qm5 (D:=qZr) (fn:=Tryz.f72) (Eq.trans (by kernel_rfl) h1) (by kernel_rfl) fun v objs' hd=>?_
  unfold qZr at hd;split at hd;(cases hd;exact h2);cases hd
 ·exact ho _ _ _ _ _ h
def qm2:Ctx:=mkC 35 ((qDK (qQY (qFO qK)))) [] qV
theorem qm3:CtxOK Tryz.prog qm2:=mkC_ok ((qDr _ (qZs _ (qGN _ qM))))
def qZp:V->List Obj->Option (Bool):=fun v objs=>match v,objs with
 | .s (.b y0),[]=>some (y0)
 | _,_=>none
def qZo:HA:=fun o vs objs K=>match vs,objs with
 | [.s (.i .i64 x0),.s (.i .i64 x1)],[]=>ob (qDs x0 x1) fun y0=>K false (.s (.b y0)) ([])
 | _,_=>o 42 vs objs K
def qLi (o:Orc):Orc:=qL 42 (qZo o) o
theorem qQX:OQ Tryz.prog qLi:=fun _ ho=>qN ho fun vs objs K r h=>by
 unfold qZo at h
 split at h
 ·obtain⟨t,h1,h2⟩:=qE h
  refine qd mixed qm3 (D:=qZp) (fn:=Tryz.f42) (Eq.trans (by kernel_rfl) h1) (by kernel_rfl) fun v objs' hd=>?_
  unfold qZp at hd;split at hd;(cases hd;exact h2);cases hd
 ·exact ho _ _ _ _ _ h
end
end Go.Kk.KkGT
