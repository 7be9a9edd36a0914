/- Printed by a tool of this project (KkGen): the program's functions come to the plain ones. -/
import Derived.Test.YtpppdecfohkkfaaGreatDoorKkLPb
namespace Go.Kk.KkLP
noncomputable section
open Go.Proofs Go.Kk.Pl
set_option maxRecDepth 100000
set_option maxHeartbeats 4000000
def qO0:Ex->List V->List Obj->Option (LI×LI×Int×LL×LL×Int×Int×Int×Int):=fun e vs objs=>match e,vs,objs with
 | .exit 0,[.s (.ptr 1 0 none 0),.s (.ptr 2 0 none 0)],[.rcells 72 [.arr .i8 81 y0,.arr .i8 16 y1,.one [.i .i8 y2],.rows [.i .u64,.i .u64] 32 y3,.rows [.i .u64,.i .u64] 2 y4],.cells 68 [.one [.i .u64 y5,.i .u64 y6]],.cells 68 [.one [.i .u64 y7,.i .u64 y8]]]=>some (y0,y1,y2,y3,y4,y5,y6,y7,y8)
 | _,_,_=>none
def qO2:HL:=fun vs objs K=>match vs,objs with
 | [.s (.ptr 0 0 none 0),.s (.i .i64 x0),.s (.i .i64 x1),.s (.ptr 1 0 none 0),.s (.i .i8 x2),.s (.ptr 2 0 none 0),.s (.sl 3 0 x3 true),.s (.i .i64 x4),.s (.i .i64 x5)],[.rcells 72 [.arr .i8 81 x6,.arr .i8 16 x7,.one [.i .i8 x8],.rows [.i .u64,.i .u64] 32 x9,.rows [.i .u64,.i .u64] 2 x10],.cells 68 [.one [.i .u64 x11,.i .u64 x12]],.cells 68 [.one [.i .u64 x13,.i .u64 x14]],.sli 3 false (.arr .i64 x15 x16)]=>ob (qDg qB x0 x1 x2 x3 x4 x5 x6 x7 x8 x9 x10 x11 x12 x13 x14 x15 x16) fun z=>K (.exit 0) ([.s (.ptr 1 0 none 0),.s (.ptr 2 0 none 0)]) ([.rcells 72 [.arr .i8 81 (z.1),.arr .i8 16 (z.2.1),.one [.i .i8 (z.2.2.1)],.rows [.i .u64,.i .u64] 32 (z.2.2.2.1),.rows [.i .u64,.i .u64] 2 (z.2.2.2.2.1)],.cells 68 [.one [.i .u64 (z.2.2.2.2.2.1),.i .u64 (z.2.2.2.2.2.2.1)]],.cells 68 [.one [.i .u64 (z.2.2.2.2.2.2.2.1),.i .u64 (z.2.2.2.2.2.2.2.2)]]])
 | _,_=>none
def qkU:{R:Type}->Nat->List V->List Obj->(Ex->List V->List Obj->Option R)->Option R:=fun q vs objs K=>bif Nat.beq q 6 then qO2 vs objs K else none
def qKz:Ctx:=mkC 53 ((qEj (qIU (qFp (qSV (qMb (qF8 (qMs (qJy (qds (qHC (qDo qI)))))))))))) [(6,[0,1,2,6,7,8,24,25,26],[6,8])] qkU
theorem qWj:CtxOK Tryz.prog qKz:=mkC_ok ((qFt _ (qJw _ (qGj _ (qdl _ (qSR _ (qHA _ (qSr _ (qMk _ (qsV _ (qIz _ (qEY _ qK))))))))))))
def qO1 (f:Nat) (x0 x1 x2:Int) (x3:Nat) (x4 x5:Int) (x6 x7:LI) (x8:Int) (x9 x10:LL) (x11 x12:Int) (x13 x14:Int) (x15:Nat) (x16:LI):Option (LI×LI×Int×LL×LL×Int×Int×Int×Int):=qf qKz 1 [0,1,2,6,7,8,24,25,26] [6,8] (qD Tryz.f134 6) f ([.s (.ptr 0 0 none 0),.s (.i .i64 x0),.s (.i .i64 x1),.s (.ptr 1 0 none 0),.s (.i .i8 x2),.s (.ptr 2 0 none 0),.s (.sl 3 0 x3 true),.s (.i .i64 x4),.s (.i .i64 x5)]) ([.rcells 72 [.arr .i8 81 x6,.arr .i8 16 x7,.one [.i .i8 x8],.rows [.i .u64,.i .u64] 32 x9,.rows [.i .u64,.i .u64] 2 x10],.cells 68 [.one [.i .u64 x11,.i .u64 x12]],.cells 68 [.one [.i .u64 x13,.i .u64 x14]],.sli 3 false (.arr .i64 x15 x16)]) qO0
theorem qkT (f:Nat) (x0 x1 x2:Int) (x3:Nat) (x4 x5:Int) (x6 x7:LI) (x8:Int) (x9 x10:LL) (x11 x12:Int) (x13 x14:Int) (x15:Nat) (x16:LI):qO1 (f+1) x0 x1 x2 x3 x4 x5 x6 x7 x8 x9 x10 x11 x12 x13 x14 x15 x16=qHX (qO1 f) x0 x1 x2 x3 x4 x5 x6 x7 x8 x9 x10 x11 x12 x13 x14 x15 x16:=by kernel_rfl
theorem qWl:∀ f,qO1 f=qDg f
 | 0=>rfl
 | f+1=>by funext x0 x1 x2 x3 x4 x5 x6 x7 x8 x9 x10 x11 x12 x13 x14 x15 x16;rw[qkT,qWl f];rfl
theorem qkW:qZ Tryz.prog qKz 1 (qD Tryz.f134 6):=
 qg mixed qWj (qM.of (l':=[]) (by kernel_rfl) trivial) (q:=6) (kin:=[0,1,2,6,7,8,24,25,26]) (kout:=[6,8]) (by kernel_rfl) (by kernel_rfl) fun vs objs K r h=>by
  replace h:qO2 vs objs K=some r:=h
  unfold qO2 at h
  split at h
  ·skip
   obtain⟨t,h1,h2⟩:=qE h
   rw[<- qWl] at h1
   refine⟨_,qO0,t,qB,h1,fun e vs' objs' hd=>?_⟩
   unfold qO0 at hd;split at hd;(cases hd;exact h2);cases hd
  ·cases h
def qWk:V->List Obj->Option (Int×Int):=fun v objs=>match v,objs with
 | .agg [.one [.i .u64 y0,.i .u64 y1]],[]=>some (y0,y1)
 | _,_=>none
theorem qkS (x0 x1:Int) (x2 x3:LI) (x4:Int) (x5 x6:LL):fnE qKz Tryz.f134 ([.s (.ptr 0 0 none 0),.s (.i .i64 x0),.s (.i .i64 x1)]) ([.rcells 72 [.arr .i8 81 x2,.arr .i8 16 x3,.one [.i .i8 x4],.rows [.i .u64,.i .u64] 32 x5,.rows [.i .u64,.i .u64] 2 x6]]) (qAM 1 qWk)=qJL x0 x1 x2 x3 x4 x5 x6:=by kernel_rfl
def qWi:HA:=fun o vs objs K=>match vs,List.map Obj.toRO objs with
 | [.s (.ptr 0 0 none 0),.s (.i .i64 x0),.s (.i .i64 x1)],[.rcells 72 [.arr .i8 81 x2,.arr .i8 16 x3,.one [.i .i8 x4],.rows [.i .u64,.i .u64] 32 x5,.rows [.i .u64,.i .u64] 2 x6]]=>ob (qJL x0 x1 x2 x3 x4 x5 x6) fun z=>K true (.agg [.one [.i .u64 (z.1),.i .u64 (z.2)]]) ([])
 | _,_=>o 134 vs objs K
def qWm (o:Orc):Orc:=qJ 134 (qWi o) o
theorem qkV:OQ Tryz.prog qWm:=fun _ ho=>qL ho fun vs objs K r h=>by
 unfold qWi at h
 split at h
 ·skip
  have hq:List.map Obj.toRO objs=_:=(by rename_i hq;first | exact hq | assumption)
  obtain⟨t,h1,h2⟩:=qE h
  refine qAj mixed qWj (m:=1) (fn:=Tryz.f134) (b:=(Tryz.f134).body.getD .skip) (by kernel_rfl) (by kernel_rfl) (by kernel_rfl) hq (by kernel_rfl) (by kernel_rfl) (qM.of (l':=[qD Tryz.f134 6]) (by kernel_rfl) ⟨qkW,trivial⟩) ((qkS _ _ _ _ _ _ _).trans h1) fun v objs' hd=>?_
  unfold qWk at hd;split at hd;(cases hd;exact h2);cases hd
 ·exact ho _ _ _ _ _ h
def qOw:Ex->List V->List Obj->Option (Nat×Int×Int×LI×LI×Int×LL×LL×Int×Int×Nat×LL):=fun e vs objs=>match e,vs,objs with
 | .exit 2,[.s (.ptr 0 0 none 0),.s (.ptr 1 0 none 0),.s (.sl 2 0 y0 true),.s (.i .i64 y1),.s (.i .i64 y2)],[.rcells 72 [.arr .i8 81 y3,.arr .i8 16 y4,.one [.i .i8 y5],.rows [.i .u64,.i .u64] 32 y6,.rows [.i .u64,.i .u64] 2 y7],.cells 68 [.one [.i .u64 y8,.i .u64 y9]],.sli 37 false (.rows [.i .i64,.i .i64,.i .i64,.b] y10 y11)]=>some (y0,y1,y2,y3,y4,y5,y6,y7,y8,y9,y10,y11)
 | _,_,_=>none
def qOu:Ex->List V->List Obj->Option (Nat×LI×LI×Int×LL×LL×Nat×LL):=fun e vs objs=>match e,vs,objs with
 | .exit 0,[.s (.sl 1 0 y0 true)],[.rcells 72 [.arr .i8 81 y1,.arr .i8 16 y2,.one [.i .i8 y3],.rows [.i .u64,.i .u64] 32 y4,.rows [.i .u64,.i .u64] 2 y5],.sli 37 false (.rows [.i .i64,.i .i64,.i .i64,.b] y6 y7)]=>some (y0,y1,y2,y3,y4,y5,y6,y7)
 | _,_,_=>none
def qOz:HL:=fun vs objs K=>match vs,objs with
 | [.s (.ptr 0 0 none 0),.s (.ptr 1 0 none 0),.s (.sl 2 0 x0 true),.s (.i .i64 x1),.s (.i .i64 x2),.s (.sl 3 0 x3 true),.s (.i .i64 x4),.s (.i .i64 x5)],[.rcells 72 [.arr .i8 81 x6,.arr .i8 16 x7,.one [.i .i8 x8],.rows [.i .u64,.i .u64] 32 x9,.rows [.i .u64,.i .u64] 2 x10],.cells 68 [.one [.i .u64 x11,.i .u64 x12]],.sli 37 false (.rows [.i .i64,.i .i64,.i .i64,.b] x13 x14),.sli 3 false (.arr .i64 x15 x16)]=>ob (qFE qB x0 x1 x2 x3 x4 x5 x6 x7 x8 x9 x10 x11 x12 x13 x14 x15 x16) fun z=>K (.exit 2) ([.s (.ptr 0 0 none 0),.s (.ptr 1 0 none 0),.s (.sl 2 0 (z.1) true),.s (.i .i64 (z.2.1)),.s (.i .i64 (z.2.2.1))]) ([.rcells 72 [.arr .i8 81 (z.2.2.2.1),.arr .i8 16 (z.2.2.2.2.1),.one [.i .i8 (z.2.2.2.2.2.1)],.rows [.i .u64,.i .u64] 32 (z.2.2.2.2.2.2.1),.rows [.i .u64,.i .u64] 2 (z.2.2.2.2.2.2.2.1)],.cells 68 [.one [.i .u64 (z.2.2.2.2.2.2.2.2.1),.i .u64 (z.2.2.2.2.2.2.2.2.2.1)]],.sli 37 false (.rows [.i .i64,.i .i64,.i .i64,.b] (z.2.2.2.2.2.2.2.2.2.2.1) (z.2.2.2.2.2.2.2.2.2.2.2))])
 | _,_=>none
def qOy:HL:=fun vs objs K=>match vs,objs with
 | [.s (.ptr 0 0 none 0),.s (.ptr 1 0 none 0),.s (.sl 2 0 x0 true),.s (.i .i64 x1),.s (.i .i64 x2)],[.rcells 72 [.arr .i8 81 x3,.arr .i8 16 x4,.one [.i .i8 x5],.rows [.i .u64,.i .u64] 32 x6,.rows [.i .u64,.i .u64] 2 x7],.cells 68 [.one [.i .u64 x8,.i .u64 x9]],.sli 37 false (.rows [.i .i64,.i .i64,.i .i64,.b] x10 x11)]=>ob (qFD qB x0 x1 x2 x3 x4 x5 x6 x7 x8 x9 x10 x11) fun z=>K (.exit 0) ([.s (.sl 1 0 (z.1) true)]) ([.rcells 72 [.arr .i8 81 (z.2.1),.arr .i8 16 (z.2.2.1),.one [.i .i8 (z.2.2.2.1)],.rows [.i .u64,.i .u64] 32 (z.2.2.2.2.1),.rows [.i .u64,.i .u64] 2 (z.2.2.2.2.2.1)],.sli 37 false (.rows [.i .i64,.i .i64,.i .i64,.b] (z.2.2.2.2.2.2.1) (z.2.2.2.2.2.2.2))])
 | _,_=>none
def qkO:{R:Type}->Nat->List V->List Obj->(Ex->List V->List Obj->Option R)->Option R:=fun q vs objs K=>bif Nat.beq q 8 then qOz vs objs K else bif Nat.beq q 4 then qOy vs objs K else none
def qHU:Ctx:=mkC 45 ((qJy (qFp (qWm (qKV qI))))) [(4,[0,3,5,6,7],[5]),(8,[0,3,5,6,7,31,32,33],[0,3,5,6,7])] qkO
theorem qOt:CtxOK Tryz.prog qHU:=mkC_ok ((qMk _ (qGj _ (qkV _ (qNt _ qK)))))
def qOx (f:Nat) (x0:Nat) (x1 x2:Int) (x3:Nat) (x4 x5:Int) (x6 x7:LI) (x8:Int) (x9 x10:LL) (x11 x12:Int) (x13:Nat) (x14:LL) (x15:Nat) (x16:LI):Option (Nat×Int×Int×LI×LI×Int×LL×LL×Int×Int×Nat×LL):=qf qHU 1 [0,3,5,6,7,31,32,33] [0,3,5,6,7] (qD Tryz.f99 8) f ([.s (.ptr 0 0 none 0),.s (.ptr 1 0 none 0),.s (.sl 2 0 x0 true),.s (.i .i64 x1),.s (.i .i64 x2),.s (.sl 3 0 x3 true),.s (.i .i64 x4),.s (.i .i64 x5)]) ([.rcells 72 [.arr .i8 81 x6,.arr .i8 16 x7,.one [.i .i8 x8],.rows [.i .u64,.i .u64] 32 x9,.rows [.i .u64,.i .u64] 2 x10],.cells 68 [.one [.i .u64 x11,.i .u64 x12]],.sli 37 false (.rows [.i .i64,.i .i64,.i .i64,.b] x13 x14),.sli 3 false (.arr .i64 x15 x16)]) qOw
theorem qkN (f:Nat) (x0:Nat) (x1 x2:Int) (x3:Nat) (x4 x5:Int) (x6 x7:LI) (x8:Int) (x9 x10:LL) (x11 x12:Int) (x13:Nat) (x14:LL) (x15:Nat) (x16:LI):qOx (f+1) x0 x1 x2 x3 x4 x5 x6 x7 x8 x9 x10 x11 x12 x13 x14 x15 x16=qHW (qOx f) x0 x1 x2 x3 x4 x5 x6 x7 x8 x9 x10 x11 x12 x13 x14 x15 x16:=by kernel_rfl
theorem qWg:∀ f,qOx f=qFE f
 | 0=>rfl
 | f+1=>by funext x0 x1 x2 x3 x4 x5 x6 x7 x8 x9 x10 x11 x12 x13 x14 x15 x16;rw[qkN,qWg f];rfl
def qOv (f:Nat) (x0:Nat) (x1 x2:Int) (x3 x4:LI) (x5:Int) (x6 x7:LL) (x8 x9:Int) (x10:Nat) (x11:LL):Option (Nat×LI×LI×Int×LL×LL×Nat×LL):=qf qHU 1 [0,3,5,6,7] [5] (qD Tryz.f99 4) f ([.s (.ptr 0 0 none 0),.s (.ptr 1 0 none 0),.s (.sl 2 0 x0 true),.s (.i .i64 x1),.s (.i .i64 x2)]) ([.rcells 72 [.arr .i8 81 x3,.arr .i8 16 x4,.one [.i .i8 x5],.rows [.i .u64,.i .u64] 32 x6,.rows [.i .u64,.i .u64] 2 x7],.cells 68 [.one [.i .u64 x8,.i .u64 x9]],.sli 37 false (.rows [.i .i64,.i .i64,.i .i64,.b] x10 x11)]) qOu
theorem qkM (f:Nat) (x0:Nat) (x1 x2:Int) (x3 x4:LI) (x5:Int) (x6 x7:LL) (x8 x9:Int) (x10:Nat) (x11:LL):qOv (f+1) x0 x1 x2 x3 x4 x5 x6 x7 x8 x9 x10 x11=qHV (qOv f) x0 x1 x2 x3 x4 x5 x6 x7 x8 x9 x10 x11:=by kernel_rfl
theorem qWf:∀ f,qOv f=qFD f
 | 0=>rfl
 | f+1=>by funext x0 x1 x2 x3 x4 x5 x6 x7 x8 x9 x10 x11;rw[qkM,qWf f];rfl
theorem qkR:qZ Tryz.prog qHU 1 (qD Tryz.f99 8):=
 qg mixed qOt (qM.of (l':=[]) (by kernel_rfl) trivial) (q:=8) (kin:=[0,3,5,6,7,31,32,33]) (kout:=[0,3,5,6,7]) (by kernel_rfl) (by kernel_rfl) fun vs objs K r h=>by
  replace h:qOz vs objs K=some r:=h
  unfold qOz at h
  split at h
  ·skip
   obtain⟨t,h1,h2⟩:=qE h
   rw[<- qWg] at h1
   refine⟨_,qOw,t,qB,h1,fun e vs' objs' hd=>?_⟩
   unfold qOw at hd;split at hd;(cases hd;exact h2);cases hd
  ·cases h
theorem qkQ:qZ Tryz.prog qHU 1 (qD Tryz.f99 4):=
 qg mixed qOt (qM.of (l':=[qD Tryz.f99 8]) (by kernel_rfl) ⟨qkR,trivial⟩) (q:=4) (kin:=[0,3,5,6,7]) (kout:=[5]) (by kernel_rfl) (by kernel_rfl) fun vs objs K r h=>by
  replace h:qOy vs objs K=some r:=h
  unfold qOy at h
  split at h
  ·skip
   obtain⟨t,h1,h2⟩:=qE h
   rw[<- qWf] at h1
   refine⟨_,qOu,t,qB,h1,fun e vs' objs' hd=>?_⟩
   unfold qOu at hd;split at hd;(cases hd;exact h2);cases hd
  ·cases h
def qWe:V->List Obj->Option (Nat×Nat×LL):=fun v objs=>match v,objs with
 | .s (.sl 1 0 y0 true),[.sli 37 false (.rows [.i .i64,.i .i64,.i .i64,.b] y1 y2)]=>some (y0,y1,y2)
 | _,_=>none
theorem qkL (x0 x1:Int) (x2 x3:LI) (x4:Int) (x5 x6:LL):fnE qHU Tryz.f99 ([.s (.ptr 0 0 none 0),.agg [.one [.i .u64 x0,.i .u64 x1]]]) ([.rcells 72 [.arr .i8 81 x2,.arr .i8 16 x3,.one [.i .i8 x4],.rows [.i .u64,.i .u64] 32 x5,.rows [.i .u64,.i .u64] 2 x6]]) (qAM 1 qWe)=qJK x0 x1 x2 x3 x4 x5 x6:=by kernel_rfl
def qWd:HA:=fun o vs objs K=>match vs,List.map Obj.toRO objs with
 | [.s (.ptr 0 0 none 0),.agg [.one [.i .u64 x0,.i .u64 x1]]],[.rcells 72 [.arr .i8 81 x2,.arr .i8 16 x3,.one [.i .i8 x4],.rows [.i .u64,.i .u64] 32 x5,.rows [.i .u64,.i .u64] 2 x6]]=>ob (qJK x0 x1 x2 x3 x4 x5 x6) fun z=>K true (.s (.sl 1 0 (z.1) true)) ([.sli 37 false (.rows [.i .i64,.i .i64,.i .i64,.b] (z.2.1) (z.2.2))])
 | _,_=>o 99 vs objs K
def qWh (o:Orc):Orc:=qJ 99 (qWd o) o
theorem qkP:OQ Tryz.prog qWh:=fun _ ho=>qL ho fun vs objs K r h=>by
 unfold qWd at h
 split at h
 ·skip
  have hq:List.map Obj.toRO objs=_:=(by rename_i hq;first | exact hq | assumption)
  obtain⟨t,h1,h2⟩:=qE h
  refine qAj mixed qOt (m:=1) (fn:=Tryz.f99) (b:=(Tryz.f99).body.getD .skip) (by kernel_rfl) (by kernel_rfl) (by kernel_rfl) hq (by kernel_rfl) (by kernel_rfl) (qM.of (l':=[qD Tryz.f99 4]) (by kernel_rfl) ⟨qkQ,trivial⟩) ((qkL _ _ _ _ _ _ _).trans h1) fun v objs' hd=>?_
  unfold qWe at hd;split at hd;(cases hd;exact h2);cases hd
 ·exact ho _ _ _ _ _ h
def qUW:Ctx:=mkC 7 (qI) [] qU
theorem qhg:CtxOK Tryz.prog qUW:=mkC_ok (qK)
def qUX:V->List Obj->Option (LI×LI×Int×LL×LL):=fun v objs=>match v,objs with
 | .s (.ptr 1 0 none 0),[.cells 72 [.arr .i8 81 y0,.arr .i8 16 y1,.one [.i .i8 y2],.rows [.i .u64,.i .u64] 32 y3,.rows [.i .u64,.i .u64] 2 y4]]=>some (y0,y1,y2,y3,y4)
 | _,_=>none
theorem qhf (x0 x1:LI) (x2:Int) (x3 x4:LL):fnE qUW Tryz.f135 ([.s (.ptr 0 0 none 0)]) ([.rcells 72 [.arr .i8 81 x0,.arr .i8 16 x1,.one [.i .i8 x2],.rows [.i .u64,.i .u64] 32 x3,.rows [.i .u64,.i .u64] 2 x4]]) (qAM 1 qUX)=qKU x0 x1 x2 x3 x4:=by kernel_rfl
def qUV:HA:=fun o vs objs K=>match vs,List.map Obj.toRO objs with
 | [.s (.ptr 0 0 none 0)],[.rcells 72 [.arr .i8 81 x0,.arr .i8 16 x1,.one [.i .i8 x2],.rows [.i .u64,.i .u64] 32 x3,.rows [.i .u64,.i .u64] 2 x4]]=>ob (qKU x0 x1 x2 x3 x4) fun z=>K true (.s (.ptr 1 0 none 0)) ([.cells 72 [.arr .i8 81 (z.1),.arr .i8 16 (z.2.1),.one [.i .i8 (z.2.2.1)],.rows [.i .u64,.i .u64] 32 (z.2.2.2.1),.rows [.i .u64,.i .u64] 2 (z.2.2.2.2)]])
 | _,_=>o 135 vs objs K
def qUY (o:Orc):Orc:=qJ 135 (qUV o) o
theorem qhh:OQ Tryz.prog qUY:=fun _ ho=>qL ho fun vs objs K r h=>by
 unfold qUV at h
 split at h
 ·skip
  have hq:List.map Obj.toRO objs=_:=(by rename_i hq;first | exact hq | assumption)
  obtain⟨t,h1,h2⟩:=qE h
  refine qAj mixed qhg (m:=1) (fn:=Tryz.f135) (b:=(Tryz.f135).body.getD .skip) (by kernel_rfl) (by kernel_rfl) (by kernel_rfl) hq (by kernel_rfl) (by kernel_rfl) (qM.of (l':=[]) (by kernel_rfl) trivial) ((qhf _ _ _ _ _).trans h1) fun v objs' hd=>?_
  unfold qUX at hd;split at hd;(cases hd;exact h2);cases hd
 ·exact ho _ _ _ _ _ h
def qPj:Ex->List V->List Obj->Option ((Bool×LI×LI×Int×LL×LL)⊕(LI×LI×Int×LL×LL)):=fun e vs objs=>match e,vs,objs with
 | .ret,[.s (.b y0)],[.rcells 72 [.arr .i8 81 y1,.arr .i8 16 y2,.one [.i .i8 y3],.rows [.i .u64,.i .u64] 32 y4,.rows [.i .u64,.i .u64] 2 y5]]=>some (.inl (y0,y1,y2,y3,y4,y5))
 | .exit 0,[.s .bad],[.rcells 72 [.arr .i8 81 y0,.arr .i8 16 y1,.one [.i .i8 y2],.rows [.i .u64,.i .u64] 32 y3,.rows [.i .u64,.i .u64] 2 y4]]=>some (.inr (y0,y1,y2,y3,y4))
 | _,_,_=>none
def qPl:HL:=fun vs objs K=>match vs,objs with
 | [.s (.ptr 1 0 none 0),.s (.sl 2 0 x0 true),.s (.i .i64 x1),.s (.i .i64 x2)],[.rcells 72 [.arr .i8 81 x3,.arr .i8 16 x4,.one [.i .i8 x5],.rows [.i .u64,.i .u64] 32 x6,.rows [.i .u64,.i .u64] 2 x7],.cells 130 [.one [.ptr 3 0 none 0,.i .i64 x8,.i .i64 x9,.i .u64 x10,.i .u64 x11,.mp 4,.b x12]],.sli 37 false (.rows [.i .i64,.i .i64,.i .i64,.b] x13 x14),.cells 72 [.arr .i8 81 x15,.arr .i8 16 x16,.one [.i .i8 x17],.rows [.i .u64,.i .u64] 32 x18,.rows [.i .u64,.i .u64] 2 x19],.map false true [.i .i64] [.i .u64,.i .u64] x20]=>ob (qFP qB x0 x1 x2 x3 x4 x5 x6 x7 x8 x9 x10 x11 x12 x13 x14 x15 x16 x17 x18 x19 x20) fun t0=>sw t0 (fun z=>K (.ret) ([.s (.b (z.1))]) ([.rcells 72 [.arr .i8 81 (z.2.1),.arr .i8 16 (z.2.2.1),.one [.i .i8 (z.2.2.2.1)],.rows [.i .u64,.i .u64] 32 (z.2.2.2.2.1),.rows [.i .u64,.i .u64] 2 (z.2.2.2.2.2)]])) (fun z=>K (.exit 0) ([.s .bad]) ([.rcells 72 [.arr .i8 81 (z.1),.arr .i8 16 (z.2.1),.one [.i .i8 (z.2.2.1)],.rows [.i .u64,.i .u64] 32 (z.2.2.2.1),.rows [.i .u64,.i .u64] 2 (z.2.2.2.2)]]))
 | _,_=>none
def qlu:{R:Type}->Nat->List V->List Obj->(Ex->List V->List Obj->Option R)->Option R:=fun q vs objs K=>bif Nat.beq q 11 then qPl vs objs K else none
def qLJ:Ctx:=mkC 74 ((qPn (qOq (qJv (qPm (qGn (qKN (qKZ (qUY (qF5 (qDo qI))))))))))) [(11,[7,64,65,66],[4])] qlu
theorem qXz:CtxOK Tryz.prog qLJ:=mkC_ok ((qYA _ (qWc _ (qMZ _ (qX6 _ (qIV _ (qNM _ (qN0 _ (qhh _ (qG7 _ (qEY _ qK)))))))))))
def qPk (f:Nat) (x0:Nat) (x1 x2:Int) (x3 x4:LI) (x5:Int) (x6 x7:LL) (x8 x9:Int) (x10 x11:Int) (x12:Bool) (x13:Nat) (x14:LL) (x15 x16:LI) (x17:Int) (x18 x19:LL) (x20:List (LI×LI)):Option ((Bool×LI×LI×Int×LL×LL)⊕(LI×LI×Int×LL×LL)):=qf qLJ 1 [7,64,65,66] [4] (qD Tryz.f100 11) f ([.s (.ptr 1 0 none 0),.s (.sl 2 0 x0 true),.s (.i .i64 x1),.s (.i .i64 x2)]) ([.rcells 72 [.arr .i8 81 x3,.arr .i8 16 x4,.one [.i .i8 x5],.rows [.i .u64,.i .u64] 32 x6,.rows [.i .u64,.i .u64] 2 x7],.cells 130 [.one [.ptr 3 0 none 0,.i .i64 x8,.i .i64 x9,.i .u64 x10,.i .u64 x11,.mp 4,.b x12]],.sli 37 false (.rows [.i .i64,.i .i64,.i .i64,.b] x13 x14),.cells 72 [.arr .i8 81 x15,.arr .i8 16 x16,.one [.i .i8 x17],.rows [.i .u64,.i .u64] 32 x18,.rows [.i .u64,.i .u64] 2 x19],.map false true [.i .i64] [.i .u64,.i .u64] x20]) qPj
theorem qlt (f:Nat) (x0:Nat) (x1 x2:Int) (x3 x4:LI) (x5:Int) (x6 x7:LL) (x8 x9:Int) (x10 x11:Int) (x12:Bool) (x13:Nat) (x14:LL) (x15 x16:LI) (x17:Int) (x18 x19:LL) (x20:List (LI×LI)):qPk (f+1) x0 x1 x2 x3 x4 x5 x6 x7 x8 x9 x10 x11 x12 x13 x14 x15 x16 x17 x18 x19 x20=qHm (qPk f) x0 x1 x2 x3 x4 x5 x6 x7 x8 x9 x10 x11 x12 x13 x14 x15 x16 x17 x18 x19 x20:=by kernel_rfl
theorem qX1:∀ f,qPk f=qFP f
 | 0=>rfl
 | f+1=>by funext x0 x1 x2 x3 x4 x5 x6 x7 x8 x9 x10 x11 x12 x13 x14 x15 x16 x17 x18 x19 x20;rw[qlt,qX1 f];rfl
theorem qlw:qZ Tryz.prog qLJ 1 (qD Tryz.f100 11):=
 qg mixed qXz (qM.of (l':=[]) (by kernel_rfl) trivial) (q:=11) (kin:=[7,64,65,66]) (kout:=[4]) (by kernel_rfl) (by kernel_rfl) fun vs objs K r h=>by
  replace h:qPl vs objs K=some r:=h
  unfold qPl at h
  split at h
  ·skip
   obtain⟨t,h1,h2⟩:=qE h
   rw[<- qX1] at h1
   refine⟨_,qPj,t,qB,h1,fun e vs' objs' hd=>?_⟩
   unfold qPj at hd
   split at hd
   ·skip
    cases hd
    exact h2
   ·skip
    cases hd
    exact h2
   ·cases hd
  ·cases h
def qX0:V->List Obj->Option (Bool):=fun v objs=>match v,objs with
 | .s (.b y0),[]=>some (y0)
 | _,_=>none
theorem qls (x0:Int) (x1 x2:LI) (x3:Int) (x4 x5:LL):fnE qLJ Tryz.f100 ([.s (.ptr 0 0 none 0),.s (.i .i64 x0)]) ([.rcells 72 [.arr .i8 81 x1,.arr .i8 16 x2,.one [.i .i8 x3],.rows [.i .u64,.i .u64] 32 x4,.rows [.i .u64,.i .u64] 2 x5]]) (qAM 1 qX0)=qJR x0 x1 x2 x3 x4 x5:=by kernel_rfl
def qXy:HA:=fun o vs objs K=>match vs,List.map Obj.toRO objs with
 | [.s (.ptr 0 0 none 0),.s (.i .i64 x0)],[.rcells 72 [.arr .i8 81 x1,.arr .i8 16 x2,.one [.i .i8 x3],.rows [.i .u64,.i .u64] 32 x4,.rows [.i .u64,.i .u64] 2 x5]]=>ob (qJR x0 x1 x2 x3 x4 x5) fun y0=>K true (.s (.b y0)) ([])
 | _,_=>o 100 vs objs K
def qX2 (o:Orc):Orc:=qJ 100 (qXy o) o
theorem qlv:OQ Tryz.prog qX2:=fun _ ho=>qL ho fun vs objs K r h=>by
 unfold qXy at h
 split at h
 ·skip
  have hq:List.map Obj.toRO objs=_:=(by rename_i hq;first | exact hq | assumption)
  obtain⟨t,h1,h2⟩:=qE h
  refine qAj mixed qXz (m:=1) (fn:=Tryz.f100) (b:=(Tryz.f100).body.getD .skip) (by kernel_rfl) (by kernel_rfl) (by kernel_rfl) hq (by kernel_rfl) (by kernel_rfl) (qM.of (l':=[qD Tryz.f100 11]) (by kernel_rfl) ⟨qlw,trivial⟩) ((qls _ _ _ _ _ _).trans h1) fun v objs' hd=>?_
  unfold qX0 at hd;split at hd;(cases hd;exact h2);cases hd
 ·exact ho _ _ _ _ _ h
def qPc:Ex->List V->List Obj->Option (Nat×LI×LI×Int×LL×LL×Int×Int×Int×Int×Bool×Nat×LL×List (LI×LI)):=fun e vs objs=>match e,vs,objs with
 | .exit 0,[.s (.ptr 0 0 none 0),.s (.ptr 1 0 none 0),.s (.sl 2 0 y0 true)],[.cells 72 [.arr .i8 81 y1,.arr .i8 16 y2,.one [.i .i8 y3],.rows [.i .u64,.i .u64] 32 y4,.rows [.i .u64,.i .u64] 2 y5],.cells 130 [.one [.ptr 0 0 none 0,.i .i64 y6,.i .i64 y7,.i .u64 y8,.i .u64 y9,.mp 3,.b y10]],.sli 37 false (.rows [.i .i64,.i .i64,.i .i64,.b] y11 y12),.map false true [.i .i64] [.i .u64,.i .u64] y13]=>some (y0,y1,y2,y3,y4,y5,y6,y7,y8,y9,y10,y11,y12,y13)
 | _,_,_=>none
def qPa:Ex->List V->List Obj->Option (Nat×LI×LI×Int×LL×LL×Nat×LL):=fun e vs objs=>match e,vs,objs with
 | .exit 2,[.s (.sl 1 0 y0 true)],[.cells 72 [.arr .i8 81 y1,.arr .i8 16 y2,.one [.i .i8 y3],.rows [.i .u64,.i .u64] 32 y4,.rows [.i .u64,.i .u64] 2 y5],.sli 37 false (.rows [.i .i64,.i .i64,.i .i64,.b] y6 y7)]=>some (y0,y1,y2,y3,y4,y5,y6,y7)
 | _,_,_=>none
def qPf:HL:=fun vs objs K=>match vs,objs with
 | [.s (.ptr 0 0 none 0),.s (.ptr 1 0 none 0),.s (.sl 2 0 x0 true),.s (.sl 3 0 x1 true),.s (.i .i64 x2),.s (.i .i64 x3)],[.cells 72 [.arr .i8 81 x4,.arr .i8 16 x5,.one [.i .i8 x6],.rows [.i .u64,.i .u64] 32 x7,.rows [.i .u64,.i .u64] 2 x8],.cells 130 [.one [.ptr 0 0 none 0,.i .i64 x9,.i .i64 x10,.i .u64 x11,.i .u64 x12,.mp 4,.b x13]],.sli 37 false (.rows [.i .i64,.i .i64,.i .i64,.b] x14 x15),.sli 37 false (.rows [.i .i64,.i .i64,.i .i64,.b] x16 x17),.map false true [.i .i64] [.i .u64,.i .u64] x18]=>ob (qFN qB x0 x1 x2 x3 x4 x5 x6 x7 x8 x9 x10 x11 x12 x13 x14 x15 x16 x17 x18) fun z=>K (.exit 0) ([.s (.ptr 0 0 none 0),.s (.ptr 1 0 none 0),.s (.sl 2 0 (z.1) true)]) ([.cells 72 [.arr .i8 81 (z.2.1),.arr .i8 16 (z.2.2.1),.one [.i .i8 (z.2.2.2.1)],.rows [.i .u64,.i .u64] 32 (z.2.2.2.2.1),.rows [.i .u64,.i .u64] 2 (z.2.2.2.2.2.1)],.cells 130 [.one [.ptr 0 0 none 0,.i .i64 (z.2.2.2.2.2.2.1),.i .i64 (z.2.2.2.2.2.2.2.1),.i .u64 (z.2.2.2.2.2.2.2.2.1),.i .u64 (z.2.2.2.2.2.2.2.2.2.1),.mp 3,.b (z.2.2.2.2.2.2.2.2.2.2.1)]],.sli 37 false (.rows [.i .i64,.i .i64,.i .i64,.b] (z.2.2.2.2.2.2.2.2.2.2.2.1) (z.2.2.2.2.2.2.2.2.2.2.2.2.1)),.map false true [.i .i64] [.i .u64,.i .u64] (z.2.2.2.2.2.2.2.2.2.2.2.2.2)])
 | _,_=>none
def qPe:HL:=fun vs objs K=>match vs,objs with
 | [.s (.ptr 0 0 none 0),.s (.sl 1 0 x0 true),.s (.sl 2 0 x1 true),.s (.i .i64 x2),.s (.i .i64 x3)],[.cells 72 [.arr .i8 81 x4,.arr .i8 16 x5,.one [.i .i8 x6],.rows [.i .u64,.i .u64] 32 x7,.rows [.i .u64,.i .u64] 2 x8],.sli 37 false (.rows [.i .i64,.i .i64,.i .i64,.b] x9 x10),.sli 37 false (.rows [.i .i64,.i .i64,.i .i64,.b] x11 x12)]=>ob (qES qB x0 x1 x2 x3 x4 x5 x6 x7 x8 x9 x10 x11 x12) fun z=>K (.exit 2) ([.s (.sl 1 0 (z.1) true)]) ([.cells 72 [.arr .i8 81 (z.2.1),.arr .i8 16 (z.2.2.1),.one [.i .i8 (z.2.2.2.1)],.rows [.i .u64,.i .u64] 32 (z.2.2.2.2.1),.rows [.i .u64,.i .u64] 2 (z.2.2.2.2.2.1)],.sli 37 false (.rows [.i .i64,.i .i64,.i .i64,.b] (z.2.2.2.2.2.2.1) (z.2.2.2.2.2.2.2))])
 | _,_=>none
def qlj:{R:Type}->Nat->List V->List Obj->(Ex->List V->List Obj->Option R)->Option R:=fun q vs objs K=>bif Nat.beq q 4 then qPf vs objs K else bif Nat.beq q 10 then qPe vs objs K else none
def qHh:Ctx:=mkC 51 ((qX2 (qWh (qPn (qOq (qJv (qPm qI))))))) [(4,[0,3,4,13,14,15],[0,3,4]),(10,[0,4,30,31,32],[4])] qlj
theorem qPZ:CtxOK Tryz.prog qHh:=mkC_ok ((qlv _ (qkP _ (qYA _ (qWc _ (qMZ _ (qX6 _ qK)))))))
def qPd (f:Nat) (x0 x1:Nat) (x2 x3:Int) (x4 x5:LI) (x6:Int) (x7 x8:LL) (x9 x10:Int) (x11 x12:Int) (x13:Bool) (x14:Nat) (x15:LL) (x16:Nat) (x17:LL) (x18:List (LI×LI)):Option (Nat×LI×LI×Int×LL×LL×Int×Int×Int×Int×Bool×Nat×LL×List (LI×LI)):=qf qHh 1 [0,3,4,13,14,15] [0,3,4] (qD Tryz.f54 4) f ([.s (.ptr 0 0 none 0),.s (.ptr 1 0 none 0),.s (.sl 2 0 x0 true),.s (.sl 3 0 x1 true),.s (.i .i64 x2),.s (.i .i64 x3)]) ([.cells 72 [.arr .i8 81 x4,.arr .i8 16 x5,.one [.i .i8 x6],.rows [.i .u64,.i .u64] 32 x7,.rows [.i .u64,.i .u64] 2 x8],.cells 130 [.one [.ptr 0 0 none 0,.i .i64 x9,.i .i64 x10,.i .u64 x11,.i .u64 x12,.mp 4,.b x13]],.sli 37 false (.rows [.i .i64,.i .i64,.i .i64,.b] x14 x15),.sli 37 false (.rows [.i .i64,.i .i64,.i .i64,.b] x16 x17),.map false true [.i .i64] [.i .u64,.i .u64] x18]) qPc
theorem qli (f:Nat) (x0 x1:Nat) (x2 x3:Int) (x4 x5:LI) (x6:Int) (x7 x8:LL) (x9 x10:Int) (x11 x12:Int) (x13:Bool) (x14:Nat) (x15:LL) (x16:Nat) (x17:LL) (x18:List (LI×LI)):qPd (f+1) x0 x1 x2 x3 x4 x5 x6 x7 x8 x9 x10 x11 x12 x13 x14 x15 x16 x17 x18=qHj (qPd f) x0 x1 x2 x3 x4 x5 x6 x7 x8 x9 x10 x11 x12 x13 x14 x15 x16 x17 x18:=by kernel_rfl
theorem qXr:∀ f,qPd f=qFN f
 | 0=>rfl
 | f+1=>by funext x0 x1 x2 x3 x4 x5 x6 x7 x8 x9 x10 x11 x12 x13 x14 x15 x16 x17 x18;rw[qli,qXr f];rfl
def qPb (f:Nat) (x0 x1:Nat) (x2 x3:Int) (x4 x5:LI) (x6:Int) (x7 x8:LL) (x9:Nat) (x10:LL) (x11:Nat) (x12:LL):Option (Nat×LI×LI×Int×LL×LL×Nat×LL):=qf qHh 1 [0,4,30,31,32] [4] (qD Tryz.f54 10) f ([.s (.ptr 0 0 none 0),.s (.sl 1 0 x0 true),.s (.sl 2 0 x1 true),.s (.i .i64 x2),.s (.i .i64 x3)]) ([.cells 72 [.arr .i8 81 x4,.arr .i8 16 x5,.one [.i .i8 x6],.rows [.i .u64,.i .u64] 32 x7,.rows [.i .u64,.i .u64] 2 x8],.sli 37 false (.rows [.i .i64,.i .i64,.i .i64,.b] x9 x10),.sli 37 false (.rows [.i .i64,.i .i64,.i .i64,.b] x11 x12)]) qPa
theorem qlh (f:Nat) (x0 x1:Nat) (x2 x3:Int) (x4 x5:LI) (x6:Int) (x7 x8:LL) (x9:Nat) (x10:LL) (x11:Nat) (x12:LL):qPb (f+1) x0 x1 x2 x3 x4 x5 x6 x7 x8 x9 x10 x11 x12=qHi (qPb f) x0 x1 x2 x3 x4 x5 x6 x7 x8 x9 x10 x11 x12:=by kernel_rfl
theorem qXq:∀ f,qPb f=qES f
 | 0=>rfl
 | f+1=>by funext x0 x1 x2 x3 x4 x5 x6 x7 x8 x9 x10 x11 x12;rw[qlh,qXq f];rfl
theorem qlm:qZ Tryz.prog qHh 1 (qD Tryz.f54 4):=
 qg mixed qPZ (qM.of (l':=[]) (by kernel_rfl) trivial) (q:=4) (kin:=[0,3,4,13,14,15]) (kout:=[0,3,4]) (by kernel_rfl) (by kernel_rfl) fun vs objs K r h=>by
  replace h:qPf vs objs K=some r:=h
  unfold qPf at h
  split at h
  ·skip
   obtain⟨t,h1,h2⟩:=qE h
   rw[<- qXr] at h1
   refine⟨_,qPc,t,qB,h1,fun e vs' objs' hd=>?_⟩
   unfold qPc at hd;split at hd;(cases hd;exact h2);cases hd
  ·cases h
theorem qll:qZ Tryz.prog qHh 1 (qD Tryz.f54 10):=
 qg mixed qPZ (qM.of (l':=[]) (by kernel_rfl) trivial) (q:=10) (kin:=[0,4,30,31,32]) (kout:=[4]) (by kernel_rfl) (by kernel_rfl) fun vs objs K r h=>by
  replace h:qPe vs objs K=some r:=h
  unfold qPe at h
  split at h
  ·skip
   obtain⟨t,h1,h2⟩:=qE h
   rw[<- qXq] at h1
   refine⟨_,qPa,t,qB,h1,fun e vs' objs' hd=>?_⟩
   unfold qPa at hd;split at hd;(cases hd;exact h2);cases hd
  ·cases h
def qXp:V->List Obj->Option (Nat×LI×LI×Int×LL×LL×Nat×LL):=fun v objs=>match v,objs with
 | .s (.sl 1 0 y0 true),[.cells 72 [.arr .i8 81 y1,.arr .i8 16 y2,.one [.i .i8 y3],.rows [.i .u64,.i .u64] 32 y4,.rows [.i .u64,.i .u64] 2 y5],.sli 37 false (.rows [.i .i64,.i .i64,.i .i64,.b] y6 y7)]=>some (y0,y1,y2,y3,y4,y5,y6,y7)
 | _,_=>none
theorem qlg (x0 x1:LI) (x2:Int) (x3 x4:LL):fnE qHh Tryz.f54 ([.s (.ptr 0 0 none 0)]) ([.cells 72 [.arr .i8 81 x0,.arr .i8 16 x1,.one [.i .i8 x2],.rows [.i .u64,.i .u64] 32 x3,.rows [.i .u64,.i .u64] 2 x4]]) qXp=qHg x0 x1 x2 x3 x4:=by kernel_rfl
def qXo:HA:=fun o vs objs K=>match vs,objs with
 | [.s (.ptr 0 0 none 0)],[.cells 72 [.arr .i8 81 x0,.arr .i8 16 x1,.one [.i .i8 x2],.rows [.i .u64,.i .u64] 32 x3,.rows [.i .u64,.i .u64] 2 x4]]=>ob (qHg x0 x1 x2 x3 x4) fun z=>K false (.s (.sl 1 0 (z.1) true)) ([.cells 72 [.arr .i8 81 (z.2.1),.arr .i8 16 (z.2.2.1),.one [.i .i8 (z.2.2.2.1)],.rows [.i .u64,.i .u64] 32 (z.2.2.2.2.1),.rows [.i .u64,.i .u64] 2 (z.2.2.2.2.2.1)],.sli 37 false (.rows [.i .i64,.i .i64,.i .i64,.b] (z.2.2.2.2.2.2.1) (z.2.2.2.2.2.2.2))])
 | _,_=>o 54 vs objs K
def qXs (o:Orc):Orc:=qJ 54 (qXo o) o
theorem qlk:OQ Tryz.prog qXs:=fun _ ho=>qL ho fun vs objs K r h=>by
 unfold qXo at h
 split at h
 ·skip
  obtain⟨t,h1,h2⟩:=qE h
  refine q7 mixed qPZ (fn:=Tryz.f54) (b:=(Tryz.f54).body.getD .skip) (by kernel_rfl) (by kernel_rfl) (by kernel_rfl) ((qlg _ _ _ _ _).trans h1) (m:=1) rfl (qM.of (l':=[qD Tryz.f54 4,qD Tryz.f54 10]) (by kernel_rfl) ⟨qlm,qll,trivial⟩) fun v objs' hd=>?_
  unfold qXp at hd;split at hd;(cases hd;exact h2);cases hd
 ·exact ho _ _ _ _ _ h
def qPg:Ex->List V->List Obj->Option ((Bool×LI×LI×Int×LL×LL)⊕(LI×LI×Int×LL×LL)):=fun e vs objs=>match e,vs,objs with
 | .ret,[.s (.b y0)],[.cells 72 [.arr .i8 81 y1,.arr .i8 16 y2,.one [.i .i8 y3],.rows [.i .u64,.i .u64] 32 y4,.rows [.i .u64,.i .u64] 2 y5]]=>some (.inl (y0,y1,y2,y3,y4,y5))
 | .exit 0,[.s .bad],[.cells 72 [.arr .i8 81 y0,.arr .i8 16 y1,.one [.i .i8 y2],.rows [.i .u64,.i .u64] 32 y3,.rows [.i .u64,.i .u64] 2 y4]]=>some (.inr (y0,y1,y2,y3,y4))
 | _,_,_=>none
def qPi:HL:=fun vs objs K=>match vs,objs with
 | [.s (.ptr 1 0 none 0),.s (.sl 2 0 x0 true),.s (.i .i64 x1),.s (.i .i64 x2)],[.cells 72 [.arr .i8 81 x3,.arr .i8 16 x4,.one [.i .i8 x5],.rows [.i .u64,.i .u64] 32 x6,.rows [.i .u64,.i .u64] 2 x7],.cells 37 [.one [.i .i64 x8,.i .i64 x9,.i .i64 x10,.b x11]],.sli 37 false (.rows [.i .i64,.i .i64,.i .i64,.b] x12 x13)]=>ob (qFO qB x0 x1 x2 x3 x4 x5 x6 x7 x8 x9 x10 x11 x12 x13) fun t0=>sw t0 (fun z=>K (.ret) ([.s (.b (z.1))]) ([.cells 72 [.arr .i8 81 (z.2.1),.arr .i8 16 (z.2.2.1),.one [.i .i8 (z.2.2.2.1)],.rows [.i .u64,.i .u64] 32 (z.2.2.2.2.1),.rows [.i .u64,.i .u64] 2 (z.2.2.2.2.2)]])) (fun z=>K (.exit 0) ([.s .bad]) ([.cells 72 [.arr .i8 81 (z.1),.arr .i8 16 (z.2.1),.one [.i .i8 (z.2.2.1)],.rows [.i .u64,.i .u64] 32 (z.2.2.2.1),.rows [.i .u64,.i .u64] 2 (z.2.2.2.2)]]))
 | _,_=>none
def qlp:{R:Type}->Nat->List V->List Obj->(Ex->List V->List Obj->Option R)->Option R:=fun q vs objs K=>bif Nat.beq q 2 then qPi vs objs K else none
def qLI:Ctx:=mkC 18 ((qXs qI)) [(2,[3,8,9,10],[4])] qlp
theorem qXu:CtxOK Tryz.prog qLI:=mkC_ok ((qlk _ qK))
def qPh (f:Nat) (x0:Nat) (x1 x2:Int) (x3 x4:LI) (x5:Int) (x6 x7:LL) (x8 x9 x10:Int) (x11:Bool) (x12:Nat) (x13:LL):Option ((Bool×LI×LI×Int×LL×LL)⊕(LI×LI×Int×LL×LL)):=qf qLI 1 [3,8,9,10] [4] (qD Tryz.f25 2) f ([.s (.ptr 1 0 none 0),.s (.sl 2 0 x0 true),.s (.i .i64 x1),.s (.i .i64 x2)]) ([.cells 72 [.arr .i8 81 x3,.arr .i8 16 x4,.one [.i .i8 x5],.rows [.i .u64,.i .u64] 32 x6,.rows [.i .u64,.i .u64] 2 x7],.cells 37 [.one [.i .i64 x8,.i .i64 x9,.i .i64 x10,.b x11]],.sli 37 false (.rows [.i .i64,.i .i64,.i .i64,.b] x12 x13)]) qPg
theorem qlo (f:Nat) (x0:Nat) (x1 x2:Int) (x3 x4:LI) (x5:Int) (x6 x7:LL) (x8 x9 x10:Int) (x11:Bool) (x12:Nat) (x13:LL):qPh (f+1) x0 x1 x2 x3 x4 x5 x6 x7 x8 x9 x10 x11 x12 x13=qHl (qPh f) x0 x1 x2 x3 x4 x5 x6 x7 x8 x9 x10 x11 x12 x13:=by kernel_rfl
theorem qXw:∀ f,qPh f=qFO f
 | 0=>rfl
 | f+1=>by funext x0 x1 x2 x3 x4 x5 x6 x7 x8 x9 x10 x11 x12 x13;rw[qlo,qXw f];rfl
theorem qlr:qZ Tryz.prog qLI 1 (qD Tryz.f25 2):=
 qg mixed qXu (qM.of (l':=[]) (by kernel_rfl) trivial) (q:=2) (kin:=[3,8,9,10]) (kout:=[4]) (by kernel_rfl) (by kernel_rfl) fun vs objs K r h=>by
  replace h:qPi vs objs K=some r:=h
  unfold qPi at h
  split at h
  ·skip
   obtain⟨t,h1,h2⟩:=qE h
   rw[<- qXw] at h1
   refine⟨_,qPg,t,qB,h1,fun e vs' objs' hd=>?_⟩
   unfold qPg at hd
   split at hd
   ·skip
    cases hd
    exact h2
   ·skip
    cases hd
    exact h2
   ·cases hd
  ·cases h
def qXv:V->List Obj->Option (Bool×LI×LI×Int×LL×LL):=fun v objs=>match v,objs with
 | .s (.b y0),[.cells 72 [.arr .i8 81 y1,.arr .i8 16 y2,.one [.i .i8 y3],.rows [.i .u64,.i .u64] 32 y4,.rows [.i .u64,.i .u64] 2 y5]]=>some (y0,y1,y2,y3,y4,y5)
 | _,_=>none
theorem qln (x0 x1 x2:Int) (x3:Bool) (x4 x5:LI) (x6:Int) (x7 x8:LL):fnE qLI Tryz.f25 ([.s (.ptr 0 0 none 0),.agg [.one [.i .i64 x0,.i .i64 x1,.i .i64 x2,.b x3]]]) ([.cells 72 [.arr .i8 81 x4,.arr .i8 16 x5,.one [.i .i8 x6],.rows [.i .u64,.i .u64] 32 x7,.rows [.i .u64,.i .u64] 2 x8]]) qXv=qHk x0 x1 x2 x3 x4 x5 x6 x7 x8:=by kernel_rfl
def qXt:HA:=fun o vs objs K=>match vs,objs with
 | [.s (.ptr 0 0 none 0),.agg [.one [.i .i64 x0,.i .i64 x1,.i .i64 x2,.b x3]]],[.cells 72 [.arr .i8 81 x4,.arr .i8 16 x5,.one [.i .i8 x6],.rows [.i .u64,.i .u64] 32 x7,.rows [.i .u64,.i .u64] 2 x8]]=>ob (qHk x0 x1 x2 x3 x4 x5 x6 x7 x8) fun z=>K false (.s (.b (z.1))) ([.cells 72 [.arr .i8 81 (z.2.1),.arr .i8 16 (z.2.2.1),.one [.i .i8 (z.2.2.2.1)],.rows [.i .u64,.i .u64] 32 (z.2.2.2.2.1),.rows [.i .u64,.i .u64] 2 (z.2.2.2.2.2)]])
 | _,_=>o 25 vs objs K
def qXx (o:Orc):Orc:=qJ 25 (qXt o) o
theorem qlq:OQ Tryz.prog qXx:=fun _ ho=>qL ho fun vs objs K r h=>by
 unfold qXt at h
 split at h
 ·skip
  obtain⟨t,h1,h2⟩:=qE h
  refine q7 mixed qXu (fn:=Tryz.f25) (b:=(Tryz.f25).body.getD .skip) (by kernel_rfl) (by kernel_rfl) (by kernel_rfl) ((qln _ _ _ _ _ _ _ _ _).trans h1) (m:=1) rfl (qM.of (l':=[qD Tryz.f25 2]) (by kernel_rfl) ⟨qlr,trivial⟩) fun v objs' hd=>?_
  unfold qXv at hd;split at hd;(cases hd;exact h2);cases hd
 ·exact ho _ _ _ _ _ h
def qYu:Ctx:=mkC 48 (qI) [] qU
theorem qmn:CtxOK Tryz.prog qYu:=mkC_ok (qK)
def qYv:V->List Obj->Option (Int):=fun v objs=>match v,objs with
 | .s (.i .i64 y0),[]=>some (y0)
 | _,_=>none
theorem qmm (x0 x1 x2:Int) (x3:Bool):fnE qYu Tryz.f73 ([.agg [.one [.i .i64 x0,.i .i64 x1,.i .i64 x2,.b x3]]]) ([]) qYv=qDn x0 x1 x2 x3:=by kernel_rfl
def qYt:HA:=fun o vs objs K=>match vs,objs with
 | [.agg [.one [.i .i64 x0,.i .i64 x1,.i .i64 x2,.b x3]]],[]=>ob (qDn x0 x1 x2 x3) fun y0=>K false (.s (.i .i64 y0)) ([])
 | _,_=>o 73 vs objs K
def qQA (o:Orc):Orc:=qJ 73 (qYt o) o
theorem qYw:OQ Tryz.prog qQA:=fun _ ho=>qL ho fun vs objs K r h=>by
 unfold qYt at h
 split at h
 ·skip
  obtain⟨t,h1,h2⟩:=qE h
  refine qa mixed qmn ((qmm _ _ _ _).trans h1) (by kernel_rfl) fun v objs' hd=>?_
  unfold qYv at hd;split at hd;(cases hd;exact h2);cases hd
 ·exact ho _ _ _ _ _ h
def qVg:Ctx:=mkC 104 ((qJa (qCy (qDp (qF5 (qKV (qQA qI))))))) [] qU
theorem qjD:CtxOK Tryz.prog qVg:=mkC_ok ((qLw _ (qDG _ (qEZ _ (qG7 _ (qNt _ (qYw _ qK)))))))
def qVh:V->List Obj->Option (Bool):=fun v objs=>match v,objs with
 | .s (.b y0),[]=>some (y0)
 | _,_=>none
theorem qjC (x0 x1 x2:Int) (x3:Bool) (x4:Int) (x5:Nat) (x6 x7:LI) (x8:Int) (x9 x10:LL) (x11:Nat) (x12:LL):fnE qVg Tryz.f55 ([.s (.ptr 0 0 none 0),.agg [.one [.i .i64 x0,.i .i64 x1,.i .i64 x2,.b x3]]]) ([.rcells 66 [.one [.ptr 1 0 none 0,.i .u64 x4,.sl 2 0 x5 true]],.rcells 72 [.arr .i8 81 x6,.arr .i8 16 x7,.one [.i .i8 x8],.rows [.i .u64,.i .u64] 32 x9,.rows [.i .u64,.i .u64] 2 x10],.sli 98 true (.rows [.i .i64,.i .i64,.i .i64,.b,.i .i8,.i .i8] x11 x12)]) (qAM 3 qVh)=qEN x0 x1 x2 x3 x4 x5 x6 x7 x8 x9 x10 x11 x12:=by kernel_rfl
def qVf:HA:=fun o vs objs K=>match vs,List.map Obj.toRO objs with
 | [.s (.ptr 0 0 none 0),.agg [.one [.i .i64 x0,.i .i64 x1,.i .i64 x2,.b x3]]],[.rcells 66 [.one [.ptr 1 0 none 0,.i .u64 x4,.sl 2 0 x5 true]],.rcells 72 [.arr .i8 81 x6,.arr .i8 16 x7,.one [.i .i8 x8],.rows [.i .u64,.i .u64] 32 x9,.rows [.i .u64,.i .u64] 2 x10],.sli 98 true (.rows [.i .i64,.i .i64,.i .i64,.b,.i .i8,.i .i8] x11 x12)]=>ob (qEN x0 x1 x2 x3 x4 x5 x6 x7 x8 x9 x10 x11 x12) fun y0=>K true (.s (.b y0)) ([])
 | _,_=>o 55 vs objs K
def qVi (o:Orc):Orc:=qJ 55 (qVf o) o
theorem qjE:OQ Tryz.prog qVi:=fun _ ho=>qL ho fun vs objs K r h=>by
 unfold qVf at h
 split at h
 ·skip
  have hq:List.map Obj.toRO objs=_:=(by rename_i hq;first | exact hq | assumption)
  obtain⟨t,h1,h2⟩:=qE h
  refine qAj mixed qjD (m:=3) (fn:=Tryz.f55) (b:=(Tryz.f55).body.getD .skip) (by kernel_rfl) (by kernel_rfl) (by kernel_rfl) hq (by kernel_rfl) (by kernel_rfl) (qM.of (l':=[]) (by kernel_rfl) trivial) ((qjC _ _ _ _ _ _ _ _ _ _ _ _ _).trans h1) fun v objs' hd=>?_
  unfold qVh at hd;split at hd;(cases hd;exact h2);cases hd
 ·exact ho _ _ _ _ _ h
def qVo:Ctx:=mkC 54 ((qPA (qKV qI))) [] qU
theorem qjJ:CtxOK Tryz.prog qVo:=mkC_ok ((qXF _ (qNt _ qK)))
def qVp:V->List Obj->Option (Int×Nat×LI×LI×Int×LL×LL×Nat×LL):=fun v objs=>match v,objs with
 | .tup [],[.cells 66 [.one [.ptr 1 0 none 0,.i .u64 y0,.sl 2 0 y1 true]],.cells 72 [.arr .i8 81 y2,.arr .i8 16 y3,.one [.i .i8 y4],.rows [.i .u64,.i .u64] 32 y5,.rows [.i .u64,.i .u64] 2 y6],.sli 98 false (.rows [.i .i64,.i .i64,.i .i64,.b,.i .i8,.i .i8] y7 y8)]=>some (y0,y1,y2,y3,y4,y5,y6,y7,y8)
 | _,_=>none
theorem qjI (x0 x1:Int) (x2 x3:Int) (x4:Nat) (x5 x6:LI) (x7:Int) (x8 x9:LL) (x10:Nat) (x11:LL):fnE qVo Tryz.f57 ([.s (.ptr 0 0 none 0),.s (.i .i64 x0),.s (.i .i64 x1),.s (.i .i64 x2)]) ([.cells 66 [.one [.ptr 1 0 none 0,.i .u64 x3,.sl 2 0 x4 true]],.cells 72 [.arr .i8 81 x5,.arr .i8 16 x6,.one [.i .i8 x7],.rows [.i .u64,.i .u64] 32 x8,.rows [.i .u64,.i .u64] 2 x9],.sli 98 false (.rows [.i .i64,.i .i64,.i .i64,.b,.i .i8,.i .i8] x10 x11)]) qVp=qDe x0 x1 x2 x3 x4 x5 x6 x7 x8 x9 x10 x11:=by kernel_rfl
def qVn:HA:=fun o vs objs K=>match vs,objs with
 | [.s (.ptr 0 0 none 0),.s (.i .i64 x0),.s (.i .i64 x1),.s (.i .i64 x2)],[.cells 66 [.one [.ptr 1 0 none 0,.i .u64 x3,.sl 2 0 x4 true]],.cells 72 [.arr .i8 81 x5,.arr .i8 16 x6,.one [.i .i8 x7],.rows [.i .u64,.i .u64] 32 x8,.rows [.i .u64,.i .u64] 2 x9],.sli 98 false (.rows [.i .i64,.i .i64,.i .i64,.b,.i .i8,.i .i8] x10 x11)]=>ob (qDe x0 x1 x2 x3 x4 x5 x6 x7 x8 x9 x10 x11) fun z=>K false (.tup []) ([.cells 66 [.one [.ptr 1 0 none 0,.i .u64 (z.1),.sl 2 0 (z.2.1) true]],.cells 72 [.arr .i8 81 (z.2.2.1),.arr .i8 16 (z.2.2.2.1),.one [.i .i8 (z.2.2.2.2.1)],.rows [.i .u64,.i .u64] 32 (z.2.2.2.2.2.1),.rows [.i .u64,.i .u64] 2 (z.2.2.2.2.2.2.1)],.sli 98 false (.rows [.i .i64,.i .i64,.i .i64,.b,.i .i8,.i .i8] (z.2.2.2.2.2.2.2.1) (z.2.2.2.2.2.2.2.2))])
 | _,_=>o 57 vs objs K
def qVq (o:Orc):Orc:=qJ 57 (qVn o) o
theorem qjK:OQ Tryz.prog qVq:=fun _ ho=>qL ho fun vs objs K r h=>by
 unfold qVn at h
 split at h
 ·skip
  obtain⟨t,h1,h2⟩:=qE h
  refine qa mixed qjJ ((qjI _ _ _ _ _ _ _ _ _ _ _ _).trans h1) (by kernel_rfl) fun v objs' hd=>?_
  unfold qVp at hd;split at hd;(cases hd;exact h2);cases hd
 ·exact ho _ _ _ _ _ h
def qVs:Ctx:=mkC 32 ((qKZ (qPK (qF5 qI)))) [] qU
theorem qjM:CtxOK Tryz.prog qVs:=mkC_ok ((qN0 _ (qXP _ (qG7 _ qK))))
def qVt:V->List Obj->Option (Int×Nat×LI×LI×Int×LL×LL×Nat×LL):=fun v objs=>match v,objs with
 | .tup [],[.cells 66 [.one [.ptr 1 0 none 0,.i .u64 y0,.sl 2 0 y1 true]],.cells 72 [.arr .i8 81 y2,.arr .i8 16 y3,.one [.i .i8 y4],.rows [.i .u64,.i .u64] 32 y5,.rows [.i .u64,.i .u64] 2 y6],.sli 98 false (.rows [.i .i64,.i .i64,.i .i64,.b,.i .i8,.i .i8] y7 y8)]=>some (y0,y1,y2,y3,y4,y5,y6,y7,y8)
 | _,_=>none
theorem qjL (x0 x1 x2:Int) (x3:Nat) (x4 x5:LI) (x6:Int) (x7 x8:LL) (x9:Nat) (x10:LL):fnE qVs Tryz.f58 ([.s (.ptr 0 0 none 0),.s (.i .i64 x0),.s (.i .i8 x1)]) ([.cells 66 [.one [.ptr 1 0 none 0,.i .u64 x2,.sl 2 0 x3 true]],.cells 72 [.arr .i8 81 x4,.arr .i8 16 x5,.one [.i .i8 x6],.rows [.i .u64,.i .u64] 32 x7,.rows [.i .u64,.i .u64] 2 x8],.sli 98 false (.rows [.i .i64,.i .i64,.i .i64,.b,.i .i8,.i .i8] x9 x10)]) qVt=qCD x0 x1 x2 x3 x4 x5 x6 x7 x8 x9 x10:=by kernel_rfl
def qVr:HA:=fun o vs objs K=>match vs,objs with
 | [.s (.ptr 0 0 none 0),.s (.i .i64 x0),.s (.i .i8 x1)],[.cells 66 [.one [.ptr 1 0 none 0,.i .u64 x2,.sl 2 0 x3 true]],.cells 72 [.arr .i8 81 x4,.arr .i8 16 x5,.one [.i .i8 x6],.rows [.i .u64,.i .u64] 32 x7,.rows [.i .u64,.i .u64] 2 x8],.sli 98 false (.rows [.i .i64,.i .i64,.i .i64,.b,.i .i8,.i .i8] x9 x10)]=>ob (qCD x0 x1 x2 x3 x4 x5 x6 x7 x8 x9 x10) fun z=>K false (.tup []) ([.cells 66 [.one [.ptr 1 0 none 0,.i .u64 (z.1),.sl 2 0 (z.2.1) true]],.cells 72 [.arr .i8 81 (z.2.2.1),.arr .i8 16 (z.2.2.2.1),.one [.i .i8 (z.2.2.2.2.1)],.rows [.i .u64,.i .u64] 32 (z.2.2.2.2.2.1),.rows [.i .u64,.i .u64] 2 (z.2.2.2.2.2.2.1)],.sli 98 false (.rows [.i .i64,.i .i64,.i .i64,.b,.i .i8,.i .i8] (z.2.2.2.2.2.2.2.1) (z.2.2.2.2.2.2.2.2))])
 | _,_=>o 58 vs objs K
def qVu (o:Orc):Orc:=qJ 58 (qVr o) o
theorem qjN:OQ Tryz.prog qVu:=fun _ ho=>qL ho fun vs objs K r h=>by
 unfold qVr at h
 split at h
 ·skip
  obtain⟨t,h1,h2⟩:=qE h
  refine qa mixed qjM ((qjL _ _ _ _ _ _ _ _ _ _ _).trans h1) (by kernel_rfl) fun v objs' hd=>?_
  unfold qVt at hd;split at hd;(cases hd;exact h2);cases hd
 ·exact ho _ _ _ _ _ h
def qVw:Ctx:=mkC 26 ((qPL qI)) [] qU
theorem qjP:CtxOK Tryz.prog qVw:=mkC_ok ((qXT _ qK))
def qVx:V->List Obj->Option (Int×Nat×LI×LI×Int×LL×LL×Nat×LL):=fun v objs=>match v,objs with
 | .tup [],[.cells 66 [.one [.ptr 1 0 none 0,.i .u64 y0,.sl 2 0 y1 true]],.cells 72 [.arr .i8 81 y2,.arr .i8 16 y3,.one [.i .i8 y4],.rows [.i .u64,.i .u64] 32 y5,.rows [.i .u64,.i .u64] 2 y6],.sli 98 false (.rows [.i .i64,.i .i64,.i .i64,.b,.i .i8,.i .i8] y7 y8)]=>some (y0,y1,y2,y3,y4,y5,y6,y7,y8)
 | _,_=>none
theorem qjO (x0:Int) (x1:Nat) (x2 x3:LI) (x4:Int) (x5 x6:LL) (x7:Nat) (x8:LL):fnE qVw Tryz.f62 ([.s (.ptr 0 0 none 0)]) ([.cells 66 [.one [.ptr 1 0 none 0,.i .u64 x0,.sl 2 0 x1 true]],.cells 72 [.arr .i8 81 x2,.arr .i8 16 x3,.one [.i .i8 x4],.rows [.i .u64,.i .u64] 32 x5,.rows [.i .u64,.i .u64] 2 x6],.sli 98 false (.rows [.i .i64,.i .i64,.i .i64,.b,.i .i8,.i .i8] x7 x8)]) qVx=qCn x0 x1 x2 x3 x4 x5 x6 x7 x8:=by kernel_rfl
def qVv:HA:=fun o vs objs K=>match vs,objs with
 | [.s (.ptr 0 0 none 0)],[.cells 66 [.one [.ptr 1 0 none 0,.i .u64 x0,.sl 2 0 x1 true]],.cells 72 [.arr .i8 81 x2,.arr .i8 16 x3,.one [.i .i8 x4],.rows [.i .u64,.i .u64] 32 x5,.rows [.i .u64,.i .u64] 2 x6],.sli 98 false (.rows [.i .i64,.i .i64,.i .i64,.b,.i .i8,.i .i8] x7 x8)]=>ob (qCn x0 x1 x2 x3 x4 x5 x6 x7 x8) fun z=>K false (.tup []) ([.cells 66 [.one [.ptr 1 0 none 0,.i .u64 (z.1),.sl 2 0 (z.2.1) true]],.cells 72 [.arr .i8 81 (z.2.2.1),.arr .i8 16 (z.2.2.2.1),.one [.i .i8 (z.2.2.2.2.1)],.rows [.i .u64,.i .u64] 32 (z.2.2.2.2.2.1),.rows [.i .u64,.i .u64] 2 (z.2.2.2.2.2.2.1)],.sli 98 false (.rows [.i .i64,.i .i64,.i .i64,.b,.i .i8,.i .i8] (z.2.2.2.2.2.2.2.1) (z.2.2.2.2.2.2.2.2))])
 | _,_=>o 62 vs objs K
def qVy (o:Orc):Orc:=qJ 62 (qVv o) o
theorem qjQ:OQ Tryz.prog qVy:=fun _ ho=>qL ho fun vs objs K r h=>by
 unfold qVv at h
 split at h
 ·skip
  obtain⟨t,h1,h2⟩:=qE h
  refine qa mixed qjP ((qjO _ _ _ _ _ _ _ _ _).trans h1) (by kernel_rfl) fun v objs' hd=>?_
  unfold qVx at hd;split at hd;(cases hd;exact h2);cases hd
 ·exact ho _ _ _ _ _ h
def qVk:Ctx:=mkC 97 ((qLu (qJa (qCy (qVy (qVu (qVq (qDo (qF5 (qVi qI)))))))))) [] qU
theorem qjG:CtxOK Tryz.prog qVk:=mkC_ok ((qQZ _ (qLw _ (qDG _ (qjQ _ (qjN _ (qjK _ (qEY _ (qG7 _ (qjE _ qK))))))))))
def qVl:V->List Obj->Option ((Bool×Int×Nat×LI×LI×Int×LL×LL×Nat×LL)⊕(Bool×Int×Nat×LI×LI×Int×LL×LL×Nat×LL)):=fun v objs=>match v,objs with
 | .s (.b y0),[.cells 66 [.one [.ptr 1 0 none 0,.i .u64 y1,.sl 2 0 y2 true]],.cells 72 [.arr .i8 81 y3,.arr .i8 16 y4,.one [.i .i8 y5],.rows [.i .u64,.i .u64] 32 y6,.rows [.i .u64,.i .u64] 2 y7],.sli 98 false (.rows [.i .i64,.i .i64,.i .i64,.b,.i .i8,.i .i8] y8 y9)]=>some (.inl (y0,y1,y2,y3,y4,y5,y6,y7,y8,y9))
 | .s (.b y0),[.cells 66 [.one [.ptr 1 0 none 0,.i .u64 y1,.sl 3 0 y2 true]],.cells 72 [.arr .i8 81 y3,.arr .i8 16 y4,.one [.i .i8 y5],.rows [.i .u64,.i .u64] 32 y6,.rows [.i .u64,.i .u64] 2 y7],Obj.dead,.sli 98 false (.rows [.i .i64,.i .i64,.i .i64,.b,.i .i8,.i .i8] y8 y9)]=>some (.inr (y0,y1,y2,y3,y4,y5,y6,y7,y8,y9))
 | _,_=>none
theorem qjF (x0 x1 x2:Int) (x3:Bool) (x4:Int) (x5:Nat) (x6 x7:LI) (x8:Int) (x9 x10:LL) (x11:Nat) (x12:LL):fnE qVk Tryz.f26 ([.s (.ptr 0 0 none 0),.agg [.one [.i .i64 x0,.i .i64 x1,.i .i64 x2,.b x3]]]) ([.cells 66 [.one [.ptr 1 0 none 0,.i .u64 x4,.sl 2 0 x5 true]],.cells 72 [.arr .i8 81 x6,.arr .i8 16 x7,.one [.i .i8 x8],.rows [.i .u64,.i .u64] 32 x9,.rows [.i .u64,.i .u64] 2 x10],.sli 98 false (.rows [.i .i64,.i .i64,.i .i64,.b,.i .i8,.i .i8] x11 x12)]) qVl=qDd x0 x1 x2 x3 x4 x5 x6 x7 x8 x9 x10 x11 x12:=by kernel_rfl
def qVj:HA:=fun o vs objs K=>match vs,objs with
 | [.s (.ptr 0 0 none 0),.agg [.one [.i .i64 x0,.i .i64 x1,.i .i64 x2,.b x3]]],[.cells 66 [.one [.ptr 1 0 none 0,.i .u64 x4,.sl 2 0 x5 true]],.cells 72 [.arr .i8 81 x6,.arr .i8 16 x7,.one [.i .i8 x8],.rows [.i .u64,.i .u64] 32 x9,.rows [.i .u64,.i .u64] 2 x10],.sli 98 false (.rows [.i .i64,.i .i64,.i .i64,.b,.i .i8,.i .i8] x11 x12)]=>ob (qDd x0 x1 x2 x3 x4 x5 x6 x7 x8 x9 x10 x11 x12) fun t0=>sw t0 (fun z=>K false (.s (.b (z.1))) ([.cells 66 [.one [.ptr 1 0 none 0,.i .u64 (z.2.1),.sl 2 0 (z.2.2.1) true]],.cells 72 [.arr .i8 81 (z.2.2.2.1),.arr .i8 16 (z.2.2.2.2.1),.one [.i .i8 (z.2.2.2.2.2.1)],.rows [.i .u64,.i .u64] 32 (z.2.2.2.2.2.2.1),.rows [.i .u64,.i .u64] 2 (z.2.2.2.2.2.2.2.1)],.sli 98 false (.rows [.i .i64,.i .i64,.i .i64,.b,.i .i8,.i .i8] (z.2.2.2.2.2.2.2.2.1) (z.2.2.2.2.2.2.2.2.2))])) (fun z=>K false (.s (.b (z.1))) ([.cells 66 [.one [.ptr 1 0 none 0,.i .u64 (z.2.1),.sl 3 0 (z.2.2.1) true]],.cells 72 [.arr .i8 81 (z.2.2.2.1),.arr .i8 16 (z.2.2.2.2.1),.one [.i .i8 (z.2.2.2.2.2.1)],.rows [.i .u64,.i .u64] 32 (z.2.2.2.2.2.2.1),.rows [.i .u64,.i .u64] 2 (z.2.2.2.2.2.2.2.1)],Obj.dead,.sli 98 false (.rows [.i .i64,.i .i64,.i .i64,.b,.i .i8,.i .i8] (z.2.2.2.2.2.2.2.2.1) (z.2.2.2.2.2.2.2.2.2))]))
 | _,_=>o 26 vs objs K
def qVm (o:Orc):Orc:=qJ 26 (qVj o) o
theorem qjH:OQ Tryz.prog qVm:=fun _ ho=>qL ho fun vs objs K r h=>by
 unfold qVj at h
 split at h
 ·skip
  obtain⟨t,h1,h2⟩:=qE h
  refine qa mixed qjG ((qjF _ _ _ _ _ _ _ _ _ _ _ _ _).trans h1) (by kernel_rfl) fun v objs' hd=>?_
  unfold qVl at hd
  split at hd
  ·skip
   cases hd
   exact h2
  ·skip
   cases hd
   exact h2
  ·cases hd
 ·exact ho _ _ _ _ _ h
def qPv:Ex->List V->List Obj->Option ((Nat×Int×Int×Nat×LL×LI×LI×Int×Int×Nat×LI×LI×Int×LL×LL×Nat×LL)⊕(Nat×Nat×LL×LI×LI×Int×Int×Nat×LI×LI×Int×LL×LL×Nat×LL)):=fun e vs objs=>match e,vs,objs with
 | .ret,[.s (.sl 0 0 y0 true),.s (.i .i64 y1),.s (.ptr 1 0 none 0),.s (.i .i64 y2),.s (.ptr 2 0 none 0)],[.sli 37 true (.rows [.i .i64,.i .i64,.i .i64,.b] y3 y4),.cells 28 [.arr .i8 81 y5,.arr .i8 16 y6,.one [.i .i8 y7]],.cells 66 [.one [.ptr 3 0 none 0,.i .u64 y8,.sl 4 0 y9 true]],.cells 72 [.arr .i8 81 y10,.arr .i8 16 y11,.one [.i .i8 y12],.rows [.i .u64,.i .u64] 32 y13,.rows [.i .u64,.i .u64] 2 y14],.sli 98 false (.rows [.i .i64,.i .i64,.i .i64,.b,.i .i8,.i .i8] y15 y16)]=>some (.inl (y0,y1,y2,y3,y4,y5,y6,y7,y8,y9,y10,y11,y12,y13,y14,y15,y16))
 | .exit 0,[.s (.sl 0 0 y0 true),.s .bad,.s (.ptr 1 0 none 0),.s .bad,.s (.ptr 2 0 none 0)],[.sli 37 true (.rows [.i .i64,.i .i64,.i .i64,.b] y1 y2),.cells 28 [.arr .i8 81 y3,.arr .i8 16 y4,.one [.i .i8 y5]],.cells 66 [.one [.ptr 3 0 none 0,.i .u64 y6,.sl 4 0 y7 true]],.cells 72 [.arr .i8 81 y8,.arr .i8 16 y9,.one [.i .i8 y10],.rows [.i .u64,.i .u64] 32 y11,.rows [.i .u64,.i .u64] 2 y12],.sli 98 false (.rows [.i .i64,.i .i64,.i .i64,.b,.i .i8,.i .i8] y13 y14)]=>some (.inr (y0,y1,y2,y3,y4,y5,y6,y7,y8,y9,y10,y11,y12,y13,y14))
 | _,_,_=>none
def qPy:HL:=fun vs objs K=>match vs,objs with
 | [.s (.sl 0 0 x0 true),.s (.ptr 1 0 none 0),.s (.ptr 2 0 none 0),.s (.sl 0 0 x1 true),.s (.i .i64 x2),.s (.i .i64 x3)],[.sli 37 true (.rows [.i .i64,.i .i64,.i .i64,.b] x4 x5),.cells 28 [.arr .i8 81 x6,.arr .i8 16 x7,.one [.i .i8 x8]],.cells 66 [.one [.ptr 3 0 none 0,.i .u64 x9,.sl 4 0 x10 true]],.cells 72 [.arr .i8 81 x11,.arr .i8 16 x12,.one [.i .i8 x13],.rows [.i .u64,.i .u64] 32 x14,.rows [.i .u64,.i .u64] 2 x15],.sli 98 false (.rows [.i .i64,.i .i64,.i .i64,.b,.i .i8,.i .i8] x16 x17)]=>ob (qDE qB x0 x1 x2 x3 x4 x5 x6 x7 x8 x9 x10 x11 x12 x13 x14 x15 x16 x17) fun t0=>sw t0 (fun z=>K (.ret) ([.s (.sl 0 0 (z.1) true),.s (.i .i64 (z.2.1)),.s (.ptr 1 0 none 0),.s (.i .i64 (z.2.2.1)),.s (.ptr 2 0 none 0)]) ([.sli 37 true (.rows [.i .i64,.i .i64,.i .i64,.b] (z.2.2.2.1) (z.2.2.2.2.1)),.cells 28 [.arr .i8 81 (z.2.2.2.2.2.1),.arr .i8 16 (z.2.2.2.2.2.2.1),.one [.i .i8 (z.2.2.2.2.2.2.2.1)]],.cells 66 [.one [.ptr 3 0 none 0,.i .u64 (z.2.2.2.2.2.2.2.2.1),.sl 4 0 (z.2.2.2.2.2.2.2.2.2.1) true]],.cells 72 [.arr .i8 81 (z.2.2.2.2.2.2.2.2.2.2.1),.arr .i8 16 (z.2.2.2.2.2.2.2.2.2.2.2.1),.one [.i .i8 (z.2.2.2.2.2.2.2.2.2.2.2.2.1)],.rows [.i .u64,.i .u64] 32 (z.2.2.2.2.2.2.2.2.2.2.2.2.2.1),.rows [.i .u64,.i .u64] 2 (z.2.2.2.2.2.2.2.2.2.2.2.2.2.2.1)],.sli 98 false (.rows [.i .i64,.i .i64,.i .i64,.b,.i .i8,.i .i8] (z.2.2.2.2.2.2.2.2.2.2.2.2.2.2.2.1) (z.2.2.2.2.2.2.2.2.2.2.2.2.2.2.2.2))])) (fun z=>K (.exit 0) ([.s (.sl 0 0 (z.1) true),.s .bad,.s (.ptr 1 0 none 0),.s .bad,.s (.ptr 2 0 none 0)]) ([.sli 37 true (.rows [.i .i64,.i .i64,.i .i64,.b] (z.2.1) (z.2.2.1)),.cells 28 [.arr .i8 81 (z.2.2.2.1),.arr .i8 16 (z.2.2.2.2.1),.one [.i .i8 (z.2.2.2.2.2.1)]],.cells 66 [.one [.ptr 3 0 none 0,.i .u64 (z.2.2.2.2.2.2.1),.sl 4 0 (z.2.2.2.2.2.2.2.1) true]],.cells 72 [.arr .i8 81 (z.2.2.2.2.2.2.2.2.1),.arr .i8 16 (z.2.2.2.2.2.2.2.2.2.1),.one [.i .i8 (z.2.2.2.2.2.2.2.2.2.2.1)],.rows [.i .u64,.i .u64] 32 (z.2.2.2.2.2.2.2.2.2.2.2.1),.rows [.i .u64,.i .u64] 2 (z.2.2.2.2.2.2.2.2.2.2.2.2.1)],.sli 98 false (.rows [.i .i64,.i .i64,.i .i64,.b,.i .i8,.i .i8] (z.2.2.2.2.2.2.2.2.2.2.2.2.2.1) (z.2.2.2.2.2.2.2.2.2.2.2.2.2.2))]))
 | _,_=>none
def qmF:{R:Type}->Nat->List V->List Obj->(Ex->List V->List Obj->Option R)->Option R:=fun q vs objs K=>bif Nat.beq q 6 then qPy vs objs K else none
def qLN:Ctx:=mkC 54 ((qVm (qXx (qV2 (qTw qI))))) [(6,[1,5,8,19,20,21],[1,4,5,6,8])] qmF
theorem qYQ:CtxOK Tryz.prog qLN:=mkC_ok ((qjH _ (qlq _ (qjT _ (qgp _ qK)))))
def qPw (f:Nat) (x0 x1:Nat) (x2 x3:Int) (x4:Nat) (x5:LL) (x6 x7:LI) (x8 x9:Int) (x10:Nat) (x11 x12:LI) (x13:Int) (x14 x15:LL) (x16:Nat) (x17:LL):Option ((Nat×Int×Int×Nat×LL×LI×LI×Int×Int×Nat×LI×LI×Int×LL×LL×Nat×LL)⊕(Nat×Nat×LL×LI×LI×Int×Int×Nat×LI×LI×Int×LL×LL×Nat×LL)):=qf qLN 1 [1,5,8,19,20,21] [1,4,5,6,8] (qD Tryz.f9 6) f ([.s (.sl 0 0 x0 true),.s (.ptr 1 0 none 0),.s (.ptr 2 0 none 0),.s (.sl 0 0 x1 true),.s (.i .i64 x2),.s (.i .i64 x3)]) ([.sli 37 true (.rows [.i .i64,.i .i64,.i .i64,.b] x4 x5),.cells 28 [.arr .i8 81 x6,.arr .i8 16 x7,.one [.i .i8 x8]],.cells 66 [.one [.ptr 3 0 none 0,.i .u64 x9,.sl 4 0 x10 true]],.cells 72 [.arr .i8 81 x11,.arr .i8 16 x12,.one [.i .i8 x13],.rows [.i .u64,.i .u64] 32 x14,.rows [.i .u64,.i .u64] 2 x15],.sli 98 false (.rows [.i .i64,.i .i64,.i .i64,.b,.i .i8,.i .i8] x16 x17)]) qPv
theorem qmE (f:Nat) (x0 x1:Nat) (x2 x3:Int) (x4:Nat) (x5:LL) (x6 x7:LI) (x8 x9:Int) (x10:Nat) (x11 x12:LI) (x13:Int) (x14 x15:LL) (x16:Nat) (x17:LL):qPw (f+1) x0 x1 x2 x3 x4 x5 x6 x7 x8 x9 x10 x11 x12 x13 x14 x15 x16 x17=qLO (qPw f) x0 x1 x2 x3 x4 x5 x6 x7 x8 x9 x10 x11 x12 x13 x14 x15 x16 x17:=by kernel_rfl
theorem qYS:∀ f,qPw f=qDE f
 | 0=>rfl
 | f+1=>by funext x0 x1 x2 x3 x4 x5 x6 x7 x8 x9 x10 x11 x12 x13 x14 x15 x16 x17;rw[qmE,qYS f];rfl
theorem qmG:qZ Tryz.prog qLN 1 (qD Tryz.f9 6):=
 qg mixed qYQ (qM.of (l':=[]) (by kernel_rfl) trivial) (q:=6) (kin:=[1,5,8,19,20,21]) (kout:=[1,4,5,6,8]) (by kernel_rfl) (by kernel_rfl) fun vs objs K r h=>by
  replace h:qPy vs objs K=some r:=h
  unfold qPy at h
  split at h
  ·skip
   obtain⟨t,h1,h2⟩:=qE h
   rw[<- qYS] at h1
   refine⟨_,qPv,t,qB,h1,fun e vs' objs' hd=>?_⟩
   unfold qPv at hd
   split at hd
   ·skip
    cases hd
    exact h2
   ·skip
    cases hd
    exact h2
   ·cases hd
  ·cases h
def qYR:V->List Obj->Option (Int×LI×LI×Int×Int):=fun v objs=>match v,objs with
 | .tup [W.s (.i .i64 y0),W.agg [.arr .i8 81 y1,.arr .i8 16 y2,.one [.i .i8 y3]],W.s (.i .i64 y4)],[]=>some (y0,y1,y2,y3,y4)
 | _,_=>none
theorem qmD (x0 x1:LI) (x2:Int) (x3 x4:Nat) (x5:LL):fnE qLN Tryz.f9 ([.agg [.arr .i8 81 x0,.arr .i8 16 x1,.one [.i .i8 x2]],.s (.sl 0 0 x3 true)]) ([.sli 37 true (.rows [.i .i64,.i .i64,.i .i64,.b] x4 x5)]) (qAM 1 qYR)=qGL x0 x1 x2 x3 x4 x5:=by kernel_rfl
def qYP:HA:=fun o vs objs K=>match vs,List.map Obj.toRO objs with
 | [.agg [.arr .i8 81 x0,.arr .i8 16 x1,.one [.i .i8 x2]],.s (.sl 0 0 x3 true)],[.sli 37 true (.rows [.i .i64,.i .i64,.i .i64,.b] x4 x5)]=>ob (qGL x0 x1 x2 x3 x4 x5) fun z=>K true (.tup [W.s (.i .i64 (z.1)),W.agg [.arr .i8 81 (z.2.1),.arr .i8 16 (z.2.2.1),.one [.i .i8 (z.2.2.2.1)]],W.s (.i .i64 (z.2.2.2.2))]) ([])
 | _,_=>o 9 vs objs K
def qPx (o:Orc):Orc:=qJ 9 (qYP o) o
theorem qYT:OQ Tryz.prog qPx:=fun _ ho=>qL ho fun vs objs K r h=>by
 unfold qYP at h
 split at h
 ·skip
  have hq:List.map Obj.toRO objs=_:=(by rename_i hq;first | exact hq | assumption)
  obtain⟨t,h1,h2⟩:=qE h
  refine qAj mixed qYQ (m:=1) (fn:=Tryz.f9) (b:=(Tryz.f9).body.getD .skip) (by kernel_rfl) (by kernel_rfl) (by kernel_rfl) hq (by kernel_rfl) (by kernel_rfl) (qM.of (l':=[qD Tryz.f9 6]) (by kernel_rfl) ⟨qmG,trivial⟩) ((qmD _ _ _ _ _ _).trans h1) fun v objs' hd=>?_
  unfold qYR at hd;split at hd;(cases hd;exact h2);cases hd
 ·exact ho _ _ _ _ _ h
def qTY:Ex->List V->List Obj->Option (Int):=fun e vs objs=>match e,vs,objs with
 | .exit 0,[.s (.i .i64 y0)],[]=>some (y0)
 | _,_,_=>none
def qTb:HL:=fun vs objs K=>match vs,objs with
 | [.s (.i .i64 x0),.s (S.it 0)],[Obj.iter x1 x2]=>ob (qM8 qB x0 x1 x2) fun y0=>K (.exit 0) ([.s (.i .i64 y0)]) ([])
 | _,_=>none
def quf:{R:Type}->Nat->List V->List Obj->(Ex->List V->List Obj->Option R)->Option R:=fun q vs objs K=>bif Nat.beq q 2 then qTb vs objs K else none
def qM7:Ctx:=mkC 10 (qI) [(2,[2,4],[2])] quf
theorem qfs:CtxOK Tryz.prog qM7:=mkC_ok (qK)
def qTZ (f:Nat) (x0:Int) (x1:ByteArray) (x2:Nat):Option (Int):=qf qM7 0 [2,4] [2] (qD Tryz.f138 2) f ([.s (.i .i64 x0),.s (S.it 0)]) ([Obj.iter x1 x2]) qTY
theorem que (f:Nat) (x0:Int) (x1:ByteArray) (x2:Nat):qTZ (f+1) x0 x1 x2=qfv (qTZ f) x0 x1 x2:=by kernel_rfl
theorem qfu:∀ f,qTZ f=qM8 f
 | 0=>rfl
 | f+1=>by funext x0 x1 x2;rw[que,qfu f];rfl
theorem qug:qZ Tryz.prog qM7 0 (qD Tryz.f138 2):=
 qg mixed qfs (qM.of (l':=[]) (by kernel_rfl) trivial) (q:=2) (kin:=[2,4]) (kout:=[2]) (by kernel_rfl) (by kernel_rfl) fun vs objs K r h=>by
  replace h:qTb vs objs K=some r:=h
  unfold qTb at h
  split at h
  ·skip
   obtain⟨t,h1,h2⟩:=qE h
   rw[<- qfu] at h1
   refine⟨_,qTY,t,qB,h1,fun e vs' objs' hd=>?_⟩
   unfold qTY at hd;split at hd;(cases hd;exact h2);cases hd
  ·cases h
def qft:V->List Obj->Option (Int):=fun v objs=>match v,objs with
 | .s (.i .i64 y0),[]=>some (y0)
 | _,_=>none
theorem qud (x0:ByteArray):fnE qM7 Tryz.f138 ([.s (.str x0)]) ([]) qft=qM6 x0:=by kernel_rfl
def qfr:HA:=fun o vs objs K=>match vs,objs with
 | [.s (.str x0)],[]=>ob (qM6 x0) fun y0=>K false (.s (.i .i64 y0)) ([])
 | _,_=>o 138 vs objs K
def qTa (o:Orc):Orc:=qJ 138 (qfr o) o
theorem qfw:OQ Tryz.prog qTa:=fun _ ho=>qL ho fun vs objs K r h=>by
 unfold qfr at h
 split at h
 ·skip
  obtain⟨t,h1,h2⟩:=qE h
  refine q7 mixed qfs (fn:=Tryz.f138) (b:=(Tryz.f138).body.getD .skip) (by kernel_rfl) (by kernel_rfl) (by kernel_rfl) ((qud _).trans h1) (m:=0) rfl (qM.of (l':=[qD Tryz.f138 2]) (by kernel_rfl) ⟨qug,trivial⟩) fun v objs' hd=>?_
  unfold qft at hd;split at hd;(cases hd;exact h2);cases hd
 ·exact ho _ _ _ _ _ h
def qfy:Ctx:=mkC 117 (qI) [] qU
theorem qui:CtxOK Tryz.prog qfy:=mkC_ok (qK)
def qfz:V->List Obj->Option (Int×Int):=fun v objs=>match v,objs with
 | .tup [W.s (.i .i32 y0),W.s (.i .i64 y1)],[]=>some (y0,y1)
 | _,_=>none
theorem quh (x0:ByteArray):fnE qfy Tryz.f154 ([.s (.str x0)]) ([]) qfz=qM9 x0:=by kernel_rfl
def qfx:HA:=fun o vs objs K=>match vs,objs with
 | [.s (.str x0)],[]=>ob (qM9 x0) fun z=>K false (.tup [W.s (.i .i32 (z.1)),W.s (.i .i64 (z.2))]) ([])
 | _,_=>o 154 vs objs K
def qf0 (o:Orc):Orc:=qJ 154 (qfx o) o
theorem quj:OQ Tryz.prog qf0:=fun _ ho=>qL ho fun vs objs K r h=>by
 unfold qfx at h
 split at h
 ·skip
  obtain⟨t,h1,h2⟩:=qE h
  refine qa mixed qui ((quh _).trans h1) (by kernel_rfl) fun v objs' hd=>?_
  unfold qfz at hd;split at hd;(cases hd;exact h2);cases hd
 ·exact ho _ _ _ _ _ h
def qfo:Ctx:=mkC 19 ((qf0 qI)) [] qU
theorem qub:CtxOK Tryz.prog qfo:=mkC_ok ((quj _ qK))
def qfp:V->List Obj->Option (Int×Int):=fun v objs=>match v,objs with
 | .tup [W.s (.i .i32 y0),W.s (.i .i64 y1)],[]=>some (y0,y1)
 | _,_=>none
theorem qua (x0:ByteArray):fnE qfo Tryz.f139 ([.s (.str x0)]) ([]) qfp=qTX x0:=by kernel_rfl
def qfn:HA:=fun o vs objs K=>match vs,objs with
 | [.s (.str x0)],[]=>ob (qTX x0) fun z=>K false (.tup [W.s (.i .i32 (z.1)),W.s (.i .i64 (z.2))]) ([])
 | _,_=>o 139 vs objs K
def qfq (o:Orc):Orc:=qJ 139 (qfn o) o
theorem quc:OQ Tryz.prog qfq:=fun _ ho=>qL ho fun vs objs K r h=>by
 unfold qfn at h
 split at h
 ·skip
  obtain⟨t,h1,h2⟩:=qE h
  refine qa mixed qub ((qua _).trans h1) (by kernel_rfl) fun v objs' hd=>?_
  unfold qfp at hd;split at hd;(cases hd;exact h2);cases hd
 ·exact ho _ _ _ _ _ h
def qTC:Ex->List V->List Obj->Option (ByteArray×Int×Nat×Nat×LL):=fun e vs objs=>match e,vs,objs with
 | .exit 0,[.s (.str y0),.s (.i .i64 y1),.s (.sl 0 0 y2 true)],[.sli 9 false (.rows [CK.s] y3 y4)]=>some (y0,y1,y2,y3,y4)
 | _,_,_=>none
def qTE:HL:=fun vs objs K=>match vs,objs with
 | [.s (.str x0),.s (.i .i64 x1),.s (.sl 0 0 x2 true),.s (.i .i64 x3)],[.sli 9 false (.rows [CK.s] x4 x5)]=>ob (qIh qB x0 x1 x2 x3 x4 x5) fun z=>K (.exit 0) ([.s (.str (z.1)),.s (.i .i64 (z.2.1)),.s (.sl 0 0 (z.2.2.1) true)]) ([.sli 9 false (.rows [CK.s] (z.2.2.2.1) (z.2.2.2.2))])
 | _,_=>none
def qt0:{R:Type}->Nat->List V->List Obj->(Ex->List V->List Obj->Option R)->Option R:=fun q vs objs K=>bif Nat.beq q 6 then qTE vs objs K else none
def qM0:Ctx:=mkC 50 ((qfq (qTa qI))) [(6,[0,1,6,7],[0,1,6])] qt0
theorem qfG:CtxOK Tryz.prog qM0:=mkC_ok ((quc _ (qfw _ qK)))
def qTD (f:Nat) (x0:ByteArray) (x1:Int) (x2:Nat) (x3:Int) (x4:Nat) (x5:LL):Option (ByteArray×Int×Nat×Nat×LL):=qf qM0 0 [0,1,6,7] [0,1,6] (qD Tryz.f108 6) f ([.s (.str x0),.s (.i .i64 x1),.s (.sl 0 0 x2 true),.s (.i .i64 x3)]) ([.sli 9 false (.rows [CK.s] x4 x5)]) qTC
theorem qtz (f:Nat) (x0:ByteArray) (x1:Int) (x2:Nat) (x3:Int) (x4:Nat) (x5:LL):qTD (f+1) x0 x1 x2 x3 x4 x5=qfJ (qTD f) x0 x1 x2 x3 x4 x5:=by kernel_rfl
theorem qfI:∀ f,qTD f=qIh f
 | 0=>rfl
 | f+1=>by funext x0 x1 x2 x3 x4 x5;rw[qtz,qfI f];rfl
theorem qt2:qZ Tryz.prog qM0 0 (qD Tryz.f108 6):=
 qg mixed qfG (qM.of (l':=[]) (by kernel_rfl) trivial) (q:=6) (kin:=[0,1,6,7]) (kout:=[0,1,6]) (by kernel_rfl) (by kernel_rfl) fun vs objs K r h=>by
  replace h:qTE vs objs K=some r:=h
  unfold qTE at h
  split at h
  ·skip
   obtain⟨t,h1,h2⟩:=qE h
   rw[<- qfI] at h1
   refine⟨_,qTC,t,qB,h1,fun e vs' objs' hd=>?_⟩
   unfold qTC at hd;split at hd;(cases hd;exact h2);cases hd
  ·cases h
def qfH:V->List Obj->Option (Nat×Nat×LL):=fun v objs=>match v,objs with
 | .s (.sl 0 0 y0 true),[.sli 9 false (.rows [CK.s] y1 y2)]=>some (y0,y1,y2)
 | _,_=>none
theorem qty (x0:ByteArray) (x1:Int):fnE qM0 Tryz.f108 ([.s (.str x0),.s (.i .i64 x1)]) ([]) qfH=qTB x0 x1:=by kernel_rfl
def qfF:HA:=fun o vs objs K=>match vs,objs with
 | [.s (.str x0),.s (.i .i64 x1)],[]=>ob (qTB x0 x1) fun z=>K false (.s (.sl 0 0 (z.1) true)) ([.sli 9 false (.rows [CK.s] (z.2.1) (z.2.2))])
 | _,_=>o 108 vs objs K
def qfK (o:Orc):Orc:=qJ 108 (qfF o) o
theorem qt1:OQ Tryz.prog qfK:=fun _ ho=>qL ho fun vs objs K r h=>by
 unfold qfF at h
 split at h
 ·skip
  obtain⟨t,h1,h2⟩:=qE h
  refine q7 mixed qfG (fn:=Tryz.f108) (b:=(Tryz.f108).body.getD .skip) (by kernel_rfl) (by kernel_rfl) (by kernel_rfl) ((qty _ _).trans h1) (m:=0) rfl (qM.of (l':=[qD Tryz.f108 6]) (by kernel_rfl) ⟨qt2,trivial⟩) fun v objs' hd=>?_
  unfold qfH at hd;split at hd;(cases hd;exact h2);cases hd
 ·exact ho _ _ _ _ _ h
end
end Go.Kk.KkLP
