/- Printed by a tool of this project (KkGen): the program's functions come to the plain ones. -/
import Derived.Test.YtpppdecfohkkfaaGreatDoorKkLP
namespace Go.Kk.KkLP
noncomputable section
open Go.Proofs Go.Kk.Pl
set_option maxRecDepth 100000
set_option maxHeartbeats 4000000
def qdV:Ctx:=mkC 6 (qI) [] qU
theorem qsG:CtxOK Tryz.prog qdV:=mkC_ok (qK)
def qdW:V->List Obj->Option (Bool):=fun v objs=>match v,objs with
 | .s (.b y0),[]=>some (y0)
 | _,_=>none
theorem qsF (x0 x1:Int):fnE qdV Tryz.f84 ([.agg [.one [.i .u64 x0,.i .u64 x1]]]) ([]) qdW=qEh x0 x1:=by kernel_rfl
def qdU:HA:=fun o vs objs K=>match vs,objs with
 | [.agg [.one [.i .u64 x0,.i .u64 x1]]],[]=>ob (qEh x0 x1) fun y0=>K false (.s (.b y0)) ([])
 | _,_=>o 84 vs objs K
def qIU (o:Orc):Orc:=qJ 84 (qdU o) o
theorem qJw:OQ Tryz.prog qIU:=fun _ ho=>qL ho fun vs objs K r h=>by
 unfold qdU at h
 split at h
 ·skip
  obtain⟨t,h1,h2⟩:=qE h
  refine qa mixed qsG ((qsF _ _).trans h1) (by kernel_rfl) fun v objs' hd=>?_
  unfold qdW at hd;split at hd;(cases hd;exact h2);cases hd
 ·exact ho _ _ _ _ _ h
def qde:Ctx:=mkC 11 ((qIU (qFp (qMm qI)))) [] qU
theorem qsM:CtxOK Tryz.prog qde:=mkC_ok ((qJw _ (qGj _ (qSj _ qK))))
def qdf:V->List Obj->Option (Bool):=fun v objs=>match v,objs with
 | .s (.b y0),[]=>some (y0)
 | _,_=>none
theorem qsL (x0 x1 x2:Int):fnE qde Tryz.f133 ([.agg [.one [.i .u64 x0,.i .u64 x1]],.s (.i .i64 x2)]) ([]) qdf=qCK x0 x1 x2:=by kernel_rfl
def qdd:HA:=fun o vs objs K=>match vs,objs with
 | [.agg [.one [.i .u64 x0,.i .u64 x1]],.s (.i .i64 x2)],[]=>ob (qCK x0 x1 x2) fun y0=>K false (.s (.b y0)) ([])
 | _,_=>o 133 vs objs K
def qGn (o:Orc):Orc:=qJ 133 (qdd o) o
theorem qIV:OQ Tryz.prog qGn:=fun _ ho=>qL ho fun vs objs K r h=>by
 unfold qdd at h
 split at h
 ·skip
  obtain⟨t,h1,h2⟩:=qE h
  refine qa mixed qsM ((qsL _ _ _).trans h1) (by kernel_rfl) fun v objs' hd=>?_
  unfold qdf at hd;split at hd;(cases hd;exact h2);cases hd
 ·exact ho _ _ _ _ _ h
def qQo:Ex->List V->List Obj->Option (Int×Int×Int×Int):=fun e vs objs=>match e,vs,objs with
 | .exit 0,[.s (.ptr 0 0 none 0),.s (.ptr 1 0 none 0)],[.cells 68 [.one [.i .u64 y0,.i .u64 y1]],.cells 68 [.one [.i .u64 y2,.i .u64 y3]]]=>some (y0,y1,y2,y3)
 | _,_,_=>none
def qQr:HL:=fun vs objs K=>match vs,objs with
 | [.s (.i .i64 x0),.s (.ptr 0 0 none 0),.s (.ptr 1 0 none 0),.s (.ptr 2 0 none 0),.s (.ptr 3 0 none 0)],[.cells 164 [.one [.i .i64 x1,.i .i64 x2]],.cells 68 [.one [.i .u64 x3,.i .u64 x4]],.cells 68 [.one [.i .u64 x5,.i .u64 x6]],.cells 68 [.one [.i .u64 x7,.i .u64 x8]]]=>ob (qGY qB x0 x1 x2 x3 x4 x5 x6 x7 x8) fun z=>K (.exit 0) ([.s (.ptr 0 0 none 0),.s (.ptr 1 0 none 0)]) ([.cells 68 [.one [.i .u64 (z.1),.i .u64 (z.2.1)]],.cells 68 [.one [.i .u64 (z.2.2.1),.i .u64 (z.2.2.2)]]])
 | _,_=>none
def qpJ:{R:Type}->Nat->List V->List Obj->(Ex->List V->List Obj->Option R)->Option R:=fun q vs objs K=>bif Nat.beq q 5 then qQr vs objs K else none
def qL7:Ctx:=mkC 27 ((qGn (qEj (qSs qI)))) [(5,[0,4,5,6,7],[6,7])] qpJ
theorem qaY:CtxOK Tryz.prog qL7:=mkC_ok ((qIV _ (qFt _ (qea _ qK))))
def qQp (f:Nat) (x0 x1:Int) (x2 x3:Int) (x4 x5:Int) (x6 x7 x8:Int):Option (Int×Int×Int×Int):=qf qL7 0 [0,4,5,6,7] [6,7] (qD Tryz.f147 5) f ([.s (.i .i64 x0),.s (.ptr 0 0 none 0),.s (.ptr 1 0 none 0),.s (.ptr 2 0 none 0),.s (.ptr 3 0 none 0)]) ([.cells 164 [.one [.i .i64 x1,.i .i64 x2]],.cells 68 [.one [.i .u64 x3,.i .u64 x4]],.cells 68 [.one [.i .u64 x5,.i .u64 x6]],.cells 68 [.one [.i .u64 x7,.i .u64 x8]]]) qQo
theorem qpI (f:Nat) (x0 x1:Int) (x2 x3:Int) (x4 x5:Int) (x6 x7 x8:Int):qQp (f+1) x0 x1 x2 x3 x4 x5 x6 x7 x8=qH6 (qQp f) x0 x1 x2 x3 x4 x5 x6 x7 x8:=by kernel_rfl
theorem qaa:∀ f,qQp f=qGY f
 | 0=>rfl
 | f+1=>by funext x0 x1 x2 x3 x4 x5 x6 x7 x8;rw[qpI,qaa f];rfl
theorem qpK:qZ Tryz.prog qL7 0 (qD Tryz.f147 5):=
 qg mixed qaY (qM.of (l':=[]) (by kernel_rfl) trivial) (q:=5) (kin:=[0,4,5,6,7]) (kout:=[6,7]) (by kernel_rfl) (by kernel_rfl) fun vs objs K r h=>by
  replace h:qQr vs objs K=some r:=h
  unfold qQr at h
  split at h
  ·skip
   obtain⟨t,h1,h2⟩:=qE h
   rw[<- qaa] at h1
   refine⟨_,qQo,t,qB,h1,fun e vs' objs' hd=>?_⟩
   unfold qQo at hd;split at hd;(cases hd;exact h2);cases hd
  ·cases h
def qaZ:V->List Obj->Option (Int×Int):=fun v objs=>match v,objs with
 | .agg [.one [.i .u64 y0,.i .u64 y1]],[]=>some (y0,y1)
 | _,_=>none
theorem qpH (x0 x1:Int) (x2 x3 x4:Int):fnE qL7 Tryz.f147 ([.s (.i .i64 x0),.agg [.one [.i .i64 x1,.i .i64 x2]],.agg [.one [.i .u64 x3,.i .u64 x4]]]) ([]) qaZ=qH5 x0 x1 x2 x3 x4:=by kernel_rfl
def qaX:HA:=fun o vs objs K=>match vs,objs with
 | [.s (.i .i64 x0),.agg [.one [.i .i64 x1,.i .i64 x2]],.agg [.one [.i .u64 x3,.i .u64 x4]]],[]=>ob (qH5 x0 x1 x2 x3 x4) fun z=>K false (.agg [.one [.i .u64 (z.1),.i .u64 (z.2)]]) ([])
 | _,_=>o 147 vs objs K
def qQq (o:Orc):Orc:=qJ 147 (qaX o) o
theorem qab:OQ Tryz.prog qQq:=fun _ ho=>qL ho fun vs objs K r h=>by
 unfold qaX at h
 split at h
 ·skip
  obtain⟨t,h1,h2⟩:=qE h
  refine q7 mixed qaY (fn:=Tryz.f147) (b:=(Tryz.f147).body.getD .skip) (by kernel_rfl) (by kernel_rfl) (by kernel_rfl) ((qpH _ _ _ _ _).trans h1) (m:=0) rfl (qM.of (l':=[qD Tryz.f147 5]) (by kernel_rfl) ⟨qpK,trivial⟩) fun v objs' hd=>?_
  unfold qaZ at hd;split at hd;(cases hd;exact h2);cases hd
 ·exact ho _ _ _ _ _ h
def qQk:Ex->List V->List Obj->Option (Int×Int×Int×Int):=fun e vs objs=>match e,vs,objs with
 | .exit 0,[.s (.ptr 0 0 none 0),.s (.ptr 1 0 none 0)],[.cells 68 [.one [.i .u64 y0,.i .u64 y1]],.cells 68 [.one [.i .u64 y2,.i .u64 y3]]]=>some (y0,y1,y2,y3)
 | _,_,_=>none
def qQn:HL:=fun vs objs K=>match vs,objs with
 | [.s (.i .i8 x0),.s (.i .i64 x1),.s (.ptr 0 0 none 0),.s (.ptr 1 0 none 0),.s (.ptr 2 0 none 0),.s (.sl 3 0 x2 true),.s (.i .i64 x3),.s (.i .i64 x4)],[.cells 68 [.one [.i .u64 x5,.i .u64 x6]],.cells 68 [.one [.i .u64 x7,.i .u64 x8]],.cells 68 [.one [.i .u64 x9,.i .u64 x10]],.sli 164 false (.rows [.i .i64,.i .i64] x11 x12)]=>ob (qFY qB x0 x1 x2 x3 x4 x5 x6 x7 x8 x9 x10 x11 x12) fun z=>K (.exit 0) ([.s (.ptr 0 0 none 0),.s (.ptr 1 0 none 0)]) ([.cells 68 [.one [.i .u64 (z.1),.i .u64 (z.2.1)]],.cells 68 [.one [.i .u64 (z.2.2.1),.i .u64 (z.2.2.2)]]])
 | _,_=>none
def qpF:{R:Type}->Nat->List V->List Obj->(Ex->List V->List Obj->Option R)->Option R:=fun q vs objs K=>bif Nat.beq q 3 then qQn vs objs K else none
def qL5:Ctx:=mkC 32 ((qGo (qQq (qSt (qDp (qQj (qCy (qep qI)))))))) [(3,[0,1,5,6,7,15,16,17],[6,7])] qpF
theorem qaU:CtxOK Tryz.prog qL5:=mkC_ok ((qIZ _ (qab _ (qee _ (qEZ _ (qaS _ (qDG _ (qta _ qK))))))))
def qQl (f:Nat) (x0 x1:Int) (x2:Nat) (x3 x4:Int) (x5 x6:Int) (x7 x8:Int) (x9 x10:Int) (x11:Nat) (x12:LL):Option (Int×Int×Int×Int):=qf qL5 0 [0,1,5,6,7,15,16,17] [6,7] (qD Tryz.f130 3) f ([.s (.i .i8 x0),.s (.i .i64 x1),.s (.ptr 0 0 none 0),.s (.ptr 1 0 none 0),.s (.ptr 2 0 none 0),.s (.sl 3 0 x2 true),.s (.i .i64 x3),.s (.i .i64 x4)]) ([.cells 68 [.one [.i .u64 x5,.i .u64 x6]],.cells 68 [.one [.i .u64 x7,.i .u64 x8]],.cells 68 [.one [.i .u64 x9,.i .u64 x10]],.sli 164 false (.rows [.i .i64,.i .i64] x11 x12)]) qQk
theorem qpE (f:Nat) (x0 x1:Int) (x2:Nat) (x3 x4:Int) (x5 x6:Int) (x7 x8:Int) (x9 x10:Int) (x11:Nat) (x12:LL):qQl (f+1) x0 x1 x2 x3 x4 x5 x6 x7 x8 x9 x10 x11 x12=qH4 (qQl f) x0 x1 x2 x3 x4 x5 x6 x7 x8 x9 x10 x11 x12:=by kernel_rfl
theorem qaW:∀ f,qQl f=qFY f
 | 0=>rfl
 | f+1=>by funext x0 x1 x2 x3 x4 x5 x6 x7 x8 x9 x10 x11 x12;rw[qpE,qaW f];rfl
theorem qpG:qZ Tryz.prog qL5 0 (qD Tryz.f130 3):=
 qg mixed qaU (qM.of (l':=[]) (by kernel_rfl) trivial) (q:=3) (kin:=[0,1,5,6,7,15,16,17]) (kout:=[6,7]) (by kernel_rfl) (by kernel_rfl) fun vs objs K r h=>by
  replace h:qQn vs objs K=some r:=h
  unfold qQn at h
  split at h
  ·skip
   obtain⟨t,h1,h2⟩:=qE h
   rw[<- qaW] at h1
   refine⟨_,qQk,t,qB,h1,fun e vs' objs' hd=>?_⟩
   unfold qQk at hd;split at hd;(cases hd;exact h2);cases hd
  ·cases h
def qaV:V->List Obj->Option (Int×Int):=fun v objs=>match v,objs with
 | .agg [.one [.i .u64 y0,.i .u64 y1]],[]=>some (y0,y1)
 | _,_=>none
theorem qpD (x0 x1:Int) (x2 x3:Int):fnE qL5 Tryz.f130 ([.s (.i .i8 x0),.s (.i .i64 x1),.agg [.one [.i .u64 x2,.i .u64 x3]]]) ([]) qaV=qFX x0 x1 x2 x3:=by kernel_rfl
def qaT:HA:=fun o vs objs K=>match vs,objs with
 | [.s (.i .i8 x0),.s (.i .i64 x1),.agg [.one [.i .u64 x2,.i .u64 x3]]],[]=>ob (qFX x0 x1 x2 x3) fun z=>K false (.agg [.one [.i .u64 (z.1),.i .u64 (z.2)]]) ([])
 | _,_=>o 130 vs objs K
def qL6 (o:Orc):Orc:=qJ 130 (qaT o) o
theorem qQm:OQ Tryz.prog qL6:=fun _ ho=>qL ho fun vs objs K r h=>by
 unfold qaT at h
 split at h
 ·skip
  obtain⟨t,h1,h2⟩:=qE h
  refine q7 mixed qaU (fn:=Tryz.f130) (b:=(Tryz.f130).body.getD .skip) (by kernel_rfl) (by kernel_rfl) (by kernel_rfl) ((qpD _ _ _ _).trans h1) (m:=0) rfl (qM.of (l':=[qD Tryz.f130 3]) (by kernel_rfl) ⟨qpG,trivial⟩) fun v objs' hd=>?_
  unfold qaV at hd;split at hd;(cases hd;exact h2);cases hd
 ·exact ho _ _ _ _ _ h
def qNN:Ex->List V->List Obj->Option (LI×LI×Int×LL×LL×Int×Int×Int×Int):=fun e vs objs=>match e,vs,objs with
 | .exit 0,[.s (.ptr 1 0 none 0),.s (.ptr 2 0 none 0)],[.rcells 72 [.arr .i8 81 y0,.arr .i8 16 y1,.one [.i .i8 y2],.rows [.i .u64,.i .u64] 32 y3,.rows [.i .u64,.i .u64] 2 y4],.cells 68 [.one [.i .u64 y5,.i .u64 y6]],.cells 68 [.one [.i .u64 y7,.i .u64 y8]]]=>some (y0,y1,y2,y3,y4,y5,y6,y7,y8)
 | _,_,_=>none
def qNQ:HL:=fun vs objs K=>match vs,objs with
 | [.s (.ptr 0 0 none 0),.s (.i .i64 x0),.s (.i .i64 x1),.s (.ptr 1 0 none 0),.s (.ptr 2 0 none 0),.s (.ptr 3 0 none 0),.s (.i .i64 x2)],[.rcells 72 [.arr .i8 81 x3,.arr .i8 16 x4,.one [.i .i8 x5],.rows [.i .u64,.i .u64] 32 x6,.rows [.i .u64,.i .u64] 2 x7],.cells 68 [.one [.i .u64 x8,.i .u64 x9]],.cells 68 [.one [.i .u64 x10,.i .u64 x11]],.cells 68 [.one [.i .u64 x12,.i .u64 x13]]]=>ob (qEI qB x0 x1 x2 x3 x4 x5 x6 x7 x8 x9 x10 x11 x12 x13) fun z=>K (.exit 0) ([.s (.ptr 1 0 none 0),.s (.ptr 2 0 none 0)]) ([.rcells 72 [.arr .i8 81 (z.1),.arr .i8 16 (z.2.1),.one [.i .i8 (z.2.2.1)],.rows [.i .u64,.i .u64] 32 (z.2.2.2.1),.rows [.i .u64,.i .u64] 2 (z.2.2.2.2.1)],.cells 68 [.one [.i .u64 (z.2.2.2.2.2.1),.i .u64 (z.2.2.2.2.2.2.1)]],.cells 68 [.one [.i .u64 (z.2.2.2.2.2.2.2.1),.i .u64 (z.2.2.2.2.2.2.2.2)]]])
 | _,_=>none
def qgv:{R:Type}->Nat->List V->List Obj->(Ex->List V->List Obj->Option R)->Option R:=fun q vs objs K=>bif Nat.beq q 5 then qNQ vs objs K else none
def qKO:Ctx:=mkC 49 ((qGo (qFp (qF8 (qL6 (qDo qI)))))) [(5,[0,1,2,7,8,9,10],[8,9])] qgv
theorem qT2:CtxOK Tryz.prog qKO:=mkC_ok ((qIZ _ (qGj _ (qHA _ (qQm _ (qEY _ qK))))))
def qNO (f:Nat) (x0 x1 x2:Int) (x3 x4:LI) (x5:Int) (x6 x7:LL) (x8 x9:Int) (x10 x11:Int) (x12 x13:Int):Option (LI×LI×Int×LL×LL×Int×Int×Int×Int):=qf qKO 1 [0,1,2,7,8,9,10] [8,9] (qD Tryz.f111 5) f ([.s (.ptr 0 0 none 0),.s (.i .i64 x0),.s (.i .i64 x1),.s (.ptr 1 0 none 0),.s (.ptr 2 0 none 0),.s (.ptr 3 0 none 0),.s (.i .i64 x2)]) ([.rcells 72 [.arr .i8 81 x3,.arr .i8 16 x4,.one [.i .i8 x5],.rows [.i .u64,.i .u64] 32 x6,.rows [.i .u64,.i .u64] 2 x7],.cells 68 [.one [.i .u64 x8,.i .u64 x9]],.cells 68 [.one [.i .u64 x10,.i .u64 x11]],.cells 68 [.one [.i .u64 x12,.i .u64 x13]]]) qNN
theorem qgu (f:Nat) (x0 x1 x2:Int) (x3 x4:LI) (x5:Int) (x6 x7:LL) (x8 x9:Int) (x10 x11:Int) (x12 x13:Int):qNO (f+1) x0 x1 x2 x3 x4 x5 x6 x7 x8 x9 x10 x11 x12 x13=qG3 (qNO f) x0 x1 x2 x3 x4 x5 x6 x7 x8 x9 x10 x11 x12 x13:=by kernel_rfl
theorem qT4:∀ f,qNO f=qEI f
 | 0=>rfl
 | f+1=>by funext x0 x1 x2 x3 x4 x5 x6 x7 x8 x9 x10 x11 x12 x13;rw[qgu,qT4 f];rfl
theorem qgw:qZ Tryz.prog qKO 1 (qD Tryz.f111 5):=
 qg mixed qT2 (qM.of (l':=[]) (by kernel_rfl) trivial) (q:=5) (kin:=[0,1,2,7,8,9,10]) (kout:=[8,9]) (by kernel_rfl) (by kernel_rfl) fun vs objs K r h=>by
  replace h:qNQ vs objs K=some r:=h
  unfold qNQ at h
  split at h
  ·skip
   obtain⟨t,h1,h2⟩:=qE h
   rw[<- qT4] at h1
   refine⟨_,qNN,t,qB,h1,fun e vs' objs' hd=>?_⟩
   unfold qNN at hd;split at hd;(cases hd;exact h2);cases hd
  ·cases h
def qT3:V->List Obj->Option (Int×Int):=fun v objs=>match v,objs with
 | .agg [.one [.i .u64 y0,.i .u64 y1]],[]=>some (y0,y1)
 | _,_=>none
theorem qgt (x0 x1:Int) (x2 x3:Int) (x4 x5:LI) (x6:Int) (x7 x8:LL):fnE qKO Tryz.f111 ([.s (.ptr 0 0 none 0),.s (.i .i64 x0),.s (.i .i64 x1),.agg [.one [.i .u64 x2,.i .u64 x3]]]) ([.rcells 72 [.arr .i8 81 x4,.arr .i8 16 x5,.one [.i .i8 x6],.rows [.i .u64,.i .u64] 32 x7,.rows [.i .u64,.i .u64] 2 x8]]) (qAM 1 qT3)=qG2 x0 x1 x2 x3 x4 x5 x6 x7 x8:=by kernel_rfl
def qT1:HA:=fun o vs objs K=>match vs,List.map Obj.toRO objs with
 | [.s (.ptr 0 0 none 0),.s (.i .i64 x0),.s (.i .i64 x1),.agg [.one [.i .u64 x2,.i .u64 x3]]],[.rcells 72 [.arr .i8 81 x4,.arr .i8 16 x5,.one [.i .i8 x6],.rows [.i .u64,.i .u64] 32 x7,.rows [.i .u64,.i .u64] 2 x8]]=>ob (qG2 x0 x1 x2 x3 x4 x5 x6 x7 x8) fun z=>K true (.agg [.one [.i .u64 (z.1),.i .u64 (z.2)]]) ([])
 | _,_=>o 111 vs objs K
def qNP (o:Orc):Orc:=qJ 111 (qT1 o) o
theorem qT5:OQ Tryz.prog qNP:=fun _ ho=>qL ho fun vs objs K r h=>by
 unfold qT1 at h
 split at h
 ·skip
  have hq:List.map Obj.toRO objs=_:=(by rename_i hq;first | exact hq | assumption)
  obtain⟨t,h1,h2⟩:=qE h
  refine qAj mixed qT2 (m:=1) (fn:=Tryz.f111) (b:=(Tryz.f111).body.getD .skip) (by kernel_rfl) (by kernel_rfl) (by kernel_rfl) hq (by kernel_rfl) (by kernel_rfl) (qM.of (l':=[qD Tryz.f111 5]) (by kernel_rfl) ⟨qgw,trivial⟩) ((qgt _ _ _ _ _ _ _ _ _).trans h1) fun v objs' hd=>?_
  unfold qT3 at hd;split at hd;(cases hd;exact h2);cases hd
 ·exact ho _ _ _ _ _ h
def qTu:Ctx:=mkC 14 ((qNP (qHC (qKW qI)))) [] qU
theorem qgo:CtxOK Tryz.prog qTu:=mkC_ok ((qT5 _ (qIz _ (qNu _ qK))))
def qTv:V->List Obj->Option (Int×Int):=fun v objs=>match v,objs with
 | .agg [.one [.i .u64 y0,.i .u64 y1]],[]=>some (y0,y1)
 | _,_=>none
theorem qgn (x0:Int) (x1 x2:LI) (x3:Int) (x4 x5:LL):fnE qTu Tryz.f83 ([.s (.ptr 0 0 none 0),.s (.i .i64 x0)]) ([.rcells 72 [.arr .i8 81 x1,.arr .i8 16 x2,.one [.i .i8 x3],.rows [.i .u64,.i .u64] 32 x4,.rows [.i .u64,.i .u64] 2 x5]]) (qAM 1 qTv)=qF2 x0 x1 x2 x3 x4 x5:=by kernel_rfl
def qTt:HA:=fun o vs objs K=>match vs,List.map Obj.toRO objs with
 | [.s (.ptr 0 0 none 0),.s (.i .i64 x0)],[.rcells 72 [.arr .i8 81 x1,.arr .i8 16 x2,.one [.i .i8 x3],.rows [.i .u64,.i .u64] 32 x4,.rows [.i .u64,.i .u64] 2 x5]]=>ob (qF2 x0 x1 x2 x3 x4 x5) fun z=>K true (.agg [.one [.i .u64 (z.1),.i .u64 (z.2)]]) ([])
 | _,_=>o 83 vs objs K
def qKN (o:Orc):Orc:=qJ 83 (qTt o) o
theorem qNM:OQ Tryz.prog qKN:=fun _ ho=>qL ho fun vs objs K r h=>by
 unfold qTt at h
 split at h
 ·skip
  have hq:List.map Obj.toRO objs=_:=(by rename_i hq;first | exact hq | assumption)
  obtain⟨t,h1,h2⟩:=qE h
  refine qAj mixed qgo (m:=1) (fn:=Tryz.f83) (b:=(Tryz.f83).body.getD .skip) (by kernel_rfl) (by kernel_rfl) (by kernel_rfl) hq (by kernel_rfl) (by kernel_rfl) (qM.of (l':=[]) (by kernel_rfl) trivial) ((qgn _ _ _ _ _ _).trans h1) fun v objs' hd=>?_
  unfold qTv at hd;split at hd;(cases hd;exact h2);cases hd
 ·exact ho _ _ _ _ _ h
def qTy:Ctx:=mkC 10 ((qIU (qKN qI))) [] qU
theorem qgr:CtxOK Tryz.prog qTy:=mkC_ok ((qJw _ (qNM _ qK)))
def qTz:V->List Obj->Option (Bool):=fun v objs=>match v,objs with
 | .s (.b y0),[]=>some (y0)
 | _,_=>none
theorem qgq (x0:Int) (x1 x2:LI) (x3:Int) (x4 x5:LL):fnE qTy Tryz.f41 ([.s (.ptr 0 0 none 0),.s (.i .i64 x0)]) ([.rcells 72 [.arr .i8 81 x1,.arr .i8 16 x2,.one [.i .i8 x3],.rows [.i .u64,.i .u64] 32 x4,.rows [.i .u64,.i .u64] 2 x5]]) (qAM 1 qTz)=qIv x0 x1 x2 x3 x4 x5:=by kernel_rfl
def qTx:HA:=fun o vs objs K=>match vs,List.map Obj.toRO objs with
 | [.s (.ptr 0 0 none 0),.s (.i .i64 x0)],[.rcells 72 [.arr .i8 81 x1,.arr .i8 16 x2,.one [.i .i8 x3],.rows [.i .u64,.i .u64] 32 x4,.rows [.i .u64,.i .u64] 2 x5]]=>ob (qIv x0 x1 x2 x3 x4 x5) fun y0=>K true (.s (.b y0)) ([])
 | _,_=>o 41 vs objs K
def qT0 (o:Orc):Orc:=qJ 41 (qTx o) o
theorem qgs:OQ Tryz.prog qT0:=fun _ ho=>qL ho fun vs objs K r h=>by
 unfold qTx at h
 split at h
 ·skip
  have hq:List.map Obj.toRO objs=_:=(by rename_i hq;first | exact hq | assumption)
  obtain⟨t,h1,h2⟩:=qE h
  refine qAj mixed qgr (m:=1) (fn:=Tryz.f41) (b:=(Tryz.f41).body.getD .skip) (by kernel_rfl) (by kernel_rfl) (by kernel_rfl) hq (by kernel_rfl) (by kernel_rfl) (qM.of (l':=[]) (by kernel_rfl) trivial) ((qgq _ _ _ _ _ _).trans h1) fun v objs' hd=>?_
  unfold qTz at hd;split at hd;(cases hd;exact h2);cases hd
 ·exact ho _ _ _ _ _ h
def qTr:Ctx:=mkC 16 ((qT0 (qKY (qUU qI)))) [] qU
theorem qgm:CtxOK Tryz.prog qTr:=mkC_ok ((qgs _ (qNx _ (qha _ qK))))
def qTs:V->List Obj->Option (Int):=fun v objs=>match v,objs with
 | .s (.i .i64 y0),[]=>some (y0)
 | _,_=>none
theorem qgl (x0 x1:LI) (x2:Int):fnE qTr Tryz.f23 ([.agg [.arr .i8 81 x0,.arr .i8 16 x1,.one [.i .i8 x2]]]) ([]) qTs=qIu x0 x1 x2:=by kernel_rfl
def qTq:HA:=fun o vs objs K=>match vs,objs with
 | [.agg [.arr .i8 81 x0,.arr .i8 16 x1,.one [.i .i8 x2]]],[]=>ob (qIu x0 x1 x2) fun y0=>K false (.s (.i .i64 y0)) ([])
 | _,_=>o 23 vs objs K
def qTw (o:Orc):Orc:=qJ 23 (qTq o) o
theorem qgp:OQ Tryz.prog qTw:=fun _ ho=>qL ho fun vs objs K r h=>by
 unfold qTq at h
 split at h
 ·skip
  obtain⟨t,h1,h2⟩:=qE h
  refine qa mixed qgm ((qgl _ _ _).trans h1) (by kernel_rfl) fun v objs' hd=>?_
  unfold qTs at hd;split at hd;(cases hd;exact h2);cases hd
 ·exact ho _ _ _ _ _ h
def qXY:Ctx:=mkC 19 (qI) [] qU
theorem qlI:CtxOK Tryz.prog qXY:=mkC_ok (qK)
def qXZ:V->List Obj->Option (Int):=fun v objs=>match v,objs with
 | .s (.i .u64 y0),[]=>some (y0)
 | _,_=>none
theorem qlH (x0:Int):fnE qXY Tryz.f123 ([.s (.i .u64 x0)]) ([]) qXZ=qDm x0:=by kernel_rfl
def qXX:HA:=fun o vs objs K=>match vs,objs with
 | [.s (.i .u64 x0)],[]=>ob (qDm x0) fun y0=>K false (.s (.i .u64 y0)) ([])
 | _,_=>o 123 vs objs K
def qK9 (o:Orc):Orc:=qJ 123 (qXX o) o
theorem qPM:OQ Tryz.prog qK9:=fun _ ho=>qL ho fun vs objs K r h=>by
 unfold qXX at h
 split at h
 ·skip
  obtain⟨t,h1,h2⟩:=qE h
  refine qa mixed qlI ((qlH _).trans h1) (by kernel_rfl) fun v objs' hd=>?_
  unfold qXZ at hd;split at hd;(cases hd;exact h2);cases hd
 ·exact ho _ _ _ _ _ h
def qXN:Ctx:=mkC 23 ((qK9 (qCy qI))) [] qU
theorem qlE:CtxOK Tryz.prog qXN:=mkC_ok ((qPM _ (qDG _ qK)))
def qXO:V->List Obj->Option (Int):=fun v objs=>match v,objs with
 | .s (.i .u64 y0),[]=>some (y0)
 | _,_=>none
theorem qlD (x0 x1:Int):fnE qXN Tryz.f92 ([.s (.i .i64 x0),.s (.i .i8 x1)]) ([]) qXO=qCF x0 x1:=by kernel_rfl
def qXM:HA:=fun o vs objs K=>match vs,objs with
 | [.s (.i .i64 x0),.s (.i .i8 x1)],[]=>ob (qCF x0 x1) fun y0=>K false (.s (.i .u64 y0)) ([])
 | _,_=>o 92 vs objs K
def qPK (o:Orc):Orc:=qJ 92 (qXM o) o
theorem qXP:OQ Tryz.prog qPK:=fun _ ho=>qL ho fun vs objs K r h=>by
 unfold qXM at h
 split at h
 ·skip
  obtain⟨t,h1,h2⟩:=qE h
  refine qa mixed qlE ((qlD _ _).trans h1) (by kernel_rfl) fun v objs' hd=>?_
  unfold qXO at hd;split at hd;(cases hd;exact h2);cases hd
 ·exact ho _ _ _ _ _ h
def qXD:Ctx:=mkC 41 ((qK9 qI)) [] qU
theorem qk3:CtxOK Tryz.prog qXD:=mkC_ok ((qPM _ qK))
def qXE:V->List Obj->Option (Int):=fun v objs=>match v,objs with
 | .s (.i .u64 y0),[]=>some (y0)
 | _,_=>none
theorem qk2 (x0 x1 x2:Int):fnE qXD Tryz.f93 ([.s (.i .i64 x0),.s (.i .i64 x1),.s (.i .i64 x2)]) ([]) qXE=qCt x0 x1 x2:=by kernel_rfl
def qXC:HA:=fun o vs objs K=>match vs,objs with
 | [.s (.i .i64 x0),.s (.i .i64 x1),.s (.i .i64 x2)],[]=>ob (qCt x0 x1 x2) fun y0=>K false (.s (.i .u64 y0)) ([])
 | _,_=>o 93 vs objs K
def qPA (o:Orc):Orc:=qJ 93 (qXC o) o
theorem qXF:OQ Tryz.prog qPA:=fun _ ho=>qL ho fun vs objs K r h=>by
 unfold qXC at h
 split at h
 ·skip
  obtain⟨t,h1,h2⟩:=qE h
  refine qa mixed qk3 ((qk2 _ _ _).trans h1) (by kernel_rfl) fun v objs' hd=>?_
  unfold qXE at hd;split at hd;(cases hd;exact h2);cases hd
 ·exact ho _ _ _ _ _ h
def qXR:Ctx:=mkC 2 ((qK9 qI)) [] qU
theorem qlG:CtxOK Tryz.prog qXR:=mkC_ok ((qPM _ qK))
def qXS:V->List Obj->Option (Int):=fun v objs=>match v,objs with
 | .s (.i .u64 y0),[]=>some (y0)
 | _,_=>none
theorem qlF:fnE qXR Tryz.f94 ([]) ([]) qXS=qCv  := by kernel_rfl
def qXQ:HA:=fun o vs objs K=>match vs,objs with
 | [],[]=>ob (qCv ) fun y0=>K false (.s (.i .u64 y0)) ([])
 | _,_=>o 94 vs objs K
def qPL (o:Orc):Orc:=qJ 94 (qXQ o) o
theorem qXT:OQ Tryz.prog qPL:=fun _ ho=>qL ho fun vs objs K r h=>by
 unfold qXQ at h
 split at h
 ·skip
  obtain⟨t,h1,h2⟩:=qE h
  refine qa mixed qlG ((qlF).trans h1) (by kernel_rfl) fun v objs' hd=>?_
  unfold qXS at hd;split at hd;(cases hd;exact h2);cases hd
 ·exact ho _ _ _ _ _ h
def qPD:Ex->List V->List Obj->Option (Int×LI×LI×Int):=fun e vs objs=>match e,vs,objs with
 | .exit 0,[.s (.ptr 0 0 none 0),.s (.i .u64 y0)],[.cells 28 [.arr .i8 81 y1,.arr .i8 16 y2,.one [.i .i8 y3]]]=>some (y0,y1,y2,y3)
 | _,_,_=>none
def qPB:Ex->List V->List Obj->Option (Int×LI×Int×LI×LI×Int):=fun e vs objs=>match e,vs,objs with
 | .exit 4,[.s (.ptr 0 0 none 0),.s (.i .u64 y0),.agg [.arr .i8 16 y1],.s (.i .i64 y2)],[.cells 28 [.arr .i8 81 y3,.arr .i8 16 y4,.one [.i .i8 y5]]]=>some (y0,y1,y2,y3,y4,y5)
 | _,_,_=>none
def qPF:Ex->List V->List Obj->Option (Int×LI×LI×Int):=fun e vs objs=>match e,vs,objs with
 | .exit 2,[.s (.ptr 0 0 none 0),.s (.i .u64 y0)],[.cells 28 [.arr .i8 81 y1,.arr .i8 16 y2,.one [.i .i8 y3]]]=>some (y0,y1,y2,y3)
 | _,_,_=>none
def qPI:HL:=fun vs objs K=>match vs,objs with
 | [.s (.ptr 0 0 none 0),.s (.i .u64 x0),.agg [.arr .i8 81 x1],.s (.i .i64 x2)],[.cells 28 [.arr .i8 81 x3,.arr .i8 16 x4,.one [.i .i8 x5]]]=>ob (qCV qB x0 x1 x2 x3 x4 x5) fun z=>K (.exit 0) ([.s (.ptr 0 0 none 0),.s (.i .u64 (z.1))]) ([.cells 28 [.arr .i8 81 (z.2.1),.arr .i8 16 (z.2.2.1),.one [.i .i8 (z.2.2.2)]]])
 | _,_=>none
def qPH:HL:=fun vs objs K=>match vs,objs with
 | [.s (.ptr 0 0 none 0),.s (.i .u64 x0),.s (.i .i64 x1),.agg [.arr .i8 16 x2],.s (.i .i64 x3),.agg [.arr .i8 8 x4],.s (.i .i64 x5)],[.cells 28 [.arr .i8 81 x6,.arr .i8 16 x7,.one [.i .i8 x8]]]=>ob (qCu qB x0 x1 x2 x3 x4 x5 x6 x7 x8) fun z=>K (.exit 4) ([.s (.ptr 0 0 none 0),.s (.i .u64 (z.1)),.agg [.arr .i8 16 (z.2.1)],.s (.i .i64 (z.2.2.1))]) ([.cells 28 [.arr .i8 81 (z.2.2.2.1),.arr .i8 16 (z.2.2.2.2.1),.one [.i .i8 (z.2.2.2.2.2)]]])
 | _,_=>none
def qPJ:HL:=fun vs objs K=>match vs,objs with
 | [.s (.ptr 0 0 none 0),.s (.i .u64 x0),.agg [.arr .i8 16 x1],.s (.i .i64 x2)],[.cells 28 [.arr .i8 81 x3,.arr .i8 16 x4,.one [.i .i8 x5]]]=>ob (qBy qB x0 x1 x2 x3 x4 x5) fun z=>K (.exit 2) ([.s (.ptr 0 0 none 0),.s (.i .u64 (z.1))]) ([.cells 28 [.arr .i8 81 (z.2.1),.arr .i8 16 (z.2.2.1),.one [.i .i8 (z.2.2.2)]]])
 | _,_=>none
def qk8:{R:Type}->Nat->List V->List Obj->(Ex->List V->List Obj->Option R)->Option R:=fun q vs objs K=>bif Nat.beq q 3 then qPI vs objs K else bif Nat.beq q 11 then qPH vs objs K else bif Nat.beq q 8 then qPJ vs objs K else none
def qFK:Ctx:=mkC 49 ((qPL (qPA (qPK qI)))) [(3,[1,3,11,12],[1,3]),(8,[1,3,23,24],[1,3]),(11,[1,3,6,23,24,28,29],[1,3,23,24])] qk8
theorem qK8:CtxOK Tryz.prog qFK:=mkC_ok ((qXT _ (qXF _ (qXP _ qK))))
def qPE (f:Nat) (x0:Int) (x1:LI) (x2:Int) (x3 x4:LI) (x5:Int):Option (Int×LI×LI×Int):=qf qFK 0 [1,3,11,12] [1,3] (qD Tryz.f53 3) f ([.s (.ptr 0 0 none 0),.s (.i .u64 x0),.agg [.arr .i8 81 x1],.s (.i .i64 x2)]) ([.cells 28 [.arr .i8 81 x3,.arr .i8 16 x4,.one [.i .i8 x5]]]) qPD
theorem qk6 (f:Nat) (x0:Int) (x1:LI) (x2:Int) (x3 x4:LI) (x5:Int):qPE (f+1) x0 x1 x2 x3 x4 x5=qDk (qPE f) x0 x1 x2 x3 x4 x5:=by kernel_rfl
theorem qXJ:∀ f,qPE f=qCV f
 | 0=>rfl
 | f+1=>by funext x0 x1 x2 x3 x4 x5;rw[qk6,qXJ f];rfl
def qPC (f:Nat) (x0 x1:Int) (x2:LI) (x3:Int) (x4:LI) (x5:Int) (x6 x7:LI) (x8:Int):Option (Int×LI×Int×LI×LI×Int):=qf qFK 0 [1,3,6,23,24,28,29] [1,3,23,24] (qD Tryz.f53 11) f ([.s (.ptr 0 0 none 0),.s (.i .u64 x0),.s (.i .i64 x1),.agg [.arr .i8 16 x2],.s (.i .i64 x3),.agg [.arr .i8 8 x4],.s (.i .i64 x5)]) ([.cells 28 [.arr .i8 81 x6,.arr .i8 16 x7,.one [.i .i8 x8]]]) qPB
theorem qk5 (f:Nat) (x0 x1:Int) (x2:LI) (x3:Int) (x4:LI) (x5:Int) (x6 x7:LI) (x8:Int):qPC (f+1) x0 x1 x2 x3 x4 x5 x6 x7 x8=qDj (qPC f) x0 x1 x2 x3 x4 x5 x6 x7 x8:=by kernel_rfl
theorem qXI:∀ f,qPC f=qCu f
 | 0=>rfl
 | f+1=>by funext x0 x1 x2 x3 x4 x5 x6 x7 x8;rw[qk5,qXI f];rfl
def qPG (f:Nat) (x0:Int) (x1:LI) (x2:Int) (x3 x4:LI) (x5:Int):Option (Int×LI×LI×Int):=qf qFK 0 [1,3,23,24] [1,3] (qD Tryz.f53 8) f ([.s (.ptr 0 0 none 0),.s (.i .u64 x0),.agg [.arr .i8 16 x1],.s (.i .i64 x2)]) ([.cells 28 [.arr .i8 81 x3,.arr .i8 16 x4,.one [.i .i8 x5]]]) qPF
theorem qk7 (f:Nat) (x0:Int) (x1:LI) (x2:Int) (x3 x4:LI) (x5:Int):qPG (f+1) x0 x1 x2 x3 x4 x5=qDl (qPG f) x0 x1 x2 x3 x4 x5:=by kernel_rfl
theorem qXK:∀ f,qPG f=qBy f
 | 0=>rfl
 | f+1=>by funext x0 x1 x2 x3 x4 x5;rw[qk7,qXK f];rfl
theorem qlB:qZ Tryz.prog qFK 0 (qD Tryz.f53 3):=
 qg mixed qK8 (qM.of (l':=[]) (by kernel_rfl) trivial) (q:=3) (kin:=[1,3,11,12]) (kout:=[1,3]) (by kernel_rfl) (by kernel_rfl) fun vs objs K r h=>by
  replace h:qPI vs objs K=some r:=h
  unfold qPI at h
  split at h
  ·skip
   obtain⟨t,h1,h2⟩:=qE h
   rw[<- qXJ] at h1
   refine⟨_,qPD,t,qB,h1,fun e vs' objs' hd=>?_⟩
   unfold qPD at hd;split at hd;(cases hd;exact h2);cases hd
  ·cases h
theorem qlA:qZ Tryz.prog qFK 0 (qD Tryz.f53 11):=
 qg mixed qK8 (qM.of (l':=[]) (by kernel_rfl) trivial) (q:=11) (kin:=[1,3,6,23,24,28,29]) (kout:=[1,3,23,24]) (by kernel_rfl) (by kernel_rfl) fun vs objs K r h=>by
  replace h:qPH vs objs K=some r:=h
  unfold qPH at h
  split at h
  ·skip
   obtain⟨t,h1,h2⟩:=qE h
   rw[<- qXI] at h1
   refine⟨_,qPB,t,qB,h1,fun e vs' objs' hd=>?_⟩
   unfold qPB at hd;split at hd;(cases hd;exact h2);cases hd
  ·cases h
theorem qlC:qZ Tryz.prog qFK 0 (qD Tryz.f53 8):=
 qg mixed qK8 (qM.of (l':=[qD Tryz.f53 11]) (by kernel_rfl) ⟨qlA,trivial⟩) (q:=8) (kin:=[1,3,23,24]) (kout:=[1,3]) (by kernel_rfl) (by kernel_rfl) fun vs objs K r h=>by
  replace h:qPJ vs objs K=some r:=h
  unfold qPJ at h
  split at h
  ·skip
   obtain⟨t,h1,h2⟩:=qE h
   rw[<- qXK] at h1
   refine⟨_,qPF,t,qB,h1,fun e vs' objs' hd=>?_⟩
   unfold qPF at hd;split at hd;(cases hd;exact h2);cases hd
  ·cases h
def qXH:V->List Obj->Option (Int):=fun v objs=>match v,objs with
 | .s (.i .u64 y0),[]=>some (y0)
 | _,_=>none
theorem qk4 (x0 x1:LI) (x2:Int):fnE qFK Tryz.f53 ([.agg [.arr .i8 81 x0,.arr .i8 16 x1,.one [.i .i8 x2]]]) ([]) qXH=qER x0 x1 x2:=by kernel_rfl
def qXG:HA:=fun o vs objs K=>match vs,objs with
 | [.agg [.arr .i8 81 x0,.arr .i8 16 x1,.one [.i .i8 x2]]],[]=>ob (qER x0 x1 x2) fun y0=>K false (.s (.i .u64 y0)) ([])
 | _,_=>o 53 vs objs K
def qXL (o:Orc):Orc:=qJ 53 (qXG o) o
theorem qk9:OQ Tryz.prog qXL:=fun _ ho=>qL ho fun vs objs K r h=>by
 unfold qXG at h
 split at h
 ·skip
  obtain⟨t,h1,h2⟩:=qE h
  refine q7 mixed qK8 (fn:=Tryz.f53) (b:=(Tryz.f53).body.getD .skip) (by kernel_rfl) (by kernel_rfl) (by kernel_rfl) ((qk4 _ _ _).trans h1) (m:=0) rfl (qM.of (l':=[qD Tryz.f53 3,qD Tryz.f53 8]) (by kernel_rfl) ⟨qlB,qlC,trivial⟩) fun v objs' hd=>?_
  unfold qXH at hd;split at hd;(cases hd;exact h2);cases hd
 ·exact ho _ _ _ _ _ h
def qV0:Ctx:=mkC 14 ((qXL (qKY qI))) [] qU
theorem qjS:CtxOK Tryz.prog qV0:=mkC_ok ((qk9 _ (qNx _ qK)))
def qV1:V->List Obj->Option (Int×Nat×LI×LI×Int×LL×LL×Nat×LL):=fun v objs=>match v,objs with
 | .s (.ptr 0 0 none 0),[.cells 66 [.one [.ptr 1 0 none 0,.i .u64 y0,.sl 2 0 y1 true]],.cells 72 [.arr .i8 81 y2,.arr .i8 16 y3,.one [.i .i8 y4],.rows [.i .u64,.i .u64] 32 y5,.rows [.i .u64,.i .u64] 2 y6],.sli 98 false (.rows [.i .i64,.i .i64,.i .i64,.b,.i .i8,.i .i8] y7 y8)]=>some (y0,y1,y2,y3,y4,y5,y6,y7,y8)
 | _,_=>none
theorem qjR (x0 x1:LI) (x2:Int):fnE qV0 Tryz.f24 ([.agg [.arr .i8 81 x0,.arr .i8 16 x1,.one [.i .i8 x2]]]) ([]) qV1=qJC x0 x1 x2:=by kernel_rfl
def qVz:HA:=fun o vs objs K=>match vs,objs with
 | [.agg [.arr .i8 81 x0,.arr .i8 16 x1,.one [.i .i8 x2]]],[]=>ob (qJC x0 x1 x2) fun z=>K false (.s (.ptr 0 0 none 0)) ([.cells 66 [.one [.ptr 1 0 none 0,.i .u64 (z.1),.sl 2 0 (z.2.1) true]],.cells 72 [.arr .i8 81 (z.2.2.1),.arr .i8 16 (z.2.2.2.1),.one [.i .i8 (z.2.2.2.2.1)],.rows [.i .u64,.i .u64] 32 (z.2.2.2.2.2.1),.rows [.i .u64,.i .u64] 2 (z.2.2.2.2.2.2.1)],.sli 98 false (.rows [.i .i64,.i .i64,.i .i64,.b,.i .i8,.i .i8] (z.2.2.2.2.2.2.2.1) (z.2.2.2.2.2.2.2.2))])
 | _,_=>o 24 vs objs K
def qV2 (o:Orc):Orc:=qJ 24 (qVz o) o
theorem qjT:OQ Tryz.prog qV2:=fun _ ho=>qL ho fun vs objs K r h=>by
 unfold qVz at h
 split at h
 ·skip
  obtain⟨t,h1,h2⟩:=qE h
  refine qa mixed qjS ((qjR _ _ _).trans h1) (by kernel_rfl) fun v objs' hd=>?_
  unfold qV1 at hd;split at hd;(cases hd;exact h2);cases hd
 ·exact ho _ _ _ _ _ h
def qdM:Ctx:=mkC 2 (qI) [] qU
theorem qsA:CtxOK Tryz.prog qdM:=mkC_ok (qK)
def qdN:V->List Obj->Option (Int×Int):=fun v objs=>match v,objs with
 | .agg [.one [.i .u64 y0,.i .u64 y1]],[]=>some (y0,y1)
 | _,_=>none
theorem qr9:fnE qdM Tryz.f97 ([]) ([]) qdN=qGi  := by kernel_rfl
def qdL:HA:=fun o vs objs K=>match vs,objs with
 | [],[]=>ob (qGi ) fun z=>K false (.agg [.one [.i .u64 (z.1),.i .u64 (z.2)]]) ([])
 | _,_=>o 97 vs objs K
def qJv (o:Orc):Orc:=qJ 97 (qdL o) o
theorem qMZ:OQ Tryz.prog qJv:=fun _ ho=>qL ho fun vs objs K r h=>by
 unfold qdL at h
 split at h
 ·skip
  obtain⟨t,h1,h2⟩:=qE h
  refine qa mixed qsA ((qr9).trans h1) (by kernel_rfl) fun v objs' hd=>?_
  unfold qdN at hd;split at hd;(cases hd;exact h2);cases hd
 ·exact ho _ _ _ _ _ h
def qSd:Ex->List V->List Obj->Option (Nat×Int×Int×Nat×LI):=fun e vs objs=>match e,vs,objs with
 | .exit 0,[.s (.ptr 0 0 none 0),.s (.sl 1 0 y0 true)],[.cells 68 [.one [.i .u64 y1,.i .u64 y2]],.sli 3 false (.arr .i64 y3 y4)]=>some (y0,y1,y2,y3,y4)
 | _,_,_=>none
def qSf:Ex->List V->List Obj->Option (Nat×Nat×LI):=fun e vs objs=>match e,vs,objs with
 | .exit 2,[.s (.sl 0 0 y0 true)],[.sli 3 false (.arr .i64 y1 y2)]=>some (y0,y1,y2)
 | _,_,_=>none
def qSh:HL:=fun vs objs K=>match vs,objs with
 | [.s (.ptr 0 0 none 0),.s (.sl 1 0 x0 true)],[.cells 68 [.one [.i .u64 x1,.i .u64 x2]],.sli 3 false (.arr .i64 x3 x4)]=>ob (qIb qB x0 x1 x2 x3 x4) fun z=>K (.exit 0) ([.s (.ptr 0 0 none 0),.s (.sl 1 0 (z.1) true)]) ([.cells 68 [.one [.i .u64 (z.2.1),.i .u64 (z.2.2.1)]],.sli 3 false (.arr .i64 (z.2.2.2.1) (z.2.2.2.2))])
 | _,_=>none
def qSi:HL:=fun vs objs K=>match vs,objs with
 | [.s (.ptr 0 0 none 0),.s (.sl 1 0 x0 true)],[.cells 68 [.one [.i .u64 x1,.i .u64 x2]],.sli 3 false (.arr .i64 x3 x4)]=>ob (qIc qB x0 x1 x2 x3 x4) fun z=>K (.exit 2) ([.s (.sl 0 0 (z.1) true)]) ([.sli 3 false (.arr .i64 (z.2.1) (z.2.2))])
 | _,_=>none
def qsi:{R:Type}->Nat->List V->List Obj->(Ex->List V->List Obj->Option R)->Option R:=fun q vs objs K=>bif Nat.beq q 2 then qSh vs objs K else bif Nat.beq q 5 then qSi vs objs K else none
def qIa:Ctx:=mkC 38 ((qNf qI)) [(2,[1,3],[1,3]),(5,[1,3],[3])] qsi
theorem qSc:CtxOK Tryz.prog qIa:=mkC_ok ((qUK _ qK))
def qSe (f:Nat) (x0:Nat) (x1 x2:Int) (x3:Nat) (x4:LI):Option (Nat×Int×Int×Nat×LI):=qf qIa 0 [1,3] [1,3] (qD Tryz.f129 2) f ([.s (.ptr 0 0 none 0),.s (.sl 1 0 x0 true)]) ([.cells 68 [.one [.i .u64 x1,.i .u64 x2]],.sli 3 false (.arr .i64 x3 x4)]) qSd
theorem qsg (f:Nat) (x0:Nat) (x1 x2:Int) (x3:Nat) (x4:LI):qSe (f+1) x0 x1 x2 x3 x4=qMi (qSe f) x0 x1 x2 x3 x4:=by kernel_rfl
theorem qd6:∀ f,qSe f=qIb f
 | 0=>rfl
 | f+1=>by funext x0 x1 x2 x3 x4;rw[qsg,qd6 f];rfl
def qSg (f:Nat) (x0:Nat) (x1 x2:Int) (x3:Nat) (x4:LI):Option (Nat×Nat×LI):=qf qIa 0 [1,3] [3] (qD Tryz.f129 5) f ([.s (.ptr 0 0 none 0),.s (.sl 1 0 x0 true)]) ([.cells 68 [.one [.i .u64 x1,.i .u64 x2]],.sli 3 false (.arr .i64 x3 x4)]) qSf
theorem qsh (f:Nat) (x0:Nat) (x1 x2:Int) (x3:Nat) (x4:LI):qSg (f+1) x0 x1 x2 x3 x4=qMj (qSg f) x0 x1 x2 x3 x4:=by kernel_rfl
theorem qd7:∀ f,qSg f=qIc f
 | 0=>rfl
 | f+1=>by funext x0 x1 x2 x3 x4;rw[qsh,qd7 f];rfl
theorem qsj:qZ Tryz.prog qIa 0 (qD Tryz.f129 2):=
 qg mixed qSc (qM.of (l':=[]) (by kernel_rfl) trivial) (q:=2) (kin:=[1,3]) (kout:=[1,3]) (by kernel_rfl) (by kernel_rfl) fun vs objs K r h=>by
  replace h:qSh vs objs K=some r:=h
  unfold qSh at h
  split at h
  ·skip
   obtain⟨t,h1,h2⟩:=qE h
   rw[<- qd6] at h1
   refine⟨_,qSd,t,qB,h1,fun e vs' objs' hd=>?_⟩
   unfold qSd at hd;split at hd;(cases hd;exact h2);cases hd
  ·cases h
theorem qsk:qZ Tryz.prog qIa 0 (qD Tryz.f129 5):=
 qg mixed qSc (qM.of (l':=[]) (by kernel_rfl) trivial) (q:=5) (kin:=[1,3]) (kout:=[3]) (by kernel_rfl) (by kernel_rfl) fun vs objs K r h=>by
  replace h:qSi vs objs K=some r:=h
  unfold qSi at h
  split at h
  ·skip
   obtain⟨t,h1,h2⟩:=qE h
   rw[<- qd7] at h1
   refine⟨_,qSf,t,qB,h1,fun e vs' objs' hd=>?_⟩
   unfold qSf at hd;split at hd;(cases hd;exact h2);cases hd
  ·cases h
def qd5:V->List Obj->Option (Nat×Nat×LI):=fun v objs=>match v,objs with
 | .s (.sl 0 0 y0 true),[.sli 3 false (.arr .i64 y1 y2)]=>some (y0,y1,y2)
 | _,_=>none
theorem qsf (x0 x1:Int):fnE qIa Tryz.f129 ([.agg [.one [.i .u64 x0,.i .u64 x1]]]) ([]) qd5=qEi x0 x1:=by kernel_rfl
def qd4:HA:=fun o vs objs K=>match vs,objs with
 | [.agg [.one [.i .u64 x0,.i .u64 x1]]],[]=>ob (qEi x0 x1) fun z=>K false (.s (.sl 0 0 (z.1) true)) ([.sli 3 false (.arr .i64 (z.2.1) (z.2.2))])
 | _,_=>o 129 vs objs K
def qJy (o:Orc):Orc:=qJ 129 (qd4 o) o
theorem qMk:OQ Tryz.prog qJy:=fun _ ho=>qL ho fun vs objs K r h=>by
 unfold qd4 at h
 split at h
 ·skip
  obtain⟨t,h1,h2⟩:=qE h
  refine q7 mixed qSc (fn:=Tryz.f129) (b:=(Tryz.f129).body.getD .skip) (by kernel_rfl) (by kernel_rfl) (by kernel_rfl) ((qsf _ _).trans h1) (m:=0) rfl (qM.of (l':=[qD Tryz.f129 2,qD Tryz.f129 5]) (by kernel_rfl) ⟨qsj,qsk,trivial⟩) fun v objs' hd=>?_
  unfold qd5 at hd;split at hd;(cases hd;exact h2);cases hd
 ·exact ho _ _ _ _ _ h
def qSY:Ex->List V->List Obj->Option (Nat×LI×Int×Int×Int×Int):=fun e vs objs=>match e,vs,objs with
 | .exit 0,[.s (.ptr 1 0 none 0),.s (.ptr 2 0 none 0)],[.sli 3 true (.arr .i64 y0 y1),.cells 68 [.one [.i .u64 y2,.i .u64 y3]],.cells 68 [.one [.i .u64 y4,.i .u64 y5]]]=>some (y0,y1,y2,y3,y4,y5)
 | _,_,_=>none
def qSa:HL:=fun vs objs K=>match vs,objs with
 | [.s (.ptr 1 0 none 0),.s (.ptr 2 0 none 0),.s (.sl 0 0 x0 true),.s (.i .i64 x1),.s (.i .i64 x2)],[.sli 3 true (.arr .i64 x3 x4),.cells 68 [.one [.i .u64 x5,.i .u64 x6]],.cells 68 [.one [.i .u64 x7,.i .u64 x8]]]=>ob (qFr qB x0 x1 x2 x3 x4 x5 x6 x7 x8) fun z=>K (.exit 0) ([.s (.ptr 1 0 none 0),.s (.ptr 2 0 none 0)]) ([.sli 3 true (.arr .i64 (z.1) (z.2.1)),.cells 68 [.one [.i .u64 (z.2.2.1),.i .u64 (z.2.2.2.1)]],.cells 68 [.one [.i .u64 (z.2.2.2.2.1),.i .u64 (z.2.2.2.2.2)]]])
 | _,_=>none
def qsY:{R:Type}->Nat->List V->List Obj->(Ex->List V->List Obj->Option R)->Option R:=fun q vs objs K=>bif Nat.beq q 3 then qSa vs objs K else none
def qMg:Ctx:=mkC 17 ((qEj qI)) [(3,[2,3,6,7,8],[2,3])] qsY
theorem qdu:CtxOK Tryz.prog qMg:=mkC_ok ((qFt _ qK))
def qSZ (f:Nat) (x0:Nat) (x1 x2:Int) (x3:Nat) (x4:LI) (x5 x6:Int) (x7 x8:Int):Option (Nat×LI×Int×Int×Int×Int):=qf qMg 1 [2,3,6,7,8] [2,3] (qD Tryz.f148 3) f ([.s (.ptr 1 0 none 0),.s (.ptr 2 0 none 0),.s (.sl 0 0 x0 true),.s (.i .i64 x1),.s (.i .i64 x2)]) ([.sli 3 true (.arr .i64 x3 x4),.cells 68 [.one [.i .u64 x5,.i .u64 x6]],.cells 68 [.one [.i .u64 x7,.i .u64 x8]]]) qSY
theorem qsX (f:Nat) (x0:Nat) (x1 x2:Int) (x3:Nat) (x4:LI) (x5 x6:Int) (x7 x8:Int):qSZ (f+1) x0 x1 x2 x3 x4 x5 x6 x7 x8=qIY (qSZ f) x0 x1 x2 x3 x4 x5 x6 x7 x8:=by kernel_rfl
theorem qdw:∀ f,qSZ f=qFr f
 | 0=>rfl
 | f+1=>by funext x0 x1 x2 x3 x4 x5 x6 x7 x8;rw[qsX,qdw f];rfl
theorem qsa:qZ Tryz.prog qMg 1 (qD Tryz.f148 3):=
 qg mixed qdu (qM.of (l':=[]) (by kernel_rfl) trivial) (q:=3) (kin:=[2,3,6,7,8]) (kout:=[2,3]) (by kernel_rfl) (by kernel_rfl) fun vs objs K r h=>by
  replace h:qSa vs objs K=some r:=h
  unfold qSa at h
  split at h
  ·skip
   obtain⟨t,h1,h2⟩:=qE h
   rw[<- qdw] at h1
   refine⟨_,qSY,t,qB,h1,fun e vs' objs' hd=>?_⟩
   unfold qSY at hd;split at hd;(cases hd;exact h2);cases hd
  ·cases h
def qdv:V->List Obj->Option (Int×Int):=fun v objs=>match v,objs with
 | .agg [.one [.i .u64 y0,.i .u64 y1]],[]=>some (y0,y1)
 | _,_=>none
theorem qsW (x0 x1:Nat) (x2:LI):fnE qMg Tryz.f148 ([.s (.sl 0 0 x0 true)]) ([.sli 3 true (.arr .i64 x1 x2)]) (qAM 1 qdv)=qIX x0 x1 x2:=by kernel_rfl
def qdt:HA:=fun o vs objs K=>match vs,List.map Obj.toRO objs with
 | [.s (.sl 0 0 x0 true)],[.sli 3 true (.arr .i64 x1 x2)]=>ob (qIX x0 x1 x2) fun z=>K true (.agg [.one [.i .u64 (z.1),.i .u64 (z.2)]]) ([])
 | _,_=>o 148 vs objs K
def qdx (o:Orc):Orc:=qJ 148 (qdt o) o
theorem qsZ:OQ Tryz.prog qdx:=fun _ ho=>qL ho fun vs objs K r h=>by
 unfold qdt at h
 split at h
 ·skip
  have hq:List.map Obj.toRO objs=_:=(by rename_i hq;first | exact hq | assumption)
  obtain⟨t,h1,h2⟩:=qE h
  refine qAj mixed qdu (m:=1) (fn:=Tryz.f148) (b:=(Tryz.f148).body.getD .skip) (by kernel_rfl) (by kernel_rfl) (by kernel_rfl) hq (by kernel_rfl) (by kernel_rfl) (qM.of (l':=[qD Tryz.f148 3]) (by kernel_rfl) ⟨qsa,trivial⟩) ((qsW _ _ _).trans h1) fun v objs' hd=>?_
  unfold qdv at hd;split at hd;(cases hd;exact h2);cases hd
 ·exact ho _ _ _ _ _ h
def qQf:Ex->List V->List Obj->Option ((Int×Int)⊕(Int×Int)):=fun e vs objs=>match e,vs,objs with
 | .ret,[.s (.ptr 0 0 none 0)],[.cells 68 [.one [.i .u64 y0,.i .u64 y1]]]=>some (.inl (y0,y1))
 | .exit 0,[.s (.ptr 0 0 none 0)],[.cells 68 [.one [.i .u64 y0,.i .u64 y1]]]=>some (.inr (y0,y1))
 | _,_,_=>none
def qQi:HL:=fun vs objs K=>match vs,objs with
 | [.s (.i .i64 x0),.s (.i .i64 x1),.s (.ptr 0 0 none 0),.s (.sl 1 0 x2 true),.s (.i .i64 x3),.s (.i .i64 x4)],[.cells 68 [.one [.i .u64 x5,.i .u64 x6]],.sli 164 false (.rows [.i .i64,.i .i64] x7 x8)]=>ob (qFW qB x0 x1 x2 x3 x4 x5 x6 x7 x8) fun t0=>sw t0 (fun z=>K (.ret) ([.s (.ptr 0 0 none 0)]) ([.cells 68 [.one [.i .u64 (z.1),.i .u64 (z.2)]]])) (fun z=>K (.exit 0) ([.s (.ptr 0 0 none 0)]) ([.cells 68 [.one [.i .u64 (z.1),.i .u64 (z.2)]]]))
 | _,_=>none
def qo9:{R:Type}->Nat->List V->List Obj->(Ex->List V->List Obj->Option R)->Option R:=fun q vs objs K=>bif Nat.beq q 2 then qQi vs objs K else none
def qL4:Ctx:=mkC 30 ((qJz (qGn (qQq (qdx (qQj qI)))))) [(2,[0,1,4,10,11,12],[4])] qo9
theorem qaL:CtxOK Tryz.prog qL4:=mkC_ok ((qMl _ (qIV _ (qab _ (qsZ _ (qaS _ qK))))))
def qQg (f:Nat) (x0 x1:Int) (x2:Nat) (x3 x4:Int) (x5 x6:Int) (x7:Nat) (x8:LL):Option ((Int×Int)⊕(Int×Int)):=qf qL4 0 [0,1,4,10,11,12] [4] (qD Tryz.f125 2) f ([.s (.i .i64 x0),.s (.i .i64 x1),.s (.ptr 0 0 none 0),.s (.sl 1 0 x2 true),.s (.i .i64 x3),.s (.i .i64 x4)]) ([.cells 68 [.one [.i .u64 x5,.i .u64 x6]],.sli 164 false (.rows [.i .i64,.i .i64] x7 x8)]) qQf
theorem qo8 (f:Nat) (x0 x1:Int) (x2:Nat) (x3 x4:Int) (x5 x6:Int) (x7:Nat) (x8:LL):qQg (f+1) x0 x1 x2 x3 x4 x5 x6 x7 x8=qH3 (qQg f) x0 x1 x2 x3 x4 x5 x6 x7 x8:=by kernel_rfl
theorem qaN:∀ f,qQg f=qFW f
 | 0=>rfl
 | f+1=>by funext x0 x1 x2 x3 x4 x5 x6 x7 x8;rw[qo8,qaN f];rfl
theorem qpA:qZ Tryz.prog qL4 0 (qD Tryz.f125 2):=
 qg mixed qaL (qM.of (l':=[]) (by kernel_rfl) trivial) (q:=2) (kin:=[0,1,4,10,11,12]) (kout:=[4]) (by kernel_rfl) (by kernel_rfl) fun vs objs K r h=>by
  replace h:qQi vs objs K=some r:=h
  unfold qQi at h
  split at h
  ·skip
   obtain⟨t,h1,h2⟩:=qE h
   rw[<- qaN] at h1
   refine⟨_,qQf,t,qB,h1,fun e vs' objs' hd=>?_⟩
   unfold qQf at hd
   split at hd
   ·skip
    cases hd
    exact h2
   ·skip
    cases hd
    exact h2
   ·cases hd
  ·cases h
def qaM:V->List Obj->Option (Int×Int):=fun v objs=>match v,objs with
 | .agg [.one [.i .u64 y0,.i .u64 y1]],[]=>some (y0,y1)
 | _,_=>none
theorem qo7 (x0 x1:Int):fnE qL4 Tryz.f125 ([.s (.i .i64 x0),.s (.i .i64 x1)]) ([]) qaM=qH2 x0 x1:=by kernel_rfl
def qaK:HA:=fun o vs objs K=>match vs,objs with
 | [.s (.i .i64 x0),.s (.i .i64 x1)],[]=>ob (qH2 x0 x1) fun z=>K false (.agg [.one [.i .u64 (z.1),.i .u64 (z.2)]]) ([])
 | _,_=>o 125 vs objs K
def qQh (o:Orc):Orc:=qJ 125 (qaK o) o
theorem qaO:OQ Tryz.prog qQh:=fun _ ho=>qL ho fun vs objs K r h=>by
 unfold qaK at h
 split at h
 ·skip
  obtain⟨t,h1,h2⟩:=qE h
  refine q7 mixed qaL (fn:=Tryz.f125) (b:=(Tryz.f125).body.getD .skip) (by kernel_rfl) (by kernel_rfl) (by kernel_rfl) ((qo7 _ _).trans h1) (m:=0) rfl (qM.of (l':=[qD Tryz.f125 2]) (by kernel_rfl) ⟨qpA,trivial⟩) fun v objs' hd=>?_
  unfold qaM at hd;split at hd;(cases hd;exact h2);cases hd
 ·exact ho _ _ _ _ _ h
def qUn:Ctx:=mkC 18 (qI) [] qU
theorem qht:CtxOK Tryz.prog qUn:=mkC_ok (qK)
def qUo:V->List Obj->Option (Int×Int):=fun v objs=>match v,objs with
 | .agg [.one [.i .u64 y0,.i .u64 y1]],[]=>some (y0,y1)
 | _,_=>none
theorem qhs (x0:Int) (x1 x2:LI) (x3:Int) (x4 x5:LL):fnE qUn Tryz.f128 ([.s (.ptr 0 0 none 0),.s (.i .i64 x0)]) ([.rcells 72 [.arr .i8 81 x1,.arr .i8 16 x2,.one [.i .i8 x3],.rows [.i .u64,.i .u64] 32 x4,.rows [.i .u64,.i .u64] 2 x5]]) (qAM 1 qUo)=qF9 x0 x1 x2 x3 x4 x5:=by kernel_rfl
def qUm:HA:=fun o vs objs K=>match vs,List.map Obj.toRO objs with
 | [.s (.ptr 0 0 none 0),.s (.i .i64 x0)],[.rcells 72 [.arr .i8 81 x1,.arr .i8 16 x2,.one [.i .i8 x3],.rows [.i .u64,.i .u64] 32 x4,.rows [.i .u64,.i .u64] 2 x5]]=>ob (qF9 x0 x1 x2 x3 x4 x5) fun z=>K true (.agg [.one [.i .u64 (z.1),.i .u64 (z.2)]]) ([])
 | _,_=>o 128 vs objs K
def qNz (o:Orc):Orc:=qJ 128 (qUm o) o
theorem qUp:OQ Tryz.prog qNz:=fun _ ho=>qL ho fun vs objs K r h=>by
 unfold qUm at h
 split at h
 ·skip
  have hq:List.map Obj.toRO objs=_:=(by rename_i hq;first | exact hq | assumption)
  obtain⟨t,h1,h2⟩:=qE h
  refine qAj mixed qht (m:=1) (fn:=Tryz.f128) (b:=(Tryz.f128).body.getD .skip) (by kernel_rfl) (by kernel_rfl) (by kernel_rfl) hq (by kernel_rfl) (by kernel_rfl) (qM.of (l':=[]) (by kernel_rfl) trivial) ((qhs _ _ _ _ _ _).trans h1) fun v objs' hd=>?_
  unfold qUo at hd;split at hd;(cases hd;exact h2);cases hd
 ·exact ho _ _ _ _ _ h
def qUM:Ctx:=mkC 18 (qI) [] qU
theorem qhT:CtxOK Tryz.prog qUM:=mkC_ok (qK)
def qUN:V->List Obj->Option (Int):=fun v objs=>match v,objs with
 | .s (.i .i8 y0),[]=>some (y0)
 | _,_=>none
theorem qhS (x0:Int) (x1 x2:LI) (x3:Int) (x4 x5:LL):fnE qUM Tryz.f56 ([.s (.ptr 0 0 none 0),.s (.i .i64 x0)]) ([.rcells 72 [.arr .i8 81 x1,.arr .i8 16 x2,.one [.i .i8 x3],.rows [.i .u64,.i .u64] 32 x4,.rows [.i .u64,.i .u64] 2 x5]]) (qAM 1 qUN)=qAf x0 x1 x2 x3 x4 x5:=by kernel_rfl
def qUL:HA:=fun o vs objs K=>match vs,List.map Obj.toRO objs with
 | [.s (.ptr 0 0 none 0),.s (.i .i64 x0)],[.rcells 72 [.arr .i8 81 x1,.arr .i8 16 x2,.one [.i .i8 x3],.rows [.i .u64,.i .u64] 32 x4,.rows [.i .u64,.i .u64] 2 x5]]=>ob (qAf x0 x1 x2 x3 x4 x5) fun y0=>K true (.s (.i .i8 y0)) ([])
 | _,_=>o 56 vs objs K
def qF5 (o:Orc):Orc:=qJ 56 (qUL o) o
theorem qG7:OQ Tryz.prog qF5:=fun _ ho=>qL ho fun vs objs K r h=>by
 unfold qUL at h
 split at h
 ·skip
  have hq:List.map Obj.toRO objs=_:=(by rename_i hq;first | exact hq | assumption)
  obtain⟨t,h1,h2⟩:=qE h
  refine qAj mixed qhT (m:=1) (fn:=Tryz.f56) (b:=(Tryz.f56).body.getD .skip) (by kernel_rfl) (by kernel_rfl) (by kernel_rfl) hq (by kernel_rfl) (by kernel_rfl) (qM.of (l':=[]) (by kernel_rfl) trivial) ((qhS _ _ _ _ _ _).trans h1) fun v objs' hd=>?_
  unfold qUN at hd;split at hd;(cases hd;exact h2);cases hd
 ·exact ho _ _ _ _ _ h
def qNU:Ex->List V->List Obj->Option (Int×Int×Nat×Int×Int×LI×LI×Int×LL×LL×List (LI×LI)×Nat×LI):=fun e vs objs=>match e,vs,objs with
 | .exit 2,[.s (.ptr 0 0 none 0),.s (.i .i64 y0),.s (.mp 1),.s (.i .i64 y1),.s (.sl 2 0 y2 true),.s (.i .i64 y3),.s (.i .i64 y4)],[.rcells 72 [.arr .i8 81 y5,.arr .i8 16 y6,.one [.i .i8 y7],.rows [.i .u64,.i .u64] 32 y8,.rows [.i .u64,.i .u64] 2 y9],.map false true [.i .i64] [.i .u64,.i .u64] y10,.sli 3 false (.arr .i64 y11 y12)]=>some (y0,y1,y2,y3,y4,y5,y6,y7,y8,y9,y10,y11,y12)
 | _,_,_=>none
def qNS:Ex->List V->List Obj->Option (LI×LI×Int×LL×LL×List (LI×LI)):=fun e vs objs=>match e,vs,objs with
 | .exit 0,[.s (.mp 1)],[.rcells 72 [.arr .i8 81 y0,.arr .i8 16 y1,.one [.i .i8 y2],.rows [.i .u64,.i .u64] 32 y3,.rows [.i .u64,.i .u64] 2 y4],.map false true [.i .i64] [.i .u64,.i .u64] y5]=>some (y0,y1,y2,y3,y4,y5)
 | _,_,_=>none
def qNX:HL:=fun vs objs K=>match vs,objs with
 | [.s (.ptr 0 0 none 0),.s (.i .i64 x0),.s (.mp 1),.s (.i .i64 x1),.s (.sl 2 0 x2 true),.s (.i .i64 x3),.s (.i .i64 x4),.s (.sl 3 0 x5 true),.s (.i .i64 x6),.s (.i .i64 x7)],[.rcells 72 [.arr .i8 81 x8,.arr .i8 16 x9,.one [.i .i8 x10],.rows [.i .u64,.i .u64] 32 x11,.rows [.i .u64,.i .u64] 2 x12],.map false true [.i .i64] [.i .u64,.i .u64] x13,.sli 3 false (.arr .i64 x14 x15),.sli 3 false (.arr .i64 x16 x17)]=>ob (qEx qB x0 x1 x2 x3 x4 x5 x6 x7 x8 x9 x10 x11 x12 x13 x14 x15 x16 x17) fun z=>K (.exit 2) ([.s (.ptr 0 0 none 0),.s (.i .i64 (z.1)),.s (.mp 1),.s (.i .i64 (z.2.1)),.s (.sl 2 0 (z.2.2.1) true),.s (.i .i64 (z.2.2.2.1)),.s (.i .i64 (z.2.2.2.2.1))]) ([.rcells 72 [.arr .i8 81 (z.2.2.2.2.2.1),.arr .i8 16 (z.2.2.2.2.2.2.1),.one [.i .i8 (z.2.2.2.2.2.2.2.1)],.rows [.i .u64,.i .u64] 32 (z.2.2.2.2.2.2.2.2.1),.rows [.i .u64,.i .u64] 2 (z.2.2.2.2.2.2.2.2.2.1)],.map false true [.i .i64] [.i .u64,.i .u64] (z.2.2.2.2.2.2.2.2.2.2.1),.sli 3 false (.arr .i64 (z.2.2.2.2.2.2.2.2.2.2.2.1) (z.2.2.2.2.2.2.2.2.2.2.2.2))])
 | _,_=>none
def qNW:HL:=fun vs objs K=>match vs,objs with
 | [.s (.ptr 0 0 none 0),.s (.i .i64 x0),.s (.mp 1),.s (.i .i64 x1),.s (.sl 2 0 x2 true),.s (.i .i64 x3),.s (.i .i64 x4)],[.rcells 72 [.arr .i8 81 x5,.arr .i8 16 x6,.one [.i .i8 x7],.rows [.i .u64,.i .u64] 32 x8,.rows [.i .u64,.i .u64] 2 x9],.map false true [.i .i64] [.i .u64,.i .u64] x10,.sli 3 false (.arr .i64 x11 x12)]=>ob (qEw qB x0 x1 x2 x3 x4 x5 x6 x7 x8 x9 x10 x11 x12) fun z=>K (.exit 0) ([.s (.mp 1)]) ([.rcells 72 [.arr .i8 81 (z.1),.arr .i8 16 (z.2.1),.one [.i .i8 (z.2.2.1)],.rows [.i .u64,.i .u64] 32 (z.2.2.2.1),.rows [.i .u64,.i .u64] 2 (z.2.2.2.2.1)],.map false true [.i .i64] [.i .u64,.i .u64] (z.2.2.2.2.2)])
 | _,_=>none
def qg0:{R:Type}->Nat->List V->List Obj->(Ex->List V->List Obj->Option R)->Option R:=fun q vs objs K=>bif Nat.beq q 9 then qNX vs objs K else bif Nat.beq q 6 then qNW vs objs K else none
def qG5:Ctx:=mkC 89 ((qEj (qGn (qL6 (qJz (qF5 (qMc (qIU (qNz (qMa (qFp (qHC (qQh (qJy (qF8 (qKW qI)))))))))))))))) [(6,[0,1,5,6,21,22,23],[5]),(9,[0,1,5,6,21,22,23,32,33,34],[0,1,5,6,21,22,23])] qg0
theorem qNR:CtxOK Tryz.prog qG5:=mkC_ok ((qFt _ (qIV _ (qQm _ (qMl _ (qG7 _ (qSS _ (qJw _ (qUp _ (qSQ _ (qGj _ (qIz _ (qaO _ (qMk _ (qHA _ (qNu _ qK))))))))))))))))
def qNV (f:Nat) (x0 x1:Int) (x2:Nat) (x3 x4:Int) (x5:Nat) (x6 x7:Int) (x8 x9:LI) (x10:Int) (x11 x12:LL) (x13:List (LI×LI)) (x14:Nat) (x15:LI) (x16:Nat) (x17:LI):Option (Int×Int×Nat×Int×Int×LI×LI×Int×LL×LL×List (LI×LI)×Nat×LI):=qf qG5 1 [0,1,5,6,21,22,23,32,33,34] [0,1,5,6,21,22,23] (qD Tryz.f124 9) f ([.s (.ptr 0 0 none 0),.s (.i .i64 x0),.s (.mp 1),.s (.i .i64 x1),.s (.sl 2 0 x2 true),.s (.i .i64 x3),.s (.i .i64 x4),.s (.sl 3 0 x5 true),.s (.i .i64 x6),.s (.i .i64 x7)]) ([.rcells 72 [.arr .i8 81 x8,.arr .i8 16 x9,.one [.i .i8 x10],.rows [.i .u64,.i .u64] 32 x11,.rows [.i .u64,.i .u64] 2 x12],.map false true [.i .i64] [.i .u64,.i .u64] x13,.sli 3 false (.arr .i64 x14 x15),.sli 3 false (.arr .i64 x16 x17)]) qNU
theorem qgz (f:Nat) (x0 x1:Int) (x2:Nat) (x3 x4:Int) (x5:Nat) (x6 x7:Int) (x8 x9:LI) (x10:Int) (x11 x12:LL) (x13:List (LI×LI)) (x14:Nat) (x15:LI) (x16:Nat) (x17:LI):qNV (f+1) x0 x1 x2 x3 x4 x5 x6 x7 x8 x9 x10 x11 x12 x13 x14 x15 x16 x17=qF3 (qNV f) x0 x1 x2 x3 x4 x5 x6 x7 x8 x9 x10 x11 x12 x13 x14 x15 x16 x17:=by kernel_rfl
theorem qT9:∀ f,qNV f=qEx f
 | 0=>rfl
 | f+1=>by funext x0 x1 x2 x3 x4 x5 x6 x7 x8 x9 x10 x11 x12 x13 x14 x15 x16 x17;rw[qgz,qT9 f];rfl
def qNT (f:Nat) (x0 x1:Int) (x2:Nat) (x3 x4:Int) (x5 x6:LI) (x7:Int) (x8 x9:LL) (x10:List (LI×LI)) (x11:Nat) (x12:LI):Option (LI×LI×Int×LL×LL×List (LI×LI)):=qf qG5 1 [0,1,5,6,21,22,23] [5] (qD Tryz.f124 6) f ([.s (.ptr 0 0 none 0),.s (.i .i64 x0),.s (.mp 1),.s (.i .i64 x1),.s (.sl 2 0 x2 true),.s (.i .i64 x3),.s (.i .i64 x4)]) ([.rcells 72 [.arr .i8 81 x5,.arr .i8 16 x6,.one [.i .i8 x7],.rows [.i .u64,.i .u64] 32 x8,.rows [.i .u64,.i .u64] 2 x9],.map false true [.i .i64] [.i .u64,.i .u64] x10,.sli 3 false (.arr .i64 x11 x12)]) qNS
theorem qgy (f:Nat) (x0 x1:Int) (x2:Nat) (x3 x4:Int) (x5 x6:LI) (x7:Int) (x8 x9:LL) (x10:List (LI×LI)) (x11:Nat) (x12:LI):qNT (f+1) x0 x1 x2 x3 x4 x5 x6 x7 x8 x9 x10 x11 x12=qG6 (qNT f) x0 x1 x2 x3 x4 x5 x6 x7 x8 x9 x10 x11 x12:=by kernel_rfl
theorem qT8:∀ f,qNT f=qEw f
 | 0=>rfl
 | f+1=>by funext x0 x1 x2 x3 x4 x5 x6 x7 x8 x9 x10 x11 x12;rw[qgy,qT8 f];rfl
theorem qg3:qZ Tryz.prog qG5 1 (qD Tryz.f124 9):=
 qg mixed qNR (qM.of (l':=[]) (by kernel_rfl) trivial) (q:=9) (kin:=[0,1,5,6,21,22,23,32,33,34]) (kout:=[0,1,5,6,21,22,23]) (by kernel_rfl) (by kernel_rfl) fun vs objs K r h=>by
  replace h:qNX vs objs K=some r:=h
  unfold qNX at h
  split at h
  ·skip
   obtain⟨t,h1,h2⟩:=qE h
   rw[<- qT9] at h1
   refine⟨_,qNU,t,qB,h1,fun e vs' objs' hd=>?_⟩
   unfold qNU at hd;split at hd;(cases hd;exact h2);cases hd
  ·cases h
theorem qg2:qZ Tryz.prog qG5 1 (qD Tryz.f124 6):=
 qg mixed qNR (qM.of (l':=[qD Tryz.f124 9]) (by kernel_rfl) ⟨qg3,trivial⟩) (q:=6) (kin:=[0,1,5,6,21,22,23]) (kout:=[5]) (by kernel_rfl) (by kernel_rfl) fun vs objs K r h=>by
  replace h:qNW vs objs K=some r:=h
  unfold qNW at h
  split at h
  ·skip
   obtain⟨t,h1,h2⟩:=qE h
   rw[<- qT8] at h1
   refine⟨_,qNS,t,qB,h1,fun e vs' objs' hd=>?_⟩
   unfold qNS at hd;split at hd;(cases hd;exact h2);cases hd
  ·cases h
def qT7:V->List Obj->Option (List (LI×LI)):=fun v objs=>match v,objs with
 | .s (.mp 1),[.map false true [.i .i64] [.i .u64,.i .u64] y0]=>some (y0)
 | _,_=>none
theorem qgx (x0:Int) (x1 x2:LI) (x3:Int) (x4 x5:LL):fnE qG5 Tryz.f124 ([.s (.ptr 0 0 none 0),.s (.i .i64 x0)]) ([.rcells 72 [.arr .i8 81 x1,.arr .i8 16 x2,.one [.i .i8 x3],.rows [.i .u64,.i .u64] 32 x4,.rows [.i .u64,.i .u64] 2 x5]]) (qAM 1 qT7)=qG4 x0 x1 x2 x3 x4 x5:=by kernel_rfl
def qT6:HA:=fun o vs objs K=>match vs,List.map Obj.toRO objs with
 | [.s (.ptr 0 0 none 0),.s (.i .i64 x0)],[.rcells 72 [.arr .i8 81 x1,.arr .i8 16 x2,.one [.i .i8 x3],.rows [.i .u64,.i .u64] 32 x4,.rows [.i .u64,.i .u64] 2 x5]]=>ob (qG4 x0 x1 x2 x3 x4 x5) fun y0=>K true (.s (.mp 1)) ([.map false true [.i .i64] [.i .u64,.i .u64] y0])
 | _,_=>o 124 vs objs K
def qUA (o:Orc):Orc:=qJ 124 (qT6 o) o
theorem qg1:OQ Tryz.prog qUA:=fun _ ho=>qL ho fun vs objs K r h=>by
 unfold qT6 at h
 split at h
 ·skip
  have hq:List.map Obj.toRO objs=_:=(by rename_i hq;first | exact hq | assumption)
  obtain⟨t,h1,h2⟩:=qE h
  refine qAj mixed qNR (m:=1) (fn:=Tryz.f124) (b:=(Tryz.f124).body.getD .skip) (by kernel_rfl) (by kernel_rfl) (by kernel_rfl) hq (by kernel_rfl) (by kernel_rfl) (qM.of (l':=[qD Tryz.f124 6]) (by kernel_rfl) ⟨qg2,trivial⟩) ((qgx _ _ _ _ _ _).trans h1) fun v objs' hd=>?_
  unfold qT7 at hd;split at hd;(cases hd;exact h2);cases hd
 ·exact ho _ _ _ _ _ h
def qX4:Ctx:=mkC 44 ((qGo (qQh (qMc (qMa (qKN (qUA (qJv (qKW qI))))))))) [] qU
theorem qly:CtxOK Tryz.prog qX4:=mkC_ok ((qIZ _ (qaO _ (qSS _ (qSQ _ (qNM _ (qg1 _ (qMZ _ (qNu _ qK)))))))))
def qX5:V->List Obj->Option (Int×Int×Int×Int×Bool×List (LI×LI)):=fun v objs=>match v,objs with
 | .agg [.one [.ptr 0 0 none 0,.i .i64 y0,.i .i64 y1,.i .u64 y2,.i .u64 y3,.mp 1,.b y4]],[.map false true [.i .i64] [.i .u64,.i .u64] y5]=>some (y0,y1,y2,y3,y4,y5)
 | _,_=>none
theorem qlx (x0 x1:LI) (x2:Int) (x3 x4:LL):fnE qX4 Tryz.f95 ([.s (.ptr 0 0 none 0)]) ([.rcells 72 [.arr .i8 81 x0,.arr .i8 16 x1,.one [.i .i8 x2],.rows [.i .u64,.i .u64] 32 x3,.rows [.i .u64,.i .u64] 2 x4]]) (qAM 1 qX5)=qHn x0 x1 x2 x3 x4:=by kernel_rfl
def qX3:HA:=fun o vs objs K=>match vs,List.map Obj.toRO objs with
 | [.s (.ptr 0 0 none 0)],[.rcells 72 [.arr .i8 81 x0,.arr .i8 16 x1,.one [.i .i8 x2],.rows [.i .u64,.i .u64] 32 x3,.rows [.i .u64,.i .u64] 2 x4]]=>ob (qHn x0 x1 x2 x3 x4) fun z=>K true (.agg [.one [.ptr 0 0 none 0,.i .i64 (z.1),.i .i64 (z.2.1),.i .u64 (z.2.2.1),.i .u64 (z.2.2.2.1),.mp 1,.b (z.2.2.2.2.1)]]) ([.map false true [.i .i64] [.i .u64,.i .u64] (z.2.2.2.2.2)])
 | _,_=>o 95 vs objs K
def qPm (o:Orc):Orc:=qJ 95 (qX3 o) o
theorem qX6:OQ Tryz.prog qPm:=fun _ ho=>qL ho fun vs objs K r h=>by
 unfold qX3 at h
 split at h
 ·skip
  have hq:List.map Obj.toRO objs=_:=(by rename_i hq;first | exact hq | assumption)
  obtain⟨t,h1,h2⟩:=qE h
  refine qAj mixed qly (m:=1) (fn:=Tryz.f95) (b:=(Tryz.f95).body.getD .skip) (by kernel_rfl) (by kernel_rfl) (by kernel_rfl) hq (by kernel_rfl) (by kernel_rfl) (qM.of (l':=[]) (by kernel_rfl) trivial) ((qlx _ _ _ _ _).trans h1) fun v objs' hd=>?_
  unfold qX5 at hd;split at hd;(cases hd;exact h2);cases hd
 ·exact ho _ _ _ _ _ h
def qZ4:Ctx:=mkC 13 (qI) [] qU
theorem qoe:CtxOK Tryz.prog qZ4:=mkC_ok (qK)
def qZ5:V->List Obj->Option (Int):=fun v objs=>match v,objs with
 | .s (.i .i64 y0),[]=>some (y0)
 | _,_=>none
theorem qod (x0:Int):fnE qZ4 Tryz.f59 ([.s (.i .i64 x0)]) ([]) qZ5=qC0 x0:=by kernel_rfl
def qZ3:HA:=fun o vs objs K=>match vs,objs with
 | [.s (.i .i64 x0)],[]=>ob (qC0 x0) fun y0=>K false (.s (.i .i64 y0)) ([])
 | _,_=>o 59 vs objs K
def qJa (o:Orc):Orc:=qJ 59 (qZ3 o) o
theorem qLw:OQ Tryz.prog qJa:=fun _ ho=>qL ho fun vs objs K r h=>by
 unfold qZ3 at h
 split at h
 ·skip
  obtain⟨t,h1,h2⟩:=qE h
  refine qa mixed qoe ((qod _).trans h1) (by kernel_rfl) fun v objs' hd=>?_
  unfold qZ5 at hd;split at hd;(cases hd;exact h2);cases hd
 ·exact ho _ _ _ _ _ h
def qSz:Ex->List V->List Obj->Option (Int×Int×Int×Int):=fun e vs objs=>match e,vs,objs with
 | .exit 0,[.s (.ptr 0 0 none 0),.s (.ptr 1 0 none 0)],[.cells 68 [.one [.i .u64 y0,.i .u64 y1]],.cells 68 [.one [.i .u64 y2,.i .u64 y3]]]=>some (y0,y1,y2,y3)
 | _,_,_=>none
def qS1:HL:=fun vs objs K=>match vs,objs with
 | [.s (.i .i64 x0),.s (.ptr 0 0 none 0),.s (.ptr 1 0 none 0),.s (.i .i64 x1)],[.cells 68 [.one [.i .u64 x2,.i .u64 x3]],.cells 68 [.one [.i .u64 x4,.i .u64 x5]]]=>ob (qMv qB x0 x1 x2 x3 x4 x5) fun z=>K (.exit 0) ([.s (.ptr 0 0 none 0),.s (.ptr 1 0 none 0)]) ([.cells 68 [.one [.i .u64 (z.1),.i .u64 (z.2.1)]],.cells 68 [.one [.i .u64 (z.2.2.1),.i .u64 (z.2.2.2)]]])
 | _,_=>none
def qte:{R:Type}->Nat->List V->List Obj->(Ex->List V->List Obj->Option R)->Option R:=fun q vs objs K=>bif Nat.beq q 3 then qS1 vs objs K else none
def qMu:Ctx:=mkC 23 ((qEj (qSv qI))) [(3,[0,2,3,6],[2,3])] qte
theorem qer:CtxOK Tryz.prog qMu:=mkC_ok ((qFt _ (qek _ qK)))
def qS0 (f:Nat) (x0 x1:Int) (x2 x3:Int) (x4 x5:Int):Option (Int×Int×Int×Int):=qf qMu 0 [0,2,3,6] [2,3] (qD Tryz.f152 3) f ([.s (.i .i64 x0),.s (.ptr 0 0 none 0),.s (.ptr 1 0 none 0),.s (.i .i64 x1)]) ([.cells 68 [.one [.i .u64 x2,.i .u64 x3]],.cells 68 [.one [.i .u64 x4,.i .u64 x5]]]) qSz
theorem qtd (f:Nat) (x0 x1:Int) (x2 x3:Int) (x4 x5:Int):qS0 (f+1) x0 x1 x2 x3 x4 x5=qeu (qS0 f) x0 x1 x2 x3 x4 x5:=by kernel_rfl
theorem qet:∀ f,qS0 f=qMv f
 | 0=>rfl
 | f+1=>by funext x0 x1 x2 x3 x4 x5;rw[qtd,qet f];rfl
theorem qtg:qZ Tryz.prog qMu 0 (qD Tryz.f152 3):=
 qg mixed qer (qM.of (l':=[]) (by kernel_rfl) trivial) (q:=3) (kin:=[0,2,3,6]) (kout:=[2,3]) (by kernel_rfl) (by kernel_rfl) fun vs objs K r h=>by
  replace h:qS1 vs objs K=some r:=h
  unfold qS1 at h
  split at h
  ·skip
   obtain⟨t,h1,h2⟩:=qE h
   rw[<- qet] at h1
   refine⟨_,qSz,t,qB,h1,fun e vs' objs' hd=>?_⟩
   unfold qSz at hd;split at hd;(cases hd;exact h2);cases hd
  ·cases h
def qes:V->List Obj->Option (Int×Int):=fun v objs=>match v,objs with
 | .agg [.one [.i .u64 y0,.i .u64 y1]],[]=>some (y0,y1)
 | _,_=>none
theorem qtc (x0:Int):fnE qMu Tryz.f152 ([.s (.i .i64 x0)]) ([]) qes=qJ3 x0:=by kernel_rfl
def qeq:HA:=fun o vs objs K=>match vs,objs with
 | [.s (.i .i64 x0)],[]=>ob (qJ3 x0) fun z=>K false (.agg [.one [.i .u64 (z.1),.i .u64 (z.2)]]) ([])
 | _,_=>o 152 vs objs K
def qev (o:Orc):Orc:=qJ 152 (qeq o) o
theorem qtf:OQ Tryz.prog qev:=fun _ ho=>qL ho fun vs objs K r h=>by
 unfold qeq at h
 split at h
 ·skip
  obtain⟨t,h1,h2⟩:=qE h
  refine q7 mixed qer (fn:=Tryz.f152) (b:=(Tryz.f152).body.getD .skip) (by kernel_rfl) (by kernel_rfl) (by kernel_rfl) ((qtc _).trans h1) (m:=0) rfl (qM.of (l':=[qD Tryz.f152 3]) (by kernel_rfl) ⟨qtg,trivial⟩) fun v objs' hd=>?_
  unfold qes at hd;split at hd;(cases hd;exact h2);cases hd
 ·exact ho _ _ _ _ _ h
def qWo:Ctx:=mkC 27 ((qMs (qGn (qev (qDp (qJa (qCy qI))))))) [] qU
theorem qkY:CtxOK Tryz.prog qWo:=mkC_ok ((qSr _ (qIV _ (qtf _ (qEZ _ (qLw _ (qDG _ qK)))))))
def qWp:V->List Obj->Option (Bool×Bool):=fun v objs=>match v,objs with
 | .tup [W.s (.b y0),W.s (.b y1)],[]=>some (y0,y1)
 | _,_=>none
theorem qkX (x0 x1 x2:Int):fnE qWo Tryz.f132 ([.s (.i .i8 x0),.s (.i .i64 x1),.s (.i .i64 x2)]) ([]) qWp=qJM x0 x1 x2:=by kernel_rfl
def qWn:HA:=fun o vs objs K=>match vs,objs with
 | [.s (.i .i8 x0),.s (.i .i64 x1),.s (.i .i64 x2)],[]=>ob (qJM x0 x1 x2) fun z=>K false (.tup [W.s (.b (z.1)),W.s (.b (z.2))]) ([])
 | _,_=>o 132 vs objs K
def qWq (o:Orc):Orc:=qJ 132 (qWn o) o
theorem qkZ:OQ Tryz.prog qWq:=fun _ ho=>qL ho fun vs objs K r h=>by
 unfold qWn at h
 split at h
 ·skip
  obtain⟨t,h1,h2⟩:=qE h
  refine qa mixed qkY ((qkX _ _ _).trans h1) (by kernel_rfl) fun v objs' hd=>?_
  unfold qWp at hd;split at hd;(cases hd;exact h2);cases hd
 ·exact ho _ _ _ _ _ h
def qOo:Ex->List V->List Obj->Option (Nat×Int×Nat×Int×Int×LI×LI×Int×LL×LL×Int×Int×Nat×LL×Int×Int×Nat×LI):=fun e vs objs=>match e,vs,objs with
 | .exit 2,[.s (.ptr 0 0 none 0),.s (.ptr 1 0 none 0),.s (.sl 2 0 y0 true),.s (.i .i64 y1),.s (.ptr 3 0 none 0),.s (.sl 4 0 y2 true),.s (.i .i64 y3),.s (.i .i64 y4)],[.rcells 72 [.arr .i8 81 y5,.arr .i8 16 y6,.one [.i .i8 y7],.rows [.i .u64,.i .u64] 32 y8,.rows [.i .u64,.i .u64] 2 y9],.cells 68 [.one [.i .u64 y10,.i .u64 y11]],.sli 37 false (.rows [.i .i64,.i .i64,.i .i64,.b] y12 y13),.cells 68 [.one [.i .u64 y14,.i .u64 y15]],.sli 3 false (.arr .i64 y16 y17)]=>some (y0,y1,y2,y3,y4,y5,y6,y7,y8,y9,y10,y11,y12,y13,y14,y15,y16,y17)
 | _,_,_=>none
def qOm:Ex->List V->List Obj->Option (Nat×LI×LI×Int×LL×LL×Nat×LL):=fun e vs objs=>match e,vs,objs with
 | .exit 0,[.s (.sl 1 0 y0 true)],[.rcells 72 [.arr .i8 81 y1,.arr .i8 16 y2,.one [.i .i8 y3],.rows [.i .u64,.i .u64] 32 y4,.rows [.i .u64,.i .u64] 2 y5],.sli 37 false (.rows [.i .i64,.i .i64,.i .i64,.b] y6 y7)]=>some (y0,y1,y2,y3,y4,y5,y6,y7)
 | _,_,_=>none
def qOs:HL:=fun vs objs K=>match vs,objs with
 | [.s (.ptr 0 0 none 0),.s (.ptr 1 0 none 0),.s (.sl 2 0 x0 true),.s (.i .i64 x1),.s (.ptr 3 0 none 0),.s (.i .i64 x2),.s (.i .i8 x3),.s (.sl 4 0 x4 true),.s (.i .i64 x5),.s (.i .i64 x6),.s (.sl 5 0 x7 true),.s (.i .i64 x8),.s (.i .i64 x9)],[.rcells 72 [.arr .i8 81 x10,.arr .i8 16 x11,.one [.i .i8 x12],.rows [.i .u64,.i .u64] 32 x13,.rows [.i .u64,.i .u64] 2 x14],.cells 68 [.one [.i .u64 x15,.i .u64 x16]],.sli 37 false (.rows [.i .i64,.i .i64,.i .i64,.b] x17 x18),.cells 68 [.one [.i .u64 x19,.i .u64 x20]],.sli 3 false (.arr .i64 x21 x22),.sli 3 false (.arr .i64 x23 x24)]=>ob (qFC qB x0 x1 x2 x3 x4 x5 x6 x7 x8 x9 x10 x11 x12 x13 x14 x15 x16 x17 x18 x19 x20 x21 x22 x23 x24) fun z=>K (.exit 2) ([.s (.ptr 0 0 none 0),.s (.ptr 1 0 none 0),.s (.sl 2 0 (z.1) true),.s (.i .i64 (z.2.1)),.s (.ptr 3 0 none 0),.s (.sl 4 0 (z.2.2.1) true),.s (.i .i64 (z.2.2.2.1)),.s (.i .i64 (z.2.2.2.2.1))]) ([.rcells 72 [.arr .i8 81 (z.2.2.2.2.2.1),.arr .i8 16 (z.2.2.2.2.2.2.1),.one [.i .i8 (z.2.2.2.2.2.2.2.1)],.rows [.i .u64,.i .u64] 32 (z.2.2.2.2.2.2.2.2.1),.rows [.i .u64,.i .u64] 2 (z.2.2.2.2.2.2.2.2.2.1)],.cells 68 [.one [.i .u64 (z.2.2.2.2.2.2.2.2.2.2.1),.i .u64 (z.2.2.2.2.2.2.2.2.2.2.2.1)]],.sli 37 false (.rows [.i .i64,.i .i64,.i .i64,.b] (z.2.2.2.2.2.2.2.2.2.2.2.2.1) (z.2.2.2.2.2.2.2.2.2.2.2.2.2.1)),.cells 68 [.one [.i .u64 (z.2.2.2.2.2.2.2.2.2.2.2.2.2.2.1),.i .u64 (z.2.2.2.2.2.2.2.2.2.2.2.2.2.2.2.1)]],.sli 3 false (.arr .i64 (z.2.2.2.2.2.2.2.2.2.2.2.2.2.2.2.2.1) (z.2.2.2.2.2.2.2.2.2.2.2.2.2.2.2.2.2))])
 | _,_=>none
def qOr:HL:=fun vs objs K=>match vs,objs with
 | [.s (.ptr 0 0 none 0),.s (.ptr 1 0 none 0),.s (.sl 2 0 x0 true),.s (.i .i64 x1),.s (.ptr 3 0 none 0),.s (.sl 4 0 x2 true),.s (.i .i64 x3),.s (.i .i64 x4)],[.rcells 72 [.arr .i8 81 x5,.arr .i8 16 x6,.one [.i .i8 x7],.rows [.i .u64,.i .u64] 32 x8,.rows [.i .u64,.i .u64] 2 x9],.cells 68 [.one [.i .u64 x10,.i .u64 x11]],.sli 37 false (.rows [.i .i64,.i .i64,.i .i64,.b] x12 x13),.cells 68 [.one [.i .u64 x14,.i .u64 x15]],.sli 3 false (.arr .i64 x16 x17)]=>ob (qFB qB x0 x1 x2 x3 x4 x5 x6 x7 x8 x9 x10 x11 x12 x13 x14 x15 x16 x17) fun z=>K (.exit 0) ([.s (.sl 1 0 (z.1) true)]) ([.rcells 72 [.arr .i8 81 (z.2.1),.arr .i8 16 (z.2.2.1),.one [.i .i8 (z.2.2.2.1)],.rows [.i .u64,.i .u64] 32 (z.2.2.2.2.1),.rows [.i .u64,.i .u64] 2 (z.2.2.2.2.2.1)],.sli 37 false (.rows [.i .i64,.i .i64,.i .i64,.b] (z.2.2.2.2.2.2.1) (z.2.2.2.2.2.2.2))])
 | _,_=>none
def qkI:{R:Type}->Nat->List V->List Obj->(Ex->List V->List Obj->Option R)->Option R:=fun q vs objs K=>bif Nat.beq q 9 then qOs vs objs K else bif Nat.beq q 5 then qOr vs objs K else none
def qHR:Ctx:=mkC 82 ((qWq (qFp (qMf (qL6 (qHC (qF5 (qJy (qNz (qGo (qF8 qI))))))))))) [(5,[0,3,5,6,7,29,30,31],[5]),(9,[0,3,5,6,7,9,10,29,30,31,51,52,53],[0,3,5,6,7,29,30,31])] qkI
theorem qOl:CtxOK Tryz.prog qHR:=mkC_ok ((qkZ _ (qGj _ (qSX _ (qQm _ (qIz _ (qG7 _ (qMk _ (qUp _ (qIZ _ (qHA _ qK)))))))))))
def qOp (f:Nat) (x0:Nat) (x1 x2 x3:Int) (x4:Nat) (x5 x6:Int) (x7:Nat) (x8 x9:Int) (x10 x11:LI) (x12:Int) (x13 x14:LL) (x15 x16:Int) (x17:Nat) (x18:LL) (x19 x20:Int) (x21:Nat) (x22:LI) (x23:Nat) (x24:LI):Option (Nat×Int×Nat×Int×Int×LI×LI×Int×LL×LL×Int×Int×Nat×LL×Int×Int×Nat×LI):=qf qHR 1 [0,3,5,6,7,9,10,29,30,31,51,52,53] [0,3,5,6,7,29,30,31] (qD Tryz.f96 9) f ([.s (.ptr 0 0 none 0),.s (.ptr 1 0 none 0),.s (.sl 2 0 x0 true),.s (.i .i64 x1),.s (.ptr 3 0 none 0),.s (.i .i64 x2),.s (.i .i8 x3),.s (.sl 4 0 x4 true),.s (.i .i64 x5),.s (.i .i64 x6),.s (.sl 5 0 x7 true),.s (.i .i64 x8),.s (.i .i64 x9)]) ([.rcells 72 [.arr .i8 81 x10,.arr .i8 16 x11,.one [.i .i8 x12],.rows [.i .u64,.i .u64] 32 x13,.rows [.i .u64,.i .u64] 2 x14],.cells 68 [.one [.i .u64 x15,.i .u64 x16]],.sli 37 false (.rows [.i .i64,.i .i64,.i .i64,.b] x17 x18),.cells 68 [.one [.i .u64 x19,.i .u64 x20]],.sli 3 false (.arr .i64 x21 x22),.sli 3 false (.arr .i64 x23 x24)]) qOo
theorem qkH (f:Nat) (x0:Nat) (x1 x2 x3:Int) (x4:Nat) (x5 x6:Int) (x7:Nat) (x8 x9:Int) (x10 x11:LI) (x12:Int) (x13 x14:LL) (x15 x16:Int) (x17:Nat) (x18:LL) (x19 x20:Int) (x21:Nat) (x22:LI) (x23:Nat) (x24:LI):qOp (f+1) x0 x1 x2 x3 x4 x5 x6 x7 x8 x9 x10 x11 x12 x13 x14 x15 x16 x17 x18 x19 x20 x21 x22 x23 x24=qHT (qOp f) x0 x1 x2 x3 x4 x5 x6 x7 x8 x9 x10 x11 x12 x13 x14 x15 x16 x17 x18 x19 x20 x21 x22 x23 x24:=by kernel_rfl
theorem qWb:∀ f,qOp f=qFC f
 | 0=>rfl
 | f+1=>by funext x0 x1 x2 x3 x4 x5 x6 x7 x8 x9 x10 x11 x12 x13 x14 x15 x16 x17 x18 x19 x20 x21 x22 x23 x24;rw[qkH,qWb f];rfl
def qOn (f:Nat) (x0:Nat) (x1:Int) (x2:Nat) (x3 x4:Int) (x5 x6:LI) (x7:Int) (x8 x9:LL) (x10 x11:Int) (x12:Nat) (x13:LL) (x14 x15:Int) (x16:Nat) (x17:LI):Option (Nat×LI×LI×Int×LL×LL×Nat×LL):=qf qHR 1 [0,3,5,6,7,29,30,31] [5] (qD Tryz.f96 5) f ([.s (.ptr 0 0 none 0),.s (.ptr 1 0 none 0),.s (.sl 2 0 x0 true),.s (.i .i64 x1),.s (.ptr 3 0 none 0),.s (.sl 4 0 x2 true),.s (.i .i64 x3),.s (.i .i64 x4)]) ([.rcells 72 [.arr .i8 81 x5,.arr .i8 16 x6,.one [.i .i8 x7],.rows [.i .u64,.i .u64] 32 x8,.rows [.i .u64,.i .u64] 2 x9],.cells 68 [.one [.i .u64 x10,.i .u64 x11]],.sli 37 false (.rows [.i .i64,.i .i64,.i .i64,.b] x12 x13),.cells 68 [.one [.i .u64 x14,.i .u64 x15]],.sli 3 false (.arr .i64 x16 x17)]) qOm
theorem qkG (f:Nat) (x0:Nat) (x1:Int) (x2:Nat) (x3 x4:Int) (x5 x6:LI) (x7:Int) (x8 x9:LL) (x10 x11:Int) (x12:Nat) (x13:LL) (x14 x15:Int) (x16:Nat) (x17:LI):qOn (f+1) x0 x1 x2 x3 x4 x5 x6 x7 x8 x9 x10 x11 x12 x13 x14 x15 x16 x17=qHS (qOn f) x0 x1 x2 x3 x4 x5 x6 x7 x8 x9 x10 x11 x12 x13 x14 x15 x16 x17:=by kernel_rfl
theorem qWa:∀ f,qOn f=qFB f
 | 0=>rfl
 | f+1=>by funext x0 x1 x2 x3 x4 x5 x6 x7 x8 x9 x10 x11 x12 x13 x14 x15 x16 x17;rw[qkG,qWa f];rfl
theorem qkK:qZ Tryz.prog qHR 1 (qD Tryz.f96 9):=
 qg mixed qOl (qM.of (l':=[]) (by kernel_rfl) trivial) (q:=9) (kin:=[0,3,5,6,7,9,10,29,30,31,51,52,53]) (kout:=[0,3,5,6,7,29,30,31]) (by kernel_rfl) (by kernel_rfl) fun vs objs K r h=>by
  replace h:qOs vs objs K=some r:=h
  unfold qOs at h
  split at h
  ·skip
   obtain⟨t,h1,h2⟩:=qE h
   rw[<- qWb] at h1
   refine⟨_,qOo,t,qB,h1,fun e vs' objs' hd=>?_⟩
   unfold qOo at hd;split at hd;(cases hd;exact h2);cases hd
  ·cases h
theorem qkJ:qZ Tryz.prog qHR 1 (qD Tryz.f96 5):=
 qg mixed qOl (qM.of (l':=[qD Tryz.f96 9]) (by kernel_rfl) ⟨qkK,trivial⟩) (q:=5) (kin:=[0,3,5,6,7,29,30,31]) (kout:=[5]) (by kernel_rfl) (by kernel_rfl) fun vs objs K r h=>by
  replace h:qOr vs objs K=some r:=h
  unfold qOr at h
  split at h
  ·skip
   obtain⟨t,h1,h2⟩:=qE h
   rw[<- qWa] at h1
   refine⟨_,qOm,t,qB,h1,fun e vs' objs' hd=>?_⟩
   unfold qOm at hd;split at hd;(cases hd;exact h2);cases hd
  ·cases h
def qWZ:V->List Obj->Option (Nat×Nat×LL):=fun v objs=>match v,objs with
 | .s (.sl 1 0 y0 true),[.sli 37 false (.rows [.i .i64,.i .i64,.i .i64,.b] y1 y2)]=>some (y0,y1,y2)
 | _,_=>none
theorem qkF (x0 x1:Int) (x2 x3:LI) (x4:Int) (x5 x6:LL):fnE qHR Tryz.f96 ([.s (.ptr 0 0 none 0),.agg [.one [.i .u64 x0,.i .u64 x1]]]) ([.rcells 72 [.arr .i8 81 x2,.arr .i8 16 x3,.one [.i .i8 x4],.rows [.i .u64,.i .u64] 32 x5,.rows [.i .u64,.i .u64] 2 x6]]) (qAM 1 qWZ)=qHQ x0 x1 x2 x3 x4 x5 x6:=by kernel_rfl
def qWY:HA:=fun o vs objs K=>match vs,List.map Obj.toRO objs with
 | [.s (.ptr 0 0 none 0),.agg [.one [.i .u64 x0,.i .u64 x1]]],[.rcells 72 [.arr .i8 81 x2,.arr .i8 16 x3,.one [.i .i8 x4],.rows [.i .u64,.i .u64] 32 x5,.rows [.i .u64,.i .u64] 2 x6]]=>ob (qHQ x0 x1 x2 x3 x4 x5 x6) fun z=>K true (.s (.sl 1 0 (z.1) true)) ([.sli 37 false (.rows [.i .i64,.i .i64,.i .i64,.b] (z.2.1) (z.2.2))])
 | _,_=>o 96 vs objs K
def qOq (o:Orc):Orc:=qJ 96 (qWY o) o
theorem qWc:OQ Tryz.prog qOq:=fun _ ho=>qL ho fun vs objs K r h=>by
 unfold qWY at h
 split at h
 ·skip
  have hq:List.map Obj.toRO objs=_:=(by rename_i hq;first | exact hq | assumption)
  obtain⟨t,h1,h2⟩:=qE h
  refine qAj mixed qOl (m:=1) (fn:=Tryz.f96) (b:=(Tryz.f96).body.getD .skip) (by kernel_rfl) (by kernel_rfl) (by kernel_rfl) hq (by kernel_rfl) (by kernel_rfl) (qM.of (l':=[qD Tryz.f96 5]) (by kernel_rfl) ⟨qkJ,trivial⟩) ((qkF _ _ _ _ _ _ _).trans h1) fun v objs' hd=>?_
  unfold qWZ at hd;split at hd;(cases hd;exact h2);cases hd
 ·exact ho _ _ _ _ _ h
def qX8:Ctx:=mkC 49 ((qGn (qIU (qNP (qJz (qHC qI)))))) [] qU
theorem ql0:CtxOK Tryz.prog qX8:=mkC_ok ((qIV _ (qJw _ (qT5 _ (qMl _ (qIz _ qK))))))
def qX9:V->List Obj->Option (Bool×LI×LI×Int×LL×LL×List (LI×LI)):=fun v objs=>match v,objs with
 | .s (.b y0),[.cells 72 [.arr .i8 81 y1,.arr .i8 16 y2,.one [.i .i8 y3],.rows [.i .u64,.i .u64] 32 y4,.rows [.i .u64,.i .u64] 2 y5],.map false true [.i .i64] [.i .u64,.i .u64] y6]=>some (y0,y1,y2,y3,y4,y5,y6)
 | _,_=>none
theorem qlz (x0 x1:Int) (x2 x3:Int) (x4:Bool) (x5 x6 x7:Int) (x8:Bool) (x9 x10:LI) (x11:Int) (x12 x13:LL) (x14:List (LI×LI)):fnE qX8 Tryz.f98 ([.agg [.one [.ptr 0 0 none 0,.i .i64 x0,.i .i64 x1,.i .u64 x2,.i .u64 x3,.mp 1,.b x4]],.agg [.one [.i .i64 x5,.i .i64 x6,.i .i64 x7,.b x8]]]) ([.cells 72 [.arr .i8 81 x9,.arr .i8 16 x10,.one [.i .i8 x11],.rows [.i .u64,.i .u64] 32 x12,.rows [.i .u64,.i .u64] 2 x13],.map false true [.i .i64] [.i .u64,.i .u64] x14]) qX9=qHo x0 x1 x2 x3 x4 x5 x6 x7 x8 x9 x10 x11 x12 x13 x14:=by kernel_rfl
def qX7:HA:=fun o vs objs K=>match vs,objs with
 | [.agg [.one [.ptr 0 0 none 0,.i .i64 x0,.i .i64 x1,.i .u64 x2,.i .u64 x3,.mp 1,.b x4]],.agg [.one [.i .i64 x5,.i .i64 x6,.i .i64 x7,.b x8]]],[.cells 72 [.arr .i8 81 x9,.arr .i8 16 x10,.one [.i .i8 x11],.rows [.i .u64,.i .u64] 32 x12,.rows [.i .u64,.i .u64] 2 x13],.map false true [.i .i64] [.i .u64,.i .u64] x14]=>ob (qHo x0 x1 x2 x3 x4 x5 x6 x7 x8 x9 x10 x11 x12 x13 x14) fun z=>K false (.s (.b (z.1))) ([.cells 72 [.arr .i8 81 (z.2.1),.arr .i8 16 (z.2.2.1),.one [.i .i8 (z.2.2.2.1)],.rows [.i .u64,.i .u64] 32 (z.2.2.2.2.1),.rows [.i .u64,.i .u64] 2 (z.2.2.2.2.2.1)],.map false true [.i .i64] [.i .u64,.i .u64] (z.2.2.2.2.2.2)])
 | _,_=>o 98 vs objs K
def qPn (o:Orc):Orc:=qJ 98 (qX7 o) o
theorem qYA:OQ Tryz.prog qPn:=fun _ ho=>qL ho fun vs objs K r h=>by
 unfold qX7 at h
 split at h
 ·skip
  obtain⟨t,h1,h2⟩:=qE h
  refine qa mixed ql0 ((qlz _ _ _ _ _ _ _ _ _ _ _ _ _ _ _).trans h1) (by kernel_rfl) fun v objs' hd=>?_
  unfold qX9 at hd;split at hd;(cases hd;exact h2);cases hd
 ·exact ho _ _ _ _ _ h
def qUa:Ctx:=mkC 31 (qI) [] qU
theorem qhj:CtxOK Tryz.prog qUa:=mkC_ok (qK)
def qUb:V->List Obj->Option (Int):=fun v objs=>match v,objs with
 | .s (.i .i64 y0),[]=>some (y0)
 | _,_=>none
theorem qhi (x0 x1:Int) (x2 x3:LI) (x4:Int) (x5 x6:LL):fnE qUa Tryz.f101 ([.s (.ptr 0 0 none 0),.s (.i .i64 x0),.s (.i .i64 x1)]) ([.rcells 72 [.arr .i8 81 x2,.arr .i8 16 x3,.one [.i .i8 x4],.rows [.i .u64,.i .u64] 32 x5,.rows [.i .u64,.i .u64] 2 x6]]) (qAM 1 qUb)=qCk x0 x1 x2 x3 x4 x5 x6:=by kernel_rfl
def qUZ:HA:=fun o vs objs K=>match vs,List.map Obj.toRO objs with
 | [.s (.ptr 0 0 none 0),.s (.i .i64 x0),.s (.i .i64 x1)],[.rcells 72 [.arr .i8 81 x2,.arr .i8 16 x3,.one [.i .i8 x4],.rows [.i .u64,.i .u64] 32 x5,.rows [.i .u64,.i .u64] 2 x6]]=>ob (qCk x0 x1 x2 x3 x4 x5 x6) fun y0=>K true (.s (.i .i64 y0)) ([])
 | _,_=>o 101 vs objs K
def qKV (o:Orc):Orc:=qJ 101 (qUZ o) o
theorem qNt:OQ Tryz.prog qKV:=fun _ ho=>qL ho fun vs objs K r h=>by
 unfold qUZ at h
 split at h
 ·skip
  have hq:List.map Obj.toRO objs=_:=(by rename_i hq;first | exact hq | assumption)
  obtain⟨t,h1,h2⟩:=qE h
  refine qAj mixed qhj (m:=1) (fn:=Tryz.f101) (b:=(Tryz.f101).body.getD .skip) (by kernel_rfl) (by kernel_rfl) (by kernel_rfl) hq (by kernel_rfl) (by kernel_rfl) (qM.of (l':=[]) (by kernel_rfl) trivial) ((qhi _ _ _ _ _ _ _).trans h1) fun v objs' hd=>?_
  unfold qUb at hd;split at hd;(cases hd;exact h2);cases hd
 ·exact ho _ _ _ _ _ h
def qdq:Ctx:=mkC 6 ((qMf (qJv qI))) [] qU
theorem qsU:CtxOK Tryz.prog qdq:=mkC_ok ((qSX _ (qMZ _ qK)))
def qdr:V->List Obj->Option (Int×Int):=fun v objs=>match v,objs with
 | .agg [.one [.i .u64 y0,.i .u64 y1]],[]=>some (y0,y1)
 | _,_=>none
theorem qsT (x0 x1:Int):fnE qdq Tryz.f153 ([.agg [.one [.i .u64 x0,.i .u64 x1]]]) ([]) qdr=qJx x0 x1:=by kernel_rfl
def qdp:HA:=fun o vs objs K=>match vs,objs with
 | [.agg [.one [.i .u64 x0,.i .u64 x1]]],[]=>ob (qJx x0 x1) fun z=>K false (.agg [.one [.i .u64 (z.1),.i .u64 (z.2)]]) ([])
 | _,_=>o 153 vs objs K
def qds (o:Orc):Orc:=qJ 153 (qdp o) o
theorem qsV:OQ Tryz.prog qds:=fun _ ho=>qL ho fun vs objs K r h=>by
 unfold qdp at h
 split at h
 ·skip
  obtain⟨t,h1,h2⟩:=qE h
  refine qa mixed qsU ((qsT _ _).trans h1) (by kernel_rfl) fun v objs' hd=>?_
  unfold qdr at hd;split at hd;(cases hd;exact h2);cases hd
 ·exact ho _ _ _ _ _ h
end
end Go.Kk.KkLP
