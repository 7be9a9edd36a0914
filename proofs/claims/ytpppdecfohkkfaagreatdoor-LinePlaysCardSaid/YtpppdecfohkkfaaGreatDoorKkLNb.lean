/- Printed by a tool of this project (KkGen): the program's functions come to the plain ones. -/
import Derived.Test.YtpppdecfohkkfaaGreatDoorKkLN
namespace Go.Kk.KkLN
noncomputable section
open Go.Proofs Go.Kk.Pl
set_option maxRecDepth 100000
set_option maxHeartbeats 4000000
def qdE:Ctx:=mkC 6 (qI) [] qU
theorem qrw:CtxOK Tryz.prog qdE:=mkC_ok (qK)
def qdF:V->List Obj->Option (Bool):=fun v objs=>match v,objs with
 | .s (.b y0),[]=>some (y0)
 | _,_=>none
theorem qrv (x0 x1:Int):fnE qdE Tryz.f84 ([.agg [.one [.i .u64 x0,.i .u64 x1]]]) ([]) qdF=qEc x0 x1:=by kernel_rfl
def qdD:HA:=fun o vs objs K=>match vs,objs with
 | [.agg [.one [.i .u64 x0,.i .u64 x1]]],[]=>ob (qEc x0 x1) fun y0=>K false (.s (.b y0)) ([])
 | _,_=>o 84 vs objs K
def qIN (o:Orc):Orc:=qJ 84 (qdD o) o
theorem qJk:OQ Tryz.prog qIN:=fun _ ho=>qL ho fun vs objs K r h=>by
 unfold qdD at h
 split at h
 ·skip
  obtain ⟨t,h1,h2⟩:=qD h
  refine qX mixed qrw ((qrv _ _).trans h1) (by kernel_rfl) fun v objs' hd=>?_
  unfold qdF at hd;split at hd;(cases hd;exact h2);cases hd
 ·exact ho _ _ _ _ _ h
def qdN:Ctx:=mkC 11 ((qIN (qFm (qMc qI)))) [] qU
theorem qr2:CtxOK Tryz.prog qdN:=mkC_ok ((qJk _ (qGa _ (qSW _ qK))))
def qdO:V->List Obj->Option (Bool):=fun v objs=>match v,objs with
 | .s (.b y0),[]=>some (y0)
 | _,_=>none
theorem qr1 (x0 x1 x2:Int):fnE qdN Tryz.f133 ([.agg [.one [.i .u64 x0,.i .u64 x1]],.s (.i .i64 x2)]) ([]) qdO=qCG x0 x1 x2:=by kernel_rfl
def qdM:HA:=fun o vs objs K=>match vs,objs with
 | [.agg [.one [.i .u64 x0,.i .u64 x1]],.s (.i .i64 x2)],[]=>ob (qCG x0 x1 x2) fun y0=>K false (.s (.b y0)) ([])
 | _,_=>o 133 vs objs K
def qGe (o:Orc):Orc:=qJ 133 (qdM o) o
theorem qIO:OQ Tryz.prog qGe:=fun _ ho=>qL ho fun vs objs K r h=>by
 unfold qdM at h
 split at h
 ·skip
  obtain ⟨t,h1,h2⟩:=qD h
  refine qX mixed qr2 ((qr1 _ _ _).trans h1) (by kernel_rfl) fun v objs' hd=>?_
  unfold qdO at hd;split at hd;(cases hd;exact h2);cases hd
 ·exact ho _ _ _ _ _ h
def qQj:Ex->List V->List Obj->Option (Int×Int×Int×Int):=fun e vs objs=>match e,vs,objs with
 | .exit 0,[.s (.ptr 0 0 none 0),.s (.ptr 1 0 none 0)],[.cells 68 [.one [.i .u64 y0,.i .u64 y1]],.cells 68 [.one [.i .u64 y2,.i .u64 y3]]]=>some (y0,y1,y2,y3)
 | _,_,_=>none
def qQm:HL:=fun vs objs K=>match vs,objs with
 | [.s (.i .i64 x0),.s (.ptr 0 0 none 0),.s (.ptr 1 0 none 0),.s (.ptr 2 0 none 0),.s (.ptr 3 0 none 0)],[.cells 164 [.one [.i .i64 x1,.i .i64 x2]],.cells 68 [.one [.i .u64 x3,.i .u64 x4]],.cells 68 [.one [.i .u64 x5,.i .u64 x6]],.cells 68 [.one [.i .u64 x7,.i .u64 x8]]]=>ob (qGT qB x0 x1 x2 x3 x4 x5 x6 x7 x8) fun z=>K (.exit 0) ([.s (.ptr 0 0 none 0),.s (.ptr 1 0 none 0)]) ([.cells 68 [.one [.i .u64 (z.1),.i .u64 (z.2.1)]],.cells 68 [.one [.i .u64 (z.2.2.1),.i .u64 (z.2.2.2)]]])
 | _,_=>none
def qo0:{R:Type}->Nat->List V->List Obj->(Ex->List V->List Obj->Option R)->Option R:=fun q vs objs K=>bif Nat.beq q 5 then qQm vs objs K else none
def qLy:Ctx:=mkC 27 ((qGe (qEe (qSf qI)))) [(5,[0,4,5,6,7],[6,7])] qo0
theorem qaN:CtxOK Tryz.prog qLy:=mkC_ok ((qIO _ (qFq _ (qeJ _ qK))))
def qQk (f:Nat) (x0 x1:Int) (x2 x3:Int) (x4 x5:Int) (x6 x7 x8:Int):Option (Int×Int×Int×Int):=qe qLy 0 [0,4,5,6,7] [6,7] (qE Tryz.f147 5) f ([.s (.i .i64 x0),.s (.ptr 0 0 none 0),.s (.ptr 1 0 none 0),.s (.ptr 2 0 none 0),.s (.ptr 3 0 none 0)]) ([.cells 164 [.one [.i .i64 x1,.i .i64 x2]],.cells 68 [.one [.i .u64 x3,.i .u64 x4]],.cells 68 [.one [.i .u64 x5,.i .u64 x6]],.cells 68 [.one [.i .u64 x7,.i .u64 x8]]]) qQj
theorem qoz (f:Nat) (x0 x1:Int) (x2 x3:Int) (x4 x5:Int) (x6 x7 x8:Int):qQk (f+1) x0 x1 x2 x3 x4 x5 x6 x7 x8=qHx (qQk f) x0 x1 x2 x3 x4 x5 x6 x7 x8:=by kernel_rfl
theorem qaP:∀ f,qQk f=qGT f
 | 0=>rfl
 | f+1=>by funext x0 x1 x2 x3 x4 x5 x6 x7 x8; rw [qoz,qaP f]; rfl
theorem qo1:qa Tryz.prog qLy 0 (qE Tryz.f147 5):=
 qg mixed qaN (qM.of (l':=[]) (by kernel_rfl) trivial) (q:=5) (kin:=[0,4,5,6,7]) (kout:=[6,7]) (by kernel_rfl) (by kernel_rfl) fun vs objs K r h=>by
  replace h:qQm vs objs K=some r:=h
  unfold qQm at h
  split at h
  ·skip
   obtain ⟨t,h1,h2⟩:=qD h
   rw [<- qaP] at h1
   refine ⟨_,qQj,t,qB,h1,fun e vs' objs' hd=>?_⟩
   unfold qQj at hd;split at hd;(cases hd;exact h2);cases hd
  ·cases h
def qaO:V->List Obj->Option (Int×Int):=fun v objs=>match v,objs with
 | .agg [.one [.i .u64 y0,.i .u64 y1]],[]=>some (y0,y1)
 | _,_=>none
theorem qoy (x0 x1:Int) (x2 x3 x4:Int):fnE qLy Tryz.f147 ([.s (.i .i64 x0),.agg [.one [.i .i64 x1,.i .i64 x2]],.agg [.one [.i .u64 x3,.i .u64 x4]]]) ([]) qaO=qHw x0 x1 x2 x3 x4:=by kernel_rfl
def qaM:HA:=fun o vs objs K=>match vs,objs with
 | [.s (.i .i64 x0),.agg [.one [.i .i64 x1,.i .i64 x2]],.agg [.one [.i .u64 x3,.i .u64 x4]]],[]=>ob (qHw x0 x1 x2 x3 x4) fun z=>K false (.agg [.one [.i .u64 (z.1),.i .u64 (z.2)]]) ([])
 | _,_=>o 147 vs objs K
def qQl (o:Orc):Orc:=qJ 147 (qaM o) o
theorem qaQ:OQ Tryz.prog qQl:=fun _ ho=>qL ho fun vs objs K r h=>by
 unfold qaM at h
 split at h
 ·skip
  obtain ⟨t,h1,h2⟩:=qD h
  refine q7 mixed qaN (fn:=Tryz.f147) (b:=(Tryz.f147).body.getD .skip) (by kernel_rfl) (by kernel_rfl) (by kernel_rfl) ((qoy _ _ _ _ _).trans h1) (m:=0) rfl (qM.of (l':=[qE Tryz.f147 5]) (by kernel_rfl) ⟨qo1,trivial⟩) fun v objs' hd=>?_
  unfold qaO at hd;split at hd;(cases hd;exact h2);cases hd
 ·exact ho _ _ _ _ _ h
def qQf:Ex->List V->List Obj->Option (Int×Int×Int×Int):=fun e vs objs=>match e,vs,objs with
 | .exit 0,[.s (.ptr 0 0 none 0),.s (.ptr 1 0 none 0)],[.cells 68 [.one [.i .u64 y0,.i .u64 y1]],.cells 68 [.one [.i .u64 y2,.i .u64 y3]]]=>some (y0,y1,y2,y3)
 | _,_,_=>none
def qQi:HL:=fun vs objs K=>match vs,objs with
 | [.s (.i .i8 x0),.s (.i .i64 x1),.s (.ptr 0 0 none 0),.s (.ptr 1 0 none 0),.s (.ptr 2 0 none 0),.s (.sl 3 0 x2 true),.s (.i .i64 x3),.s (.i .i64 x4)],[.cells 68 [.one [.i .u64 x5,.i .u64 x6]],.cells 68 [.one [.i .u64 x7,.i .u64 x8]],.cells 68 [.one [.i .u64 x9,.i .u64 x10]],.sli 164 false (.rows [.i .i64,.i .i64] x11 x12)]=>ob (qFW qB x0 x1 x2 x3 x4 x5 x6 x7 x8 x9 x10 x11 x12) fun z=>K (.exit 0) ([.s (.ptr 0 0 none 0),.s (.ptr 1 0 none 0)]) ([.cells 68 [.one [.i .u64 (z.1),.i .u64 (z.2.1)]],.cells 68 [.one [.i .u64 (z.2.2.1),.i .u64 (z.2.2.2)]]])
 | _,_=>none
def qow:{R:Type}->Nat->List V->List Obj->(Ex->List V->List Obj->Option R)->Option R:=fun q vs objs K=>bif Nat.beq q 3 then qQi vs objs K else none
def qLw:Ctx:=mkC 32 ((qGf (qQl (qSg (qDj (qQe (qCr (qeY qI)))))))) [(3,[0,1,5,6,7,15,16,17],[6,7])] qow
theorem qaJ:CtxOK Tryz.prog qLw:=mkC_ok ((qIS _ (qaQ _ (qeN _ (qET _ (qaH _ (qDC _ (qtG _ qK))))))))
def qQg (f:Nat) (x0 x1:Int) (x2:Nat) (x3 x4:Int) (x5 x6:Int) (x7 x8:Int) (x9 x10:Int) (x11:Nat) (x12:LL):Option (Int×Int×Int×Int):=qe qLw 0 [0,1,5,6,7,15,16,17] [6,7] (qE Tryz.f130 3) f ([.s (.i .i8 x0),.s (.i .i64 x1),.s (.ptr 0 0 none 0),.s (.ptr 1 0 none 0),.s (.ptr 2 0 none 0),.s (.sl 3 0 x2 true),.s (.i .i64 x3),.s (.i .i64 x4)]) ([.cells 68 [.one [.i .u64 x5,.i .u64 x6]],.cells 68 [.one [.i .u64 x7,.i .u64 x8]],.cells 68 [.one [.i .u64 x9,.i .u64 x10]],.sli 164 false (.rows [.i .i64,.i .i64] x11 x12)]) qQf
theorem qov (f:Nat) (x0 x1:Int) (x2:Nat) (x3 x4:Int) (x5 x6:Int) (x7 x8:Int) (x9 x10:Int) (x11:Nat) (x12:LL):qQg (f+1) x0 x1 x2 x3 x4 x5 x6 x7 x8 x9 x10 x11 x12=qHv (qQg f) x0 x1 x2 x3 x4 x5 x6 x7 x8 x9 x10 x11 x12:=by kernel_rfl
theorem qaL:∀ f,qQg f=qFW f
 | 0=>rfl
 | f+1=>by funext x0 x1 x2 x3 x4 x5 x6 x7 x8 x9 x10 x11 x12; rw [qov,qaL f]; rfl
theorem qox:qa Tryz.prog qLw 0 (qE Tryz.f130 3):=
 qg mixed qaJ (qM.of (l':=[]) (by kernel_rfl) trivial) (q:=3) (kin:=[0,1,5,6,7,15,16,17]) (kout:=[6,7]) (by kernel_rfl) (by kernel_rfl) fun vs objs K r h=>by
  replace h:qQi vs objs K=some r:=h
  unfold qQi at h
  split at h
  ·skip
   obtain ⟨t,h1,h2⟩:=qD h
   rw [<- qaL] at h1
   refine ⟨_,qQf,t,qB,h1,fun e vs' objs' hd=>?_⟩
   unfold qQf at hd;split at hd;(cases hd;exact h2);cases hd
  ·cases h
def qaK:V->List Obj->Option (Int×Int):=fun v objs=>match v,objs with
 | .agg [.one [.i .u64 y0,.i .u64 y1]],[]=>some (y0,y1)
 | _,_=>none
theorem qou (x0 x1:Int) (x2 x3:Int):fnE qLw Tryz.f130 ([.s (.i .i8 x0),.s (.i .i64 x1),.agg [.one [.i .u64 x2,.i .u64 x3]]]) ([]) qaK=qFV x0 x1 x2 x3:=by kernel_rfl
def qaI:HA:=fun o vs objs K=>match vs,objs with
 | [.s (.i .i8 x0),.s (.i .i64 x1),.agg [.one [.i .u64 x2,.i .u64 x3]]],[]=>ob (qFV x0 x1 x2 x3) fun z=>K false (.agg [.one [.i .u64 (z.1),.i .u64 (z.2)]]) ([])
 | _,_=>o 130 vs objs K
def qLx (o:Orc):Orc:=qJ 130 (qaI o) o
theorem qQh:OQ Tryz.prog qLx:=fun _ ho=>qL ho fun vs objs K r h=>by
 unfold qaI at h
 split at h
 ·skip
  obtain ⟨t,h1,h2⟩:=qD h
  refine q7 mixed qaJ (fn:=Tryz.f130) (b:=(Tryz.f130).body.getD .skip) (by kernel_rfl) (by kernel_rfl) (by kernel_rfl) ((qou _ _ _ _).trans h1) (m:=0) rfl (qM.of (l':=[qE Tryz.f130 3]) (by kernel_rfl) ⟨qox,trivial⟩) fun v objs' hd=>?_
  unfold qaK at hd;split at hd;(cases hd;exact h2);cases hd
 ·exact ho _ _ _ _ _ h
def qNF:Ex->List V->List Obj->Option (LI×LI×Int×LL×LL×Int×Int×Int×Int):=fun e vs objs=>match e,vs,objs with
 | .exit 0,[.s (.ptr 1 0 none 0),.s (.ptr 2 0 none 0)],[.rcells 72 [.arr .i8 81 y0,.arr .i8 16 y1,.one [.i .i8 y2],.rows [.i .u64,.i .u64] 32 y3,.rows [.i .u64,.i .u64] 2 y4],.cells 68 [.one [.i .u64 y5,.i .u64 y6]],.cells 68 [.one [.i .u64 y7,.i .u64 y8]]]=>some (y0,y1,y2,y3,y4,y5,y6,y7,y8)
 | _,_,_=>none
def qNI:HL:=fun vs objs K=>match vs,objs with
 | [.s (.ptr 0 0 none 0),.s (.i .i64 x0),.s (.i .i64 x1),.s (.ptr 1 0 none 0),.s (.ptr 2 0 none 0),.s (.ptr 3 0 none 0),.s (.i .i64 x2)],[.rcells 72 [.arr .i8 81 x3,.arr .i8 16 x4,.one [.i .i8 x5],.rows [.i .u64,.i .u64] 32 x6,.rows [.i .u64,.i .u64] 2 x7],.cells 68 [.one [.i .u64 x8,.i .u64 x9]],.cells 68 [.one [.i .u64 x10,.i .u64 x11]],.cells 68 [.one [.i .u64 x12,.i .u64 x13]]]=>ob (qEA qB x0 x1 x2 x3 x4 x5 x6 x7 x8 x9 x10 x11 x12 x13) fun z=>K (.exit 0) ([.s (.ptr 1 0 none 0),.s (.ptr 2 0 none 0)]) ([.rcells 72 [.arr .i8 81 (z.1),.arr .i8 16 (z.2.1),.one [.i .i8 (z.2.2.1)],.rows [.i .u64,.i .u64] 32 (z.2.2.2.1),.rows [.i .u64,.i .u64] 2 (z.2.2.2.2.1)],.cells 68 [.one [.i .u64 (z.2.2.2.2.2.1),.i .u64 (z.2.2.2.2.2.2.1)]],.cells 68 [.one [.i .u64 (z.2.2.2.2.2.2.2.1),.i .u64 (z.2.2.2.2.2.2.2.2)]]])
 | _,_=>none
def qga:{R:Type}->Nat->List V->List Obj->(Ex->List V->List Obj->Option R)->Option R:=fun q vs objs K=>bif Nat.beq q 5 then qNI vs objs K else none
def qKE:Ctx:=mkC 49 ((qGf (qFm (qF5 (qLx (qDi qI)))))) [(5,[0,1,2,7,8,9,10],[8,9])] qga
theorem qTr:CtxOK Tryz.prog qKE:=mkC_ok ((qIS _ (qGa _ (qG1 _ (qQh _ (qES _ qK))))))
def qNG (f:Nat) (x0 x1 x2:Int) (x3 x4:LI) (x5:Int) (x6 x7:LL) (x8 x9:Int) (x10 x11:Int) (x12 x13:Int):Option (LI×LI×Int×LL×LL×Int×Int×Int×Int):=qe qKE 1 [0,1,2,7,8,9,10] [8,9] (qE Tryz.f111 5) f ([.s (.ptr 0 0 none 0),.s (.i .i64 x0),.s (.i .i64 x1),.s (.ptr 1 0 none 0),.s (.ptr 2 0 none 0),.s (.ptr 3 0 none 0),.s (.i .i64 x2)]) ([.rcells 72 [.arr .i8 81 x3,.arr .i8 16 x4,.one [.i .i8 x5],.rows [.i .u64,.i .u64] 32 x6,.rows [.i .u64,.i .u64] 2 x7],.cells 68 [.one [.i .u64 x8,.i .u64 x9]],.cells 68 [.one [.i .u64 x10,.i .u64 x11]],.cells 68 [.one [.i .u64 x12,.i .u64 x13]]]) qNF
theorem qgZ (f:Nat) (x0 x1 x2:Int) (x3 x4:LI) (x5:Int) (x6 x7:LL) (x8 x9:Int) (x10 x11:Int) (x12 x13:Int):qNG (f+1) x0 x1 x2 x3 x4 x5 x6 x7 x8 x9 x10 x11 x12 x13=qGu (qNG f) x0 x1 x2 x3 x4 x5 x6 x7 x8 x9 x10 x11 x12 x13:=by kernel_rfl
theorem qTt:∀ f,qNG f=qEA f
 | 0=>rfl
 | f+1=>by funext x0 x1 x2 x3 x4 x5 x6 x7 x8 x9 x10 x11 x12 x13; rw [qgZ,qTt f]; rfl
theorem qgb:qa Tryz.prog qKE 1 (qE Tryz.f111 5):=
 qg mixed qTr (qM.of (l':=[]) (by kernel_rfl) trivial) (q:=5) (kin:=[0,1,2,7,8,9,10]) (kout:=[8,9]) (by kernel_rfl) (by kernel_rfl) fun vs objs K r h=>by
  replace h:qNI vs objs K=some r:=h
  unfold qNI at h
  split at h
  ·skip
   obtain ⟨t,h1,h2⟩:=qD h
   rw [<- qTt] at h1
   refine ⟨_,qNF,t,qB,h1,fun e vs' objs' hd=>?_⟩
   unfold qNF at hd;split at hd;(cases hd;exact h2);cases hd
  ·cases h
def qTs:V->List Obj->Option (Int×Int):=fun v objs=>match v,objs with
 | .agg [.one [.i .u64 y0,.i .u64 y1]],[]=>some (y0,y1)
 | _,_=>none
theorem qgY (x0 x1:Int) (x2 x3:Int) (x4 x5:LI) (x6:Int) (x7 x8:LL):fnE qKE Tryz.f111 ([.s (.ptr 0 0 none 0),.s (.i .i64 x0),.s (.i .i64 x1),.agg [.one [.i .u64 x2,.i .u64 x3]]]) ([.rcells 72 [.arr .i8 81 x4,.arr .i8 16 x5,.one [.i .i8 x6],.rows [.i .u64,.i .u64] 32 x7,.rows [.i .u64,.i .u64] 2 x8]]) (qAK 1 qTs)=qGt x0 x1 x2 x3 x4 x5 x6 x7 x8:=by kernel_rfl
def qTq:HA:=fun o vs objs K=>match vs,List.map Obj.toRO objs with
 | [.s (.ptr 0 0 none 0),.s (.i .i64 x0),.s (.i .i64 x1),.agg [.one [.i .u64 x2,.i .u64 x3]]],[.rcells 72 [.arr .i8 81 x4,.arr .i8 16 x5,.one [.i .i8 x6],.rows [.i .u64,.i .u64] 32 x7,.rows [.i .u64,.i .u64] 2 x8]]=>ob (qGt x0 x1 x2 x3 x4 x5 x6 x7 x8) fun z=>K true (.agg [.one [.i .u64 (z.1),.i .u64 (z.2)]]) ([])
 | _,_=>o 111 vs objs K
def qNH (o:Orc):Orc:=qJ 111 (qTq o) o
theorem qTu:OQ Tryz.prog qNH:=fun _ ho=>qL ho fun vs objs K r h=>by
 unfold qTq at h
 split at h
 ·skip
  have hq:List.map Obj.toRO objs=_:=(by rename_i hq; first | exact hq | assumption)
  obtain ⟨t,h1,h2⟩:=qD h
  refine qAc mixed qTr (m:=1) (fn:=Tryz.f111) (b:=(Tryz.f111).body.getD .skip) (by kernel_rfl) (by kernel_rfl) (by kernel_rfl) hq (by kernel_rfl) (by kernel_rfl) (qM.of (l':=[qE Tryz.f111 5]) (by kernel_rfl) ⟨qgb,trivial⟩) ((qgY _ _ _ _ _ _ _ _ _).trans h1) fun v objs' hd=>?_
  unfold qTs at hd;split at hd;(cases hd;exact h2);cases hd
 ·exact ho _ _ _ _ _ h
def qTj:Ctx:=mkC 14 ((qNH (qG3 (qKM qI)))) [] qU
theorem qgU:CtxOK Tryz.prog qTj:=mkC_ok ((qTu _ (qIo _ (qNm _ qK))))
def qTk:V->List Obj->Option (Int×Int):=fun v objs=>match v,objs with
 | .agg [.one [.i .u64 y0,.i .u64 y1]],[]=>some (y0,y1)
 | _,_=>none
theorem qgT (x0:Int) (x1 x2:LI) (x3:Int) (x4 x5:LL):fnE qTj Tryz.f83 ([.s (.ptr 0 0 none 0),.s (.i .i64 x0)]) ([.rcells 72 [.arr .i8 81 x1,.arr .i8 16 x2,.one [.i .i8 x3],.rows [.i .u64,.i .u64] 32 x4,.rows [.i .u64,.i .u64] 2 x5]]) (qAK 1 qTk)=qFz x0 x1 x2 x3 x4 x5:=by kernel_rfl
def qTi:HA:=fun o vs objs K=>match vs,List.map Obj.toRO objs with
 | [.s (.ptr 0 0 none 0),.s (.i .i64 x0)],[.rcells 72 [.arr .i8 81 x1,.arr .i8 16 x2,.one [.i .i8 x3],.rows [.i .u64,.i .u64] 32 x4,.rows [.i .u64,.i .u64] 2 x5]]=>ob (qFz x0 x1 x2 x3 x4 x5) fun z=>K true (.agg [.one [.i .u64 (z.1),.i .u64 (z.2)]]) ([])
 | _,_=>o 83 vs objs K
def qKD (o:Orc):Orc:=qJ 83 (qTi o) o
theorem qND:OQ Tryz.prog qKD:=fun _ ho=>qL ho fun vs objs K r h=>by
 unfold qTi at h
 split at h
 ·skip
  have hq:List.map Obj.toRO objs=_:=(by rename_i hq; first | exact hq | assumption)
  obtain ⟨t,h1,h2⟩:=qD h
  refine qAc mixed qgU (m:=1) (fn:=Tryz.f83) (b:=(Tryz.f83).body.getD .skip) (by kernel_rfl) (by kernel_rfl) (by kernel_rfl) hq (by kernel_rfl) (by kernel_rfl) (qM.of (l':=[]) (by kernel_rfl) trivial) ((qgT _ _ _ _ _ _).trans h1) fun v objs' hd=>?_
  unfold qTk at hd;split at hd;(cases hd;exact h2);cases hd
 ·exact ho _ _ _ _ _ h
def qTn:Ctx:=mkC 10 ((qIN (qKD qI))) [] qU
theorem qgW:CtxOK Tryz.prog qTn:=mkC_ok ((qJk _ (qND _ qK)))
def qTo:V->List Obj->Option (Bool):=fun v objs=>match v,objs with
 | .s (.b y0),[]=>some (y0)
 | _,_=>none
theorem qgV (x0:Int) (x1 x2:LI) (x3:Int) (x4 x5:LL):fnE qTn Tryz.f41 ([.s (.ptr 0 0 none 0),.s (.i .i64 x0)]) ([.rcells 72 [.arr .i8 81 x1,.arr .i8 16 x2,.one [.i .i8 x3],.rows [.i .u64,.i .u64] 32 x4,.rows [.i .u64,.i .u64] 2 x5]]) (qAK 1 qTo)=qIk x0 x1 x2 x3 x4 x5:=by kernel_rfl
def qTm:HA:=fun o vs objs K=>match vs,List.map Obj.toRO objs with
 | [.s (.ptr 0 0 none 0),.s (.i .i64 x0)],[.rcells 72 [.arr .i8 81 x1,.arr .i8 16 x2,.one [.i .i8 x3],.rows [.i .u64,.i .u64] 32 x4,.rows [.i .u64,.i .u64] 2 x5]]=>ob (qIk x0 x1 x2 x3 x4 x5) fun y0=>K true (.s (.b y0)) ([])
 | _,_=>o 41 vs objs K
def qTp (o:Orc):Orc:=qJ 41 (qTm o) o
theorem qgX:OQ Tryz.prog qTp:=fun _ ho=>qL ho fun vs objs K r h=>by
 unfold qTm at h
 split at h
 ·skip
  have hq:List.map Obj.toRO objs=_:=(by rename_i hq; first | exact hq | assumption)
  obtain ⟨t,h1,h2⟩:=qD h
  refine qAc mixed qgW (m:=1) (fn:=Tryz.f41) (b:=(Tryz.f41).body.getD .skip) (by kernel_rfl) (by kernel_rfl) (by kernel_rfl) hq (by kernel_rfl) (by kernel_rfl) (qM.of (l':=[]) (by kernel_rfl) trivial) ((qgV _ _ _ _ _ _).trans h1) fun v objs' hd=>?_
  unfold qTo at hd;split at hd;(cases hd;exact h2);cases hd
 ·exact ho _ _ _ _ _ h
def qTg:Ctx:=mkC 16 ((qTp (qKO (qUJ qI)))) [] qU
theorem qgS:CtxOK Tryz.prog qTg:=mkC_ok ((qgX _ (qNp _ (qhF _ qK))))
def qTh:V->List Obj->Option (Int):=fun v objs=>match v,objs with
 | .s (.i .i64 y0),[]=>some (y0)
 | _,_=>none
theorem qgR (x0 x1:LI) (x2:Int):fnE qTg Tryz.f23 ([.agg [.arr .i8 81 x0,.arr .i8 16 x1,.one [.i .i8 x2]]]) ([]) qTh=qGs x0 x1 x2:=by kernel_rfl
def qTf:HA:=fun o vs objs K=>match vs,objs with
 | [.agg [.arr .i8 81 x0,.arr .i8 16 x1,.one [.i .i8 x2]]],[]=>ob (qGs x0 x1 x2) fun y0=>K false (.s (.i .i64 y0)) ([])
 | _,_=>o 23 vs objs K
def qNE (o:Orc):Orc:=qJ 23 (qTf o) o
theorem qTl:OQ Tryz.prog qNE:=fun _ ho=>qL ho fun vs objs K r h=>by
 unfold qTf at h
 split at h
 ·skip
  obtain ⟨t,h1,h2⟩:=qD h
  refine qX mixed qgS ((qgR _ _ _).trans h1) (by kernel_rfl) fun v objs' hd=>?_
  unfold qTh at hd;split at hd;(cases hd;exact h2);cases hd
 ·exact ho _ _ _ _ _ h
def qXN:Ctx:=mkC 19 (qI) [] qU
theorem qkt:CtxOK Tryz.prog qXN:=mkC_ok (qK)
def qXO:V->List Obj->Option (Int):=fun v objs=>match v,objs with
 | .s (.i .u64 y0),[]=>some (y0)
 | _,_=>none
theorem qks (x0:Int):fnE qXN Tryz.f123 ([.s (.i .u64 x0)]) ([]) qXO=qDg x0:=by kernel_rfl
def qXM:HA:=fun o vs objs K=>match vs,objs with
 | [.s (.i .u64 x0)],[]=>ob (qDg x0) fun y0=>K false (.s (.i .u64 y0)) ([])
 | _,_=>o 123 vs objs K
def qK1 (o:Orc):Orc:=qJ 123 (qXM o) o
theorem qPF:OQ Tryz.prog qK1:=fun _ ho=>qL ho fun vs objs K r h=>by
 unfold qXM at h
 split at h
 ·skip
  obtain ⟨t,h1,h2⟩:=qD h
  refine qX mixed qkt ((qks _).trans h1) (by kernel_rfl) fun v objs' hd=>?_
  unfold qXO at hd;split at hd;(cases hd;exact h2);cases hd
 ·exact ho _ _ _ _ _ h
def qXC:Ctx:=mkC 23 ((qK1 (qCr qI))) [] qU
theorem qkp:CtxOK Tryz.prog qXC:=mkC_ok ((qPF _ (qDC _ qK)))
def qXD:V->List Obj->Option (Int):=fun v objs=>match v,objs with
 | .s (.i .u64 y0),[]=>some (y0)
 | _,_=>none
theorem qko (x0 x1:Int):fnE qXC Tryz.f92 ([.s (.i .i64 x0),.s (.i .i8 x1)]) ([]) qXD=qCB x0 x1:=by kernel_rfl
def qXB:HA:=fun o vs objs K=>match vs,objs with
 | [.s (.i .i64 x0),.s (.i .i8 x1)],[]=>ob (qCB x0 x1) fun y0=>K false (.s (.i .u64 y0)) ([])
 | _,_=>o 92 vs objs K
def qPD (o:Orc):Orc:=qJ 92 (qXB o) o
theorem qXE:OQ Tryz.prog qPD:=fun _ ho=>qL ho fun vs objs K r h=>by
 unfold qXB at h
 split at h
 ·skip
  obtain ⟨t,h1,h2⟩:=qD h
  refine qX mixed qkp ((qko _ _).trans h1) (by kernel_rfl) fun v objs' hd=>?_
  unfold qXD at hd;split at hd;(cases hd;exact h2);cases hd
 ·exact ho _ _ _ _ _ h
def qW2:Ctx:=mkC 41 ((qK1 qI)) [] qU
theorem qke:CtxOK Tryz.prog qW2:=mkC_ok ((qPF _ qK))
def qW3:V->List Obj->Option (Int):=fun v objs=>match v,objs with
 | .s (.i .u64 y0),[]=>some (y0)
 | _,_=>none
theorem qkd (x0 x1 x2:Int):fnE qW2 Tryz.f93 ([.s (.i .i64 x0),.s (.i .i64 x1),.s (.i .i64 x2)]) ([]) qW3=qCn x0 x1 x2:=by kernel_rfl
def qW1:HA:=fun o vs objs K=>match vs,objs with
 | [.s (.i .i64 x0),.s (.i .i64 x1),.s (.i .i64 x2)],[]=>ob (qCn x0 x1 x2) fun y0=>K false (.s (.i .u64 y0)) ([])
 | _,_=>o 93 vs objs K
def qO3 (o:Orc):Orc:=qJ 93 (qW1 o) o
theorem qW4:OQ Tryz.prog qO3:=fun _ ho=>qL ho fun vs objs K r h=>by
 unfold qW1 at h
 split at h
 ·skip
  obtain ⟨t,h1,h2⟩:=qD h
  refine qX mixed qke ((qkd _ _ _).trans h1) (by kernel_rfl) fun v objs' hd=>?_
  unfold qW3 at hd;split at hd;(cases hd;exact h2);cases hd
 ·exact ho _ _ _ _ _ h
def qXG:Ctx:=mkC 2 ((qK1 qI)) [] qU
theorem qkr:CtxOK Tryz.prog qXG:=mkC_ok ((qPF _ qK))
def qXH:V->List Obj->Option (Int):=fun v objs=>match v,objs with
 | .s (.i .u64 y0),[]=>some (y0)
 | _,_=>none
theorem qkq:fnE qXG Tryz.f94 ([]) ([]) qXH=qCp  := by kernel_rfl
def qXF:HA:=fun o vs objs K=>match vs,objs with
 | [],[]=>ob (qCp ) fun y0=>K false (.s (.i .u64 y0)) ([])
 | _,_=>o 94 vs objs K
def qPE (o:Orc):Orc:=qJ 94 (qXF o) o
theorem qXI:OQ Tryz.prog qPE:=fun _ ho=>qL ho fun vs objs K r h=>by
 unfold qXF at h
 split at h
 ·skip
  obtain ⟨t,h1,h2⟩:=qD h
  refine qX mixed qkr ((qkq).trans h1) (by kernel_rfl) fun v objs' hd=>?_
  unfold qXH at hd;split at hd;(cases hd;exact h2);cases hd
 ·exact ho _ _ _ _ _ h
def qO6:Ex->List V->List Obj->Option (Int×LI×LI×Int):=fun e vs objs=>match e,vs,objs with
 | .exit 0,[.s (.ptr 0 0 none 0),.s (.i .u64 y0)],[.cells 28 [.arr .i8 81 y1,.arr .i8 16 y2,.one [.i .i8 y3]]]=>some (y0,y1,y2,y3)
 | _,_,_=>none
def qO4:Ex->List V->List Obj->Option (Int×LI×Int×LI×LI×Int):=fun e vs objs=>match e,vs,objs with
 | .exit 4,[.s (.ptr 0 0 none 0),.s (.i .u64 y0),.agg [.arr .i8 16 y1],.s (.i .i64 y2)],[.cells 28 [.arr .i8 81 y3,.arr .i8 16 y4,.one [.i .i8 y5]]]=>some (y0,y1,y2,y3,y4,y5)
 | _,_,_=>none
def qO8:Ex->List V->List Obj->Option (Int×LI×LI×Int):=fun e vs objs=>match e,vs,objs with
 | .exit 2,[.s (.ptr 0 0 none 0),.s (.i .u64 y0)],[.cells 28 [.arr .i8 81 y1,.arr .i8 16 y2,.one [.i .i8 y3]]]=>some (y0,y1,y2,y3)
 | _,_,_=>none
def qPB:HL:=fun vs objs K=>match vs,objs with
 | [.s (.ptr 0 0 none 0),.s (.i .u64 x0),.agg [.arr .i8 81 x1],.s (.i .i64 x2)],[.cells 28 [.arr .i8 81 x3,.arr .i8 16 x4,.one [.i .i8 x5]]]=>ob (qCR qB x0 x1 x2 x3 x4 x5) fun z=>K (.exit 0) ([.s (.ptr 0 0 none 0),.s (.i .u64 (z.1))]) ([.cells 28 [.arr .i8 81 (z.2.1),.arr .i8 16 (z.2.2.1),.one [.i .i8 (z.2.2.2)]]])
 | _,_=>none
def qPA:HL:=fun vs objs K=>match vs,objs with
 | [.s (.ptr 0 0 none 0),.s (.i .u64 x0),.s (.i .i64 x1),.agg [.arr .i8 16 x2],.s (.i .i64 x3),.agg [.arr .i8 8 x4],.s (.i .i64 x5)],[.cells 28 [.arr .i8 81 x6,.arr .i8 16 x7,.one [.i .i8 x8]]]=>ob (qCo qB x0 x1 x2 x3 x4 x5 x6 x7 x8) fun z=>K (.exit 4) ([.s (.ptr 0 0 none 0),.s (.i .u64 (z.1)),.agg [.arr .i8 16 (z.2.1)],.s (.i .i64 (z.2.2.1))]) ([.cells 28 [.arr .i8 81 (z.2.2.2.1),.arr .i8 16 (z.2.2.2.2.1),.one [.i .i8 (z.2.2.2.2.2)]]])
 | _,_=>none
def qPC:HL:=fun vs objs K=>match vs,objs with
 | [.s (.ptr 0 0 none 0),.s (.i .u64 x0),.agg [.arr .i8 16 x1],.s (.i .i64 x2)],[.cells 28 [.arr .i8 81 x3,.arr .i8 16 x4,.one [.i .i8 x5]]]=>ob (qBu qB x0 x1 x2 x3 x4 x5) fun z=>K (.exit 2) ([.s (.ptr 0 0 none 0),.s (.i .u64 (z.1))]) ([.cells 28 [.arr .i8 81 (z.2.1),.arr .i8 16 (z.2.2.1),.one [.i .i8 (z.2.2.2)]]])
 | _,_=>none
def qkj:{R:Type}->Nat->List V->List Obj->(Ex->List V->List Obj->Option R)->Option R:=fun q vs objs K=>bif Nat.beq q 3 then qPB vs objs K else bif Nat.beq q 11 then qPA vs objs K else bif Nat.beq q 8 then qPC vs objs K else none
def qFH:Ctx:=mkC 49 ((qPE (qO3 (qPD qI)))) [(3,[1,3,11,12],[1,3]),(8,[1,3,23,24],[1,3]),(11,[1,3,6,23,24,28,29],[1,3,23,24])] qkj
theorem qK0:CtxOK Tryz.prog qFH:=mkC_ok ((qXI _ (qW4 _ (qXE _ qK))))
def qO7 (f:Nat) (x0:Int) (x1:LI) (x2:Int) (x3 x4:LI) (x5:Int):Option (Int×LI×LI×Int):=qe qFH 0 [1,3,11,12] [1,3] (qE Tryz.f53 3) f ([.s (.ptr 0 0 none 0),.s (.i .u64 x0),.agg [.arr .i8 81 x1],.s (.i .i64 x2)]) ([.cells 28 [.arr .i8 81 x3,.arr .i8 16 x4,.one [.i .i8 x5]]]) qO6
theorem qkh (f:Nat) (x0:Int) (x1:LI) (x2:Int) (x3 x4:LI) (x5:Int):qO7 (f+1) x0 x1 x2 x3 x4 x5=qDe (qO7 f) x0 x1 x2 x3 x4 x5:=by kernel_rfl
theorem qW8:∀ f,qO7 f=qCR f
 | 0=>rfl
 | f+1=>by funext x0 x1 x2 x3 x4 x5; rw [qkh,qW8 f]; rfl
def qO5 (f:Nat) (x0 x1:Int) (x2:LI) (x3:Int) (x4:LI) (x5:Int) (x6 x7:LI) (x8:Int):Option (Int×LI×Int×LI×LI×Int):=qe qFH 0 [1,3,6,23,24,28,29] [1,3,23,24] (qE Tryz.f53 11) f ([.s (.ptr 0 0 none 0),.s (.i .u64 x0),.s (.i .i64 x1),.agg [.arr .i8 16 x2],.s (.i .i64 x3),.agg [.arr .i8 8 x4],.s (.i .i64 x5)]) ([.cells 28 [.arr .i8 81 x6,.arr .i8 16 x7,.one [.i .i8 x8]]]) qO4
theorem qkg (f:Nat) (x0 x1:Int) (x2:LI) (x3:Int) (x4:LI) (x5:Int) (x6 x7:LI) (x8:Int):qO5 (f+1) x0 x1 x2 x3 x4 x5 x6 x7 x8=qDd (qO5 f) x0 x1 x2 x3 x4 x5 x6 x7 x8:=by kernel_rfl
theorem qW7:∀ f,qO5 f=qCo f
 | 0=>rfl
 | f+1=>by funext x0 x1 x2 x3 x4 x5 x6 x7 x8; rw [qkg,qW7 f]; rfl
def qO9 (f:Nat) (x0:Int) (x1:LI) (x2:Int) (x3 x4:LI) (x5:Int):Option (Int×LI×LI×Int):=qe qFH 0 [1,3,23,24] [1,3] (qE Tryz.f53 8) f ([.s (.ptr 0 0 none 0),.s (.i .u64 x0),.agg [.arr .i8 16 x1],.s (.i .i64 x2)]) ([.cells 28 [.arr .i8 81 x3,.arr .i8 16 x4,.one [.i .i8 x5]]]) qO8
theorem qki (f:Nat) (x0:Int) (x1:LI) (x2:Int) (x3 x4:LI) (x5:Int):qO9 (f+1) x0 x1 x2 x3 x4 x5=qDf (qO9 f) x0 x1 x2 x3 x4 x5:=by kernel_rfl
theorem qW9:∀ f,qO9 f=qBu f
 | 0=>rfl
 | f+1=>by funext x0 x1 x2 x3 x4 x5; rw [qki,qW9 f]; rfl
theorem qkm:qa Tryz.prog qFH 0 (qE Tryz.f53 3):=
 qg mixed qK0 (qM.of (l':=[]) (by kernel_rfl) trivial) (q:=3) (kin:=[1,3,11,12]) (kout:=[1,3]) (by kernel_rfl) (by kernel_rfl) fun vs objs K r h=>by
  replace h:qPB vs objs K=some r:=h
  unfold qPB at h
  split at h
  ·skip
   obtain ⟨t,h1,h2⟩:=qD h
   rw [<- qW8] at h1
   refine ⟨_,qO6,t,qB,h1,fun e vs' objs' hd=>?_⟩
   unfold qO6 at hd;split at hd;(cases hd;exact h2);cases hd
  ·cases h
theorem qkl:qa Tryz.prog qFH 0 (qE Tryz.f53 11):=
 qg mixed qK0 (qM.of (l':=[]) (by kernel_rfl) trivial) (q:=11) (kin:=[1,3,6,23,24,28,29]) (kout:=[1,3,23,24]) (by kernel_rfl) (by kernel_rfl) fun vs objs K r h=>by
  replace h:qPA vs objs K=some r:=h
  unfold qPA at h
  split at h
  ·skip
   obtain ⟨t,h1,h2⟩:=qD h
   rw [<- qW7] at h1
   refine ⟨_,qO4,t,qB,h1,fun e vs' objs' hd=>?_⟩
   unfold qO4 at hd;split at hd;(cases hd;exact h2);cases hd
  ·cases h
theorem qkn:qa Tryz.prog qFH 0 (qE Tryz.f53 8):=
 qg mixed qK0 (qM.of (l':=[qE Tryz.f53 11]) (by kernel_rfl) ⟨qkl,trivial⟩) (q:=8) (kin:=[1,3,23,24]) (kout:=[1,3]) (by kernel_rfl) (by kernel_rfl) fun vs objs K r h=>by
  replace h:qPC vs objs K=some r:=h
  unfold qPC at h
  split at h
  ·skip
   obtain ⟨t,h1,h2⟩:=qD h
   rw [<- qW9] at h1
   refine ⟨_,qO8,t,qB,h1,fun e vs' objs' hd=>?_⟩
   unfold qO8 at hd;split at hd;(cases hd;exact h2);cases hd
  ·cases h
def qW6:V->List Obj->Option (Int):=fun v objs=>match v,objs with
 | .s (.i .u64 y0),[]=>some (y0)
 | _,_=>none
theorem qkf (x0 x1:LI) (x2:Int):fnE qFH Tryz.f53 ([.agg [.arr .i8 81 x0,.arr .i8 16 x1,.one [.i .i8 x2]]]) ([]) qW6=qEL x0 x1 x2:=by kernel_rfl
def qW5:HA:=fun o vs objs K=>match vs,objs with
 | [.agg [.arr .i8 81 x0,.arr .i8 16 x1,.one [.i .i8 x2]]],[]=>ob (qEL x0 x1 x2) fun y0=>K false (.s (.i .u64 y0)) ([])
 | _,_=>o 53 vs objs K
def qXA (o:Orc):Orc:=qJ 53 (qW5 o) o
theorem qkk:OQ Tryz.prog qXA:=fun _ ho=>qL ho fun vs objs K r h=>by
 unfold qW5 at h
 split at h
 ·skip
  obtain ⟨t,h1,h2⟩:=qD h
  refine q7 mixed qK0 (fn:=Tryz.f53) (b:=(Tryz.f53).body.getD .skip) (by kernel_rfl) (by kernel_rfl) (by kernel_rfl) ((qkf _ _ _).trans h1) (m:=0) rfl (qM.of (l':=[qE Tryz.f53 3,qE Tryz.f53 8]) (by kernel_rfl) ⟨qkm,qkn,trivial⟩) fun v objs' hd=>?_
  unfold qW6 at hd;split at hd;(cases hd;exact h2);cases hd
 ·exact ho _ _ _ _ _ h
def qVp:Ctx:=mkC 14 ((qXA (qKO qI))) [] qU
theorem qi3:CtxOK Tryz.prog qVp:=mkC_ok ((qkk _ (qNp _ qK)))
def qVq:V->List Obj->Option (Int×Nat×LI×LI×Int×LL×LL×Nat×LL):=fun v objs=>match v,objs with
 | .s (.ptr 0 0 none 0),[.cells 66 [.one [.ptr 1 0 none 0,.i .u64 y0,.sl 2 0 y1 true]],.cells 72 [.arr .i8 81 y2,.arr .i8 16 y3,.one [.i .i8 y4],.rows [.i .u64,.i .u64] 32 y5,.rows [.i .u64,.i .u64] 2 y6],.sli 98 false (.rows [.i .i64,.i .i64,.i .i64,.b,.i .i8,.i .i8] y7 y8)]=>some (y0,y1,y2,y3,y4,y5,y6,y7,y8)
 | _,_=>none
theorem qi2 (x0 x1:LI) (x2:Int):fnE qVp Tryz.f24 ([.agg [.arr .i8 81 x0,.arr .i8 16 x1,.one [.i .i8 x2]]]) ([]) qVq=qHB x0 x1 x2:=by kernel_rfl
def qVo:HA:=fun o vs objs K=>match vs,objs with
 | [.agg [.arr .i8 81 x0,.arr .i8 16 x1,.one [.i .i8 x2]]],[]=>ob (qHB x0 x1 x2) fun z=>K false (.s (.ptr 0 0 none 0)) ([.cells 66 [.one [.ptr 1 0 none 0,.i .u64 (z.1),.sl 2 0 (z.2.1) true]],.cells 72 [.arr .i8 81 (z.2.2.1),.arr .i8 16 (z.2.2.2.1),.one [.i .i8 (z.2.2.2.2.1)],.rows [.i .u64,.i .u64] 32 (z.2.2.2.2.2.1),.rows [.i .u64,.i .u64] 2 (z.2.2.2.2.2.2.1)],.sli 98 false (.rows [.i .i64,.i .i64,.i .i64,.b,.i .i8,.i .i8] (z.2.2.2.2.2.2.2.1) (z.2.2.2.2.2.2.2.2))])
 | _,_=>o 24 vs objs K
def qOS (o:Orc):Orc:=qJ 24 (qVo o) o
theorem qVr:OQ Tryz.prog qOS:=fun _ ho=>qL ho fun vs objs K r h=>by
 unfold qVo at h
 split at h
 ·skip
  obtain ⟨t,h1,h2⟩:=qD h
  refine qX mixed qi3 ((qi2 _ _ _).trans h1) (by kernel_rfl) fun v objs' hd=>?_
  unfold qVq at hd;split at hd;(cases hd;exact h2);cases hd
 ·exact ho _ _ _ _ _ h
def qc5:Ctx:=mkC 2 (qI) [] qU
theorem qrq:CtxOK Tryz.prog qc5:=mkC_ok (qK)
def qc6:V->List Obj->Option (Int×Int):=fun v objs=>match v,objs with
 | .agg [.one [.i .u64 y0,.i .u64 y1]],[]=>some (y0,y1)
 | _,_=>none
theorem qrp:fnE qc5 Tryz.f97 ([]) ([]) qc6=qGZ  := by kernel_rfl
def qc4:HA:=fun o vs objs K=>match vs,objs with
 | [],[]=>ob (qGZ ) fun z=>K false (.agg [.one [.i .u64 (z.1),.i .u64 (z.2)]]) ([])
 | _,_=>o 97 vs objs K
def qJj (o:Orc):Orc:=qJ 97 (qc4 o) o
theorem qMP:OQ Tryz.prog qJj:=fun _ ho=>qL ho fun vs objs K r h=>by
 unfold qc4 at h
 split at h
 ·skip
  obtain ⟨t,h1,h2⟩:=qD h
  refine qX mixed qrq ((qrp).trans h1) (by kernel_rfl) fun v objs' hd=>?_
  unfold qc6 at hd;split at hd;(cases hd;exact h2);cases hd
 ·exact ho _ _ _ _ _ h
def qSQ:Ex->List V->List Obj->Option (Nat×Int×Int×Nat×LI):=fun e vs objs=>match e,vs,objs with
 | .exit 0,[.s (.ptr 0 0 none 0),.s (.sl 1 0 y0 true)],[.cells 68 [.one [.i .u64 y1,.i .u64 y2]],.sli 3 false (.arr .i64 y3 y4)]=>some (y0,y1,y2,y3,y4)
 | _,_,_=>none
def qSS:Ex->List V->List Obj->Option (Nat×Nat×LI):=fun e vs objs=>match e,vs,objs with
 | .exit 2,[.s (.sl 0 0 y0 true)],[.sli 3 false (.arr .i64 y1 y2)]=>some (y0,y1,y2)
 | _,_,_=>none
def qSU:HL:=fun vs objs K=>match vs,objs with
 | [.s (.ptr 0 0 none 0),.s (.sl 1 0 x0 true)],[.cells 68 [.one [.i .u64 x1,.i .u64 x2]],.sli 3 false (.arr .i64 x3 x4)]=>ob (qIU qB x0 x1 x2 x3 x4) fun z=>K (.exit 0) ([.s (.ptr 0 0 none 0),.s (.sl 1 0 (z.1) true)]) ([.cells 68 [.one [.i .u64 (z.2.1),.i .u64 (z.2.2.1)]],.sli 3 false (.arr .i64 (z.2.2.2.1) (z.2.2.2.2))])
 | _,_=>none
def qSV:HL:=fun vs objs K=>match vs,objs with
 | [.s (.ptr 0 0 none 0),.s (.sl 1 0 x0 true)],[.cells 68 [.one [.i .u64 x1,.i .u64 x2]],.sli 3 false (.arr .i64 x3 x4)]=>ob (qIV qB x0 x1 x2 x3 x4) fun z=>K (.exit 2) ([.s (.sl 0 0 (z.1) true)]) ([.sli 3 false (.arr .i64 (z.2.1) (z.2.2))])
 | _,_=>none
def qsO:{R:Type}->Nat->List V->List Obj->(Ex->List V->List Obj->Option R)->Option R:=fun q vs objs K=>bif Nat.beq q 2 then qSU vs objs K else bif Nat.beq q 5 then qSV vs objs K else none
def qIT:Ctx:=mkC 38 ((qNX qI)) [(2,[1,3],[1,3]),(5,[1,3],[3])] qsO
theorem qSP:CtxOK Tryz.prog qIT:=mkC_ok ((qT9 _ qK))
def qSR (f:Nat) (x0:Nat) (x1 x2:Int) (x3:Nat) (x4:LI):Option (Nat×Int×Int×Nat×LI):=qe qIT 0 [1,3] [1,3] (qE Tryz.f129 2) f ([.s (.ptr 0 0 none 0),.s (.sl 1 0 x0 true)]) ([.cells 68 [.one [.i .u64 x1,.i .u64 x2]],.sli 3 false (.arr .i64 x3 x4)]) qSQ
theorem qsM (f:Nat) (x0:Nat) (x1 x2:Int) (x3:Nat) (x4:LI):qSR (f+1) x0 x1 x2 x3 x4=qMY (qSR f) x0 x1 x2 x3 x4:=by kernel_rfl
theorem qdp:∀ f,qSR f=qIU f
 | 0=>rfl
 | f+1=>by funext x0 x1 x2 x3 x4; rw [qsM,qdp f]; rfl
def qST (f:Nat) (x0:Nat) (x1 x2:Int) (x3:Nat) (x4:LI):Option (Nat×Nat×LI):=qe qIT 0 [1,3] [3] (qE Tryz.f129 5) f ([.s (.ptr 0 0 none 0),.s (.sl 1 0 x0 true)]) ([.cells 68 [.one [.i .u64 x1,.i .u64 x2]],.sli 3 false (.arr .i64 x3 x4)]) qSS
theorem qsN (f:Nat) (x0:Nat) (x1 x2:Int) (x3:Nat) (x4:LI):qST (f+1) x0 x1 x2 x3 x4=qMZ (qST f) x0 x1 x2 x3 x4:=by kernel_rfl
theorem qdq:∀ f,qST f=qIV f
 | 0=>rfl
 | f+1=>by funext x0 x1 x2 x3 x4; rw [qsN,qdq f]; rfl
theorem qsP:qa Tryz.prog qIT 0 (qE Tryz.f129 2):=
 qg mixed qSP (qM.of (l':=[]) (by kernel_rfl) trivial) (q:=2) (kin:=[1,3]) (kout:=[1,3]) (by kernel_rfl) (by kernel_rfl) fun vs objs K r h=>by
  replace h:qSU vs objs K=some r:=h
  unfold qSU at h
  split at h
  ·skip
   obtain ⟨t,h1,h2⟩:=qD h
   rw [<- qdp] at h1
   refine ⟨_,qSQ,t,qB,h1,fun e vs' objs' hd=>?_⟩
   unfold qSQ at hd;split at hd;(cases hd;exact h2);cases hd
  ·cases h
theorem qsQ:qa Tryz.prog qIT 0 (qE Tryz.f129 5):=
 qg mixed qSP (qM.of (l':=[]) (by kernel_rfl) trivial) (q:=5) (kin:=[1,3]) (kout:=[3]) (by kernel_rfl) (by kernel_rfl) fun vs objs K r h=>by
  replace h:qSV vs objs K=some r:=h
  unfold qSV at h
  split at h
  ·skip
   obtain ⟨t,h1,h2⟩:=qD h
   rw [<- qdq] at h1
   refine ⟨_,qSS,t,qB,h1,fun e vs' objs' hd=>?_⟩
   unfold qSS at hd;split at hd;(cases hd;exact h2);cases hd
  ·cases h
def qdo:V->List Obj->Option (Nat×Nat×LI):=fun v objs=>match v,objs with
 | .s (.sl 0 0 y0 true),[.sli 3 false (.arr .i64 y1 y2)]=>some (y0,y1,y2)
 | _,_=>none
theorem qsL (x0 x1:Int):fnE qIT Tryz.f129 ([.agg [.one [.i .u64 x0,.i .u64 x1]]]) ([]) qdo=qEd x0 x1:=by kernel_rfl
def qdn:HA:=fun o vs objs K=>match vs,objs with
 | [.agg [.one [.i .u64 x0,.i .u64 x1]]],[]=>ob (qEd x0 x1) fun z=>K false (.s (.sl 0 0 (z.1) true)) ([.sli 3 false (.arr .i64 (z.2.1) (z.2.2))])
 | _,_=>o 129 vs objs K
def qJm (o:Orc):Orc:=qJ 129 (qdn o) o
theorem qMa:OQ Tryz.prog qJm:=fun _ ho=>qL ho fun vs objs K r h=>by
 unfold qdn at h
 split at h
 ·skip
  obtain ⟨t,h1,h2⟩:=qD h
  refine q7 mixed qSP (fn:=Tryz.f129) (b:=(Tryz.f129).body.getD .skip) (by kernel_rfl) (by kernel_rfl) (by kernel_rfl) ((qsL _ _).trans h1) (m:=0) rfl (qM.of (l':=[qE Tryz.f129 2,qE Tryz.f129 5]) (by kernel_rfl) ⟨qsP,qsQ,trivial⟩) fun v objs' hd=>?_
  unfold qdo at hd;split at hd;(cases hd;exact h2);cases hd
 ·exact ho _ _ _ _ _ h
def qSL:Ex->List V->List Obj->Option (Nat×LI×Int×Int×Int×Int):=fun e vs objs=>match e,vs,objs with
 | .exit 0,[.s (.ptr 1 0 none 0),.s (.ptr 2 0 none 0)],[.sli 3 true (.arr .i64 y0 y1),.cells 68 [.one [.i .u64 y2,.i .u64 y3]],.cells 68 [.one [.i .u64 y4,.i .u64 y5]]]=>some (y0,y1,y2,y3,y4,y5)
 | _,_,_=>none
def qSN:HL:=fun vs objs K=>match vs,objs with
 | [.s (.ptr 1 0 none 0),.s (.ptr 2 0 none 0),.s (.sl 0 0 x0 true),.s (.i .i64 x1),.s (.i .i64 x2)],[.sli 3 true (.arr .i64 x3 x4),.cells 68 [.one [.i .u64 x5,.i .u64 x6]],.cells 68 [.one [.i .u64 x7,.i .u64 x8]]]=>ob (qFo qB x0 x1 x2 x3 x4 x5 x6 x7 x8) fun z=>K (.exit 0) ([.s (.ptr 1 0 none 0),.s (.ptr 2 0 none 0)]) ([.sli 3 true (.arr .i64 (z.1) (z.2.1)),.cells 68 [.one [.i .u64 (z.2.2.1),.i .u64 (z.2.2.2.1)]],.cells 68 [.one [.i .u64 (z.2.2.2.2.1),.i .u64 (z.2.2.2.2.2)]]])
 | _,_=>none
def qsE:{R:Type}->Nat->List V->List Obj->(Ex->List V->List Obj->Option R)->Option R:=fun q vs objs K=>bif Nat.beq q 3 then qSN vs objs K else none
def qMW:Ctx:=mkC 17 ((qEe qI)) [(3,[2,3,6,7,8],[2,3])] qsE
theorem qdd:CtxOK Tryz.prog qMW:=mkC_ok ((qFq _ qK))
def qSM (f:Nat) (x0:Nat) (x1 x2:Int) (x3:Nat) (x4:LI) (x5 x6:Int) (x7 x8:Int):Option (Nat×LI×Int×Int×Int×Int):=qe qMW 1 [2,3,6,7,8] [2,3] (qE Tryz.f148 3) f ([.s (.ptr 1 0 none 0),.s (.ptr 2 0 none 0),.s (.sl 0 0 x0 true),.s (.i .i64 x1),.s (.i .i64 x2)]) ([.sli 3 true (.arr .i64 x3 x4),.cells 68 [.one [.i .u64 x5,.i .u64 x6]],.cells 68 [.one [.i .u64 x7,.i .u64 x8]]]) qSL
theorem qsD (f:Nat) (x0:Nat) (x1 x2:Int) (x3:Nat) (x4:LI) (x5 x6:Int) (x7 x8:Int):qSM (f+1) x0 x1 x2 x3 x4 x5 x6 x7 x8=qIR (qSM f) x0 x1 x2 x3 x4 x5 x6 x7 x8:=by kernel_rfl
theorem qdf:∀ f,qSM f=qFo f
 | 0=>rfl
 | f+1=>by funext x0 x1 x2 x3 x4 x5 x6 x7 x8; rw [qsD,qdf f]; rfl
theorem qsG:qa Tryz.prog qMW 1 (qE Tryz.f148 3):=
 qg mixed qdd (qM.of (l':=[]) (by kernel_rfl) trivial) (q:=3) (kin:=[2,3,6,7,8]) (kout:=[2,3]) (by kernel_rfl) (by kernel_rfl) fun vs objs K r h=>by
  replace h:qSN vs objs K=some r:=h
  unfold qSN at h
  split at h
  ·skip
   obtain ⟨t,h1,h2⟩:=qD h
   rw [<- qdf] at h1
   refine ⟨_,qSL,t,qB,h1,fun e vs' objs' hd=>?_⟩
   unfold qSL at hd;split at hd;(cases hd;exact h2);cases hd
  ·cases h
def qde:V->List Obj->Option (Int×Int):=fun v objs=>match v,objs with
 | .agg [.one [.i .u64 y0,.i .u64 y1]],[]=>some (y0,y1)
 | _,_=>none
theorem qsC (x0 x1:Nat) (x2:LI):fnE qMW Tryz.f148 ([.s (.sl 0 0 x0 true)]) ([.sli 3 true (.arr .i64 x1 x2)]) (qAK 1 qde)=qIQ x0 x1 x2:=by kernel_rfl
def qdc:HA:=fun o vs objs K=>match vs,List.map Obj.toRO objs with
 | [.s (.sl 0 0 x0 true)],[.sli 3 true (.arr .i64 x1 x2)]=>ob (qIQ x0 x1 x2) fun z=>K true (.agg [.one [.i .u64 (z.1),.i .u64 (z.2)]]) ([])
 | _,_=>o 148 vs objs K
def qdg (o:Orc):Orc:=qJ 148 (qdc o) o
theorem qsF:OQ Tryz.prog qdg:=fun _ ho=>qL ho fun vs objs K r h=>by
 unfold qdc at h
 split at h
 ·skip
  have hq:List.map Obj.toRO objs=_:=(by rename_i hq; first | exact hq | assumption)
  obtain ⟨t,h1,h2⟩:=qD h
  refine qAc mixed qdd (m:=1) (fn:=Tryz.f148) (b:=(Tryz.f148).body.getD .skip) (by kernel_rfl) (by kernel_rfl) (by kernel_rfl) hq (by kernel_rfl) (by kernel_rfl) (qM.of (l':=[qE Tryz.f148 3]) (by kernel_rfl) ⟨qsG,trivial⟩) ((qsC _ _ _).trans h1) fun v objs' hd=>?_
  unfold qde at hd;split at hd;(cases hd;exact h2);cases hd
 ·exact ho _ _ _ _ _ h
def qQa:Ex->List V->List Obj->Option ((Int×Int) ⊕ (Int×Int)):=fun e vs objs=>match e,vs,objs with
 | .ret,[.s (.ptr 0 0 none 0)],[.cells 68 [.one [.i .u64 y0,.i .u64 y1]]]=>some (.inl (y0,y1))
 | .exit 0,[.s (.ptr 0 0 none 0)],[.cells 68 [.one [.i .u64 y0,.i .u64 y1]]]=>some (.inr (y0,y1))
 | _,_,_=>none
def qQd:HL:=fun vs objs K=>match vs,objs with
 | [.s (.i .i64 x0),.s (.i .i64 x1),.s (.ptr 0 0 none 0),.s (.sl 1 0 x2 true),.s (.i .i64 x3),.s (.i .i64 x4)],[.cells 68 [.one [.i .u64 x5,.i .u64 x6]],.sli 164 false (.rows [.i .i64,.i .i64] x7 x8)]=>ob (qFU qB x0 x1 x2 x3 x4 x5 x6 x7 x8) fun t0=>sw t0 (fun z=>K (.ret) ([.s (.ptr 0 0 none 0)]) ([.cells 68 [.one [.i .u64 (z.1),.i .u64 (z.2)]]])) (fun z=>K (.exit 0) ([.s (.ptr 0 0 none 0)]) ([.cells 68 [.one [.i .u64 (z.1),.i .u64 (z.2)]]]))
 | _,_=>none
def qoq:{R:Type}->Nat->List V->List Obj->(Ex->List V->List Obj->Option R)->Option R:=fun q vs objs K=>bif Nat.beq q 2 then qQd vs objs K else none
def qLv:Ctx:=mkC 30 ((qJn (qGe (qQl (qdg (qQe qI)))))) [(2,[0,1,4,10,11,12],[4])] qoq
theorem qaA:CtxOK Tryz.prog qLv:=mkC_ok ((qMb _ (qIO _ (qaQ _ (qsF _ (qaH _ qK))))))
def qQb (f:Nat) (x0 x1:Int) (x2:Nat) (x3 x4:Int) (x5 x6:Int) (x7:Nat) (x8:LL):Option ((Int×Int) ⊕ (Int×Int)):=qe qLv 0 [0,1,4,10,11,12] [4] (qE Tryz.f125 2) f ([.s (.i .i64 x0),.s (.i .i64 x1),.s (.ptr 0 0 none 0),.s (.sl 1 0 x2 true),.s (.i .i64 x3),.s (.i .i64 x4)]) ([.cells 68 [.one [.i .u64 x5,.i .u64 x6]],.sli 164 false (.rows [.i .i64,.i .i64] x7 x8)]) qQa
theorem qop (f:Nat) (x0 x1:Int) (x2:Nat) (x3 x4:Int) (x5 x6:Int) (x7:Nat) (x8:LL):qQb (f+1) x0 x1 x2 x3 x4 x5 x6 x7 x8=qHu (qQb f) x0 x1 x2 x3 x4 x5 x6 x7 x8:=by kernel_rfl
theorem qaC:∀ f,qQb f=qFU f
 | 0=>rfl
 | f+1=>by funext x0 x1 x2 x3 x4 x5 x6 x7 x8; rw [qop,qaC f]; rfl
theorem qor:qa Tryz.prog qLv 0 (qE Tryz.f125 2):=
 qg mixed qaA (qM.of (l':=[]) (by kernel_rfl) trivial) (q:=2) (kin:=[0,1,4,10,11,12]) (kout:=[4]) (by kernel_rfl) (by kernel_rfl) fun vs objs K r h=>by
  replace h:qQd vs objs K=some r:=h
  unfold qQd at h
  split at h
  ·skip
   obtain ⟨t,h1,h2⟩:=qD h
   rw [<- qaC] at h1
   refine ⟨_,qQa,t,qB,h1,fun e vs' objs' hd=>?_⟩
   unfold qQa at hd
   split at hd
   ·skip
    cases hd
    exact h2
   ·skip
    cases hd
    exact h2
   ·cases hd
  ·cases h
def qaB:V->List Obj->Option (Int×Int):=fun v objs=>match v,objs with
 | .agg [.one [.i .u64 y0,.i .u64 y1]],[]=>some (y0,y1)
 | _,_=>none
theorem qoo (x0 x1:Int):fnE qLv Tryz.f125 ([.s (.i .i64 x0),.s (.i .i64 x1)]) ([]) qaB=qHt x0 x1:=by kernel_rfl
def qZ9:HA:=fun o vs objs K=>match vs,objs with
 | [.s (.i .i64 x0),.s (.i .i64 x1)],[]=>ob (qHt x0 x1) fun z=>K false (.agg [.one [.i .u64 (z.1),.i .u64 (z.2)]]) ([])
 | _,_=>o 125 vs objs K
def qQc (o:Orc):Orc:=qJ 125 (qZ9 o) o
theorem qaD:OQ Tryz.prog qQc:=fun _ ho=>qL ho fun vs objs K r h=>by
 unfold qZ9 at h
 split at h
 ·skip
  obtain ⟨t,h1,h2⟩:=qD h
  refine q7 mixed qaA (fn:=Tryz.f125) (b:=(Tryz.f125).body.getD .skip) (by kernel_rfl) (by kernel_rfl) (by kernel_rfl) ((qoo _ _).trans h1) (m:=0) rfl (qM.of (l':=[qE Tryz.f125 2]) (by kernel_rfl) ⟨qor,trivial⟩) fun v objs' hd=>?_
  unfold qaB at hd;split at hd;(cases hd;exact h2);cases hd
 ·exact ho _ _ _ _ _ h
def qUc:Ctx:=mkC 18 (qI) [] qU
theorem qhY:CtxOK Tryz.prog qUc:=mkC_ok (qK)
def qUd:V->List Obj->Option (Int×Int):=fun v objs=>match v,objs with
 | .agg [.one [.i .u64 y0,.i .u64 y1]],[]=>some (y0,y1)
 | _,_=>none
theorem qhX (x0:Int) (x1 x2:LI) (x3:Int) (x4 x5:LL):fnE qUc Tryz.f128 ([.s (.ptr 0 0 none 0),.s (.i .i64 x0)]) ([.rcells 72 [.arr .i8 81 x1,.arr .i8 16 x2,.one [.i .i8 x3],.rows [.i .u64,.i .u64] 32 x4,.rows [.i .u64,.i .u64] 2 x5]]) (qAK 1 qUd)=qF6 x0 x1 x2 x3 x4 x5:=by kernel_rfl
def qUb:HA:=fun o vs objs K=>match vs,List.map Obj.toRO objs with
 | [.s (.ptr 0 0 none 0),.s (.i .i64 x0)],[.rcells 72 [.arr .i8 81 x1,.arr .i8 16 x2,.one [.i .i8 x3],.rows [.i .u64,.i .u64] 32 x4,.rows [.i .u64,.i .u64] 2 x5]]=>ob (qF6 x0 x1 x2 x3 x4 x5) fun z=>K true (.agg [.one [.i .u64 (z.1),.i .u64 (z.2)]]) ([])
 | _,_=>o 128 vs objs K
def qNr (o:Orc):Orc:=qJ 128 (qUb o) o
theorem qUe:OQ Tryz.prog qNr:=fun _ ho=>qL ho fun vs objs K r h=>by
 unfold qUb at h
 split at h
 ·skip
  have hq:List.map Obj.toRO objs=_:=(by rename_i hq; first | exact hq | assumption)
  obtain ⟨t,h1,h2⟩:=qD h
  refine qAc mixed qhY (m:=1) (fn:=Tryz.f128) (b:=(Tryz.f128).body.getD .skip) (by kernel_rfl) (by kernel_rfl) (by kernel_rfl) hq (by kernel_rfl) (by kernel_rfl) (qM.of (l':=[]) (by kernel_rfl) trivial) ((qhX _ _ _ _ _ _).trans h1) fun v objs' hd=>?_
  unfold qUd at hd;split at hd;(cases hd;exact h2);cases hd
 ·exact ho _ _ _ _ _ h
def qUB:Ctx:=mkC 18 (qI) [] qU
theorem qg8:CtxOK Tryz.prog qUB:=mkC_ok (qK)
def qUC:V->List Obj->Option (Int):=fun v objs=>match v,objs with
 | .s (.i .i8 y0),[]=>some (y0)
 | _,_=>none
theorem qg7 (x0:Int) (x1 x2:LI) (x3:Int) (x4 x5:LL):fnE qUB Tryz.f56 ([.s (.ptr 0 0 none 0),.s (.i .i64 x0)]) ([.rcells 72 [.arr .i8 81 x1,.arr .i8 16 x2,.one [.i .i8 x3],.rows [.i .u64,.i .u64] 32 x4,.rows [.i .u64,.i .u64] 2 x5]]) (qAK 1 qUC)=qAe x0 x1 x2 x3 x4 x5:=by kernel_rfl
def qUA:HA:=fun o vs objs K=>match vs,List.map Obj.toRO objs with
 | [.s (.ptr 0 0 none 0),.s (.i .i64 x0)],[.rcells 72 [.arr .i8 81 x1,.arr .i8 16 x2,.one [.i .i8 x3],.rows [.i .u64,.i .u64] 32 x4,.rows [.i .u64,.i .u64] 2 x5]]=>ob (qAe x0 x1 x2 x3 x4 x5) fun y0=>K true (.s (.i .i8 y0)) ([])
 | _,_=>o 56 vs objs K
def qF2 (o:Orc):Orc:=qJ 56 (qUA o) o
theorem qGy:OQ Tryz.prog qF2:=fun _ ho=>qL ho fun vs objs K r h=>by
 unfold qUA at h
 split at h
 ·skip
  have hq:List.map Obj.toRO objs=_:=(by rename_i hq; first | exact hq | assumption)
  obtain ⟨t,h1,h2⟩:=qD h
  refine qAc mixed qg8 (m:=1) (fn:=Tryz.f56) (b:=(Tryz.f56).body.getD .skip) (by kernel_rfl) (by kernel_rfl) (by kernel_rfl) hq (by kernel_rfl) (by kernel_rfl) (qM.of (l':=[]) (by kernel_rfl) trivial) ((qg7 _ _ _ _ _ _).trans h1) fun v objs' hd=>?_
  unfold qUC at hd;split at hd;(cases hd;exact h2);cases hd
 ·exact ho _ _ _ _ _ h
def qNM:Ex->List V->List Obj->Option (Int×Int×Nat×Int×Int×LI×LI×Int×LL×LL×List (LI×LI)×Nat×LI):=fun e vs objs=>match e,vs,objs with
 | .exit 2,[.s (.ptr 0 0 none 0),.s (.i .i64 y0),.s (.mp 1),.s (.i .i64 y1),.s (.sl 2 0 y2 true),.s (.i .i64 y3),.s (.i .i64 y4)],[.rcells 72 [.arr .i8 81 y5,.arr .i8 16 y6,.one [.i .i8 y7],.rows [.i .u64,.i .u64] 32 y8,.rows [.i .u64,.i .u64] 2 y9],.map false true [.i .i64] [.i .u64,.i .u64] y10,.sli 3 false (.arr .i64 y11 y12)]=>some (y0,y1,y2,y3,y4,y5,y6,y7,y8,y9,y10,y11,y12)
 | _,_,_=>none
def qNK:Ex->List V->List Obj->Option (LI×LI×Int×LL×LL×List (LI×LI)):=fun e vs objs=>match e,vs,objs with
 | .exit 0,[.s (.mp 1)],[.rcells 72 [.arr .i8 81 y0,.arr .i8 16 y1,.one [.i .i8 y2],.rows [.i .u64,.i .u64] 32 y3,.rows [.i .u64,.i .u64] 2 y4],.map false true [.i .i64] [.i .u64,.i .u64] y5]=>some (y0,y1,y2,y3,y4,y5)
 | _,_,_=>none
def qNP:HL:=fun vs objs K=>match vs,objs with
 | [.s (.ptr 0 0 none 0),.s (.i .i64 x0),.s (.mp 1),.s (.i .i64 x1),.s (.sl 2 0 x2 true),.s (.i .i64 x3),.s (.i .i64 x4),.s (.sl 3 0 x5 true),.s (.i .i64 x6),.s (.i .i64 x7)],[.rcells 72 [.arr .i8 81 x8,.arr .i8 16 x9,.one [.i .i8 x10],.rows [.i .u64,.i .u64] 32 x11,.rows [.i .u64,.i .u64] 2 x12],.map false true [.i .i64] [.i .u64,.i .u64] x13,.sli 3 false (.arr .i64 x14 x15),.sli 3 false (.arr .i64 x16 x17)]=>ob (qEt qB x0 x1 x2 x3 x4 x5 x6 x7 x8 x9 x10 x11 x12 x13 x14 x15 x16 x17) fun z=>K (.exit 2) ([.s (.ptr 0 0 none 0),.s (.i .i64 (z.1)),.s (.mp 1),.s (.i .i64 (z.2.1)),.s (.sl 2 0 (z.2.2.1) true),.s (.i .i64 (z.2.2.2.1)),.s (.i .i64 (z.2.2.2.2.1))]) ([.rcells 72 [.arr .i8 81 (z.2.2.2.2.2.1),.arr .i8 16 (z.2.2.2.2.2.2.1),.one [.i .i8 (z.2.2.2.2.2.2.2.1)],.rows [.i .u64,.i .u64] 32 (z.2.2.2.2.2.2.2.2.1),.rows [.i .u64,.i .u64] 2 (z.2.2.2.2.2.2.2.2.2.1)],.map false true [.i .i64] [.i .u64,.i .u64] (z.2.2.2.2.2.2.2.2.2.2.1),.sli 3 false (.arr .i64 (z.2.2.2.2.2.2.2.2.2.2.2.1) (z.2.2.2.2.2.2.2.2.2.2.2.2))])
 | _,_=>none
def qNO:HL:=fun vs objs K=>match vs,objs with
 | [.s (.ptr 0 0 none 0),.s (.i .i64 x0),.s (.mp 1),.s (.i .i64 x1),.s (.sl 2 0 x2 true),.s (.i .i64 x3),.s (.i .i64 x4)],[.rcells 72 [.arr .i8 81 x5,.arr .i8 16 x6,.one [.i .i8 x7],.rows [.i .u64,.i .u64] 32 x8,.rows [.i .u64,.i .u64] 2 x9],.map false true [.i .i64] [.i .u64,.i .u64] x10,.sli 3 false (.arr .i64 x11 x12)]=>ob (qEs qB x0 x1 x2 x3 x4 x5 x6 x7 x8 x9 x10 x11 x12) fun z=>K (.exit 0) ([.s (.mp 1)]) ([.rcells 72 [.arr .i8 81 (z.1),.arr .i8 16 (z.2.1),.one [.i .i8 (z.2.2.1)],.rows [.i .u64,.i .u64] 32 (z.2.2.2.1),.rows [.i .u64,.i .u64] 2 (z.2.2.2.2.1)],.map false true [.i .i64] [.i .u64,.i .u64] (z.2.2.2.2.2)])
 | _,_=>none
def qgf:{R:Type}->Nat->List V->List Obj->(Ex->List V->List Obj->Option R)->Option R:=fun q vs objs K=>bif Nat.beq q 9 then qNP vs objs K else bif Nat.beq q 6 then qNO vs objs K else none
def qGw:Ctx:=mkC 89 ((qEe (qGe (qLx (qJn (qF2 (qMS (qIN (qNr (qMQ (qFm (qG3 (qQc (qJm (qF5 (qKM qI)))))))))))))))) [(6,[0,1,5,6,21,22,23],[5]),(9,[0,1,5,6,21,22,23,32,33,34],[0,1,5,6,21,22,23])] qgf
theorem qNJ:CtxOK Tryz.prog qGw:=mkC_ok ((qFq _ (qIO _ (qQh _ (qMb _ (qGy _ (qSF _ (qJk _ (qUe _ (qSD _ (qGa _ (qIo _ (qaD _ (qMa _ (qG1 _ (qNm _ qK))))))))))))))))
def qNN (f:Nat) (x0 x1:Int) (x2:Nat) (x3 x4:Int) (x5:Nat) (x6 x7:Int) (x8 x9:LI) (x10:Int) (x11 x12:LL) (x13:List (LI×LI)) (x14:Nat) (x15:LI) (x16:Nat) (x17:LI):Option (Int×Int×Nat×Int×Int×LI×LI×Int×LL×LL×List (LI×LI)×Nat×LI):=qe qGw 1 [0,1,5,6,21,22,23,32,33,34] [0,1,5,6,21,22,23] (qE Tryz.f124 9) f ([.s (.ptr 0 0 none 0),.s (.i .i64 x0),.s (.mp 1),.s (.i .i64 x1),.s (.sl 2 0 x2 true),.s (.i .i64 x3),.s (.i .i64 x4),.s (.sl 3 0 x5 true),.s (.i .i64 x6),.s (.i .i64 x7)]) ([.rcells 72 [.arr .i8 81 x8,.arr .i8 16 x9,.one [.i .i8 x10],.rows [.i .u64,.i .u64] 32 x11,.rows [.i .u64,.i .u64] 2 x12],.map false true [.i .i64] [.i .u64,.i .u64] x13,.sli 3 false (.arr .i64 x14 x15),.sli 3 false (.arr .i64 x16 x17)]) qNM
theorem qge (f:Nat) (x0 x1:Int) (x2:Nat) (x3 x4:Int) (x5:Nat) (x6 x7:Int) (x8 x9:LI) (x10:Int) (x11 x12:LL) (x13:List (LI×LI)) (x14:Nat) (x15:LI) (x16:Nat) (x17:LI):qNN (f+1) x0 x1 x2 x3 x4 x5 x6 x7 x8 x9 x10 x11 x12 x13 x14 x15 x16 x17=qF0 (qNN f) x0 x1 x2 x3 x4 x5 x6 x7 x8 x9 x10 x11 x12 x13 x14 x15 x16 x17:=by kernel_rfl
theorem qTy:∀ f,qNN f=qEt f
 | 0=>rfl
 | f+1=>by funext x0 x1 x2 x3 x4 x5 x6 x7 x8 x9 x10 x11 x12 x13 x14 x15 x16 x17; rw [qge,qTy f]; rfl
def qNL (f:Nat) (x0 x1:Int) (x2:Nat) (x3 x4:Int) (x5 x6:LI) (x7:Int) (x8 x9:LL) (x10:List (LI×LI)) (x11:Nat) (x12:LI):Option (LI×LI×Int×LL×LL×List (LI×LI)):=qe qGw 1 [0,1,5,6,21,22,23] [5] (qE Tryz.f124 6) f ([.s (.ptr 0 0 none 0),.s (.i .i64 x0),.s (.mp 1),.s (.i .i64 x1),.s (.sl 2 0 x2 true),.s (.i .i64 x3),.s (.i .i64 x4)]) ([.rcells 72 [.arr .i8 81 x5,.arr .i8 16 x6,.one [.i .i8 x7],.rows [.i .u64,.i .u64] 32 x8,.rows [.i .u64,.i .u64] 2 x9],.map false true [.i .i64] [.i .u64,.i .u64] x10,.sli 3 false (.arr .i64 x11 x12)]) qNK
theorem qgd (f:Nat) (x0 x1:Int) (x2:Nat) (x3 x4:Int) (x5 x6:LI) (x7:Int) (x8 x9:LL) (x10:List (LI×LI)) (x11:Nat) (x12:LI):qNL (f+1) x0 x1 x2 x3 x4 x5 x6 x7 x8 x9 x10 x11 x12=qGx (qNL f) x0 x1 x2 x3 x4 x5 x6 x7 x8 x9 x10 x11 x12:=by kernel_rfl
theorem qTx:∀ f,qNL f=qEs f
 | 0=>rfl
 | f+1=>by funext x0 x1 x2 x3 x4 x5 x6 x7 x8 x9 x10 x11 x12; rw [qgd,qTx f]; rfl
theorem qgi:qa Tryz.prog qGw 1 (qE Tryz.f124 9):=
 qg mixed qNJ (qM.of (l':=[]) (by kernel_rfl) trivial) (q:=9) (kin:=[0,1,5,6,21,22,23,32,33,34]) (kout:=[0,1,5,6,21,22,23]) (by kernel_rfl) (by kernel_rfl) fun vs objs K r h=>by
  replace h:qNP vs objs K=some r:=h
  unfold qNP at h
  split at h
  ·skip
   obtain ⟨t,h1,h2⟩:=qD h
   rw [<- qTy] at h1
   refine ⟨_,qNM,t,qB,h1,fun e vs' objs' hd=>?_⟩
   unfold qNM at hd;split at hd;(cases hd;exact h2);cases hd
  ·cases h
theorem qgh:qa Tryz.prog qGw 1 (qE Tryz.f124 6):=
 qg mixed qNJ (qM.of (l':=[qE Tryz.f124 9]) (by kernel_rfl) ⟨qgi,trivial⟩) (q:=6) (kin:=[0,1,5,6,21,22,23]) (kout:=[5]) (by kernel_rfl) (by kernel_rfl) fun vs objs K r h=>by
  replace h:qNO vs objs K=some r:=h
  unfold qNO at h
  split at h
  ·skip
   obtain ⟨t,h1,h2⟩:=qD h
   rw [<- qTx] at h1
   refine ⟨_,qNK,t,qB,h1,fun e vs' objs' hd=>?_⟩
   unfold qNK at hd;split at hd;(cases hd;exact h2);cases hd
  ·cases h
def qTw:V->List Obj->Option (List (LI×LI)):=fun v objs=>match v,objs with
 | .s (.mp 1),[.map false true [.i .i64] [.i .u64,.i .u64] y0]=>some (y0)
 | _,_=>none
theorem qgc (x0:Int) (x1 x2:LI) (x3:Int) (x4 x5:LL):fnE qGw Tryz.f124 ([.s (.ptr 0 0 none 0),.s (.i .i64 x0)]) ([.rcells 72 [.arr .i8 81 x1,.arr .i8 16 x2,.one [.i .i8 x3],.rows [.i .u64,.i .u64] 32 x4,.rows [.i .u64,.i .u64] 2 x5]]) (qAK 1 qTw)=qGv x0 x1 x2 x3 x4 x5:=by kernel_rfl
def qTv:HA:=fun o vs objs K=>match vs,List.map Obj.toRO objs with
 | [.s (.ptr 0 0 none 0),.s (.i .i64 x0)],[.rcells 72 [.arr .i8 81 x1,.arr .i8 16 x2,.one [.i .i8 x3],.rows [.i .u64,.i .u64] 32 x4,.rows [.i .u64,.i .u64] 2 x5]]=>ob (qGv x0 x1 x2 x3 x4 x5) fun y0=>K true (.s (.mp 1)) ([.map false true [.i .i64] [.i .u64,.i .u64] y0])
 | _,_=>o 124 vs objs K
def qTz (o:Orc):Orc:=qJ 124 (qTv o) o
theorem qgg:OQ Tryz.prog qTz:=fun _ ho=>qL ho fun vs objs K r h=>by
 unfold qTv at h
 split at h
 ·skip
  have hq:List.map Obj.toRO objs=_:=(by rename_i hq; first | exact hq | assumption)
  obtain ⟨t,h1,h2⟩:=qD h
  refine qAc mixed qNJ (m:=1) (fn:=Tryz.f124) (b:=(Tryz.f124).body.getD .skip) (by kernel_rfl) (by kernel_rfl) (by kernel_rfl) hq (by kernel_rfl) (by kernel_rfl) (qM.of (l':=[qE Tryz.f124 6]) (by kernel_rfl) ⟨qgh,trivial⟩) ((qgc _ _ _ _ _ _).trans h1) fun v objs' hd=>?_
  unfold qTw at hd;split at hd;(cases hd;exact h2);cases hd
 ·exact ho _ _ _ _ _ h
def qXs:Ctx:=mkC 44 ((qGf (qQc (qMS (qMQ (qKD (qTz (qJj (qKM qI))))))))) [] qU
theorem qlV:CtxOK Tryz.prog qXs:=mkC_ok ((qIS _ (qaD _ (qSF _ (qSD _ (qND _ (qgg _ (qMP _ (qNm _ qK)))))))))
def qXt:V->List Obj->Option (Int×Int×Int×Int×Bool×List (LI×LI)):=fun v objs=>match v,objs with
 | .agg [.one [.ptr 0 0 none 0,.i .i64 y0,.i .i64 y1,.i .u64 y2,.i .u64 y3,.mp 1,.b y4]],[.map false true [.i .i64] [.i .u64,.i .u64] y5]=>some (y0,y1,y2,y3,y4,y5)
 | _,_=>none
theorem qlU (x0 x1:LI) (x2:Int) (x3 x4:LL):fnE qXs Tryz.f95 ([.s (.ptr 0 0 none 0)]) ([.rcells 72 [.arr .i8 81 x0,.arr .i8 16 x1,.one [.i .i8 x2],.rows [.i .u64,.i .u64] 32 x3,.rows [.i .u64,.i .u64] 2 x4]]) (qAK 1 qXt)=qHd x0 x1 x2 x3 x4:=by kernel_rfl
def qXr:HA:=fun o vs objs K=>match vs,List.map Obj.toRO objs with
 | [.s (.ptr 0 0 none 0)],[.rcells 72 [.arr .i8 81 x0,.arr .i8 16 x1,.one [.i .i8 x2],.rows [.i .u64,.i .u64] 32 x3,.rows [.i .u64,.i .u64] 2 x4]]=>ob (qHd x0 x1 x2 x3 x4) fun z=>K true (.agg [.one [.ptr 0 0 none 0,.i .i64 (z.1),.i .i64 (z.2.1),.i .u64 (z.2.2.1),.i .u64 (z.2.2.2.1),.mp 1,.b (z.2.2.2.2.1)]]) ([.map false true [.i .i64] [.i .u64,.i .u64] (z.2.2.2.2.2)])
 | _,_=>o 95 vs objs K
def qPf (o:Orc):Orc:=qJ 95 (qXr o) o
theorem qXu:OQ Tryz.prog qPf:=fun _ ho=>qL ho fun vs objs K r h=>by
 unfold qXr at h
 split at h
 ·skip
  have hq:List.map Obj.toRO objs=_:=(by rename_i hq; first | exact hq | assumption)
  obtain ⟨t,h1,h2⟩:=qD h
  refine qAc mixed qlV (m:=1) (fn:=Tryz.f95) (b:=(Tryz.f95).body.getD .skip) (by kernel_rfl) (by kernel_rfl) (by kernel_rfl) hq (by kernel_rfl) (by kernel_rfl) (qM.of (l':=[]) (by kernel_rfl) trivial) ((qlU _ _ _ _ _).trans h1) fun v objs' hd=>?_
  unfold qXt at hd;split at hd;(cases hd;exact h2);cases hd
 ·exact ho _ _ _ _ _ h
def qZv:Ctx:=mkC 13 (qI) [] qU
theorem qoM:CtxOK Tryz.prog qZv:=mkC_ok (qK)
def qZw:V->List Obj->Option (Int):=fun v objs=>match v,objs with
 | .s (.i .i64 y0),[]=>some (y0)
 | _,_=>none
theorem qoL (x0:Int):fnE qZv Tryz.f59 ([.s (.i .i64 x0)]) ([]) qZw=qCt x0:=by kernel_rfl
def qZu:HA:=fun o vs objs K=>match vs,objs with
 | [.s (.i .i64 x0)],[]=>ob (qCt x0) fun y0=>K false (.s (.i .i64 y0)) ([])
 | _,_=>o 59 vs objs K
def qJO (o:Orc):Orc:=qJ 59 (qZu o) o
theorem qLn:OQ Tryz.prog qJO:=fun _ ho=>qL ho fun vs objs K r h=>by
 unfold qZu at h
 split at h
 ·skip
  obtain ⟨t,h1,h2⟩:=qD h
  refine qX mixed qoM ((qoL _).trans h1) (by kernel_rfl) fun v objs' hd=>?_
  unfold qZw at hd;split at hd;(cases hd;exact h2);cases hd
 ·exact ho _ _ _ _ _ h
def qSm:Ex->List V->List Obj->Option (Int×Int×Int×Int):=fun e vs objs=>match e,vs,objs with
 | .exit 0,[.s (.ptr 0 0 none 0),.s (.ptr 1 0 none 0)],[.cells 68 [.one [.i .u64 y0,.i .u64 y1]],.cells 68 [.one [.i .u64 y2,.i .u64 y3]]]=>some (y0,y1,y2,y3)
 | _,_,_=>none
def qSo:HL:=fun vs objs K=>match vs,objs with
 | [.s (.i .i64 x0),.s (.ptr 0 0 none 0),.s (.ptr 1 0 none 0),.s (.i .i64 x1)],[.cells 68 [.one [.i .u64 x2,.i .u64 x3]],.cells 68 [.one [.i .u64 x4,.i .u64 x5]]]=>ob (qMl qB x0 x1 x2 x3 x4 x5) fun z=>K (.exit 0) ([.s (.ptr 0 0 none 0),.s (.ptr 1 0 none 0)]) ([.cells 68 [.one [.i .u64 (z.1),.i .u64 (z.2.1)]],.cells 68 [.one [.i .u64 (z.2.2.1),.i .u64 (z.2.2.2)]]])
 | _,_=>none
def qtK:{R:Type}->Nat->List V->List Obj->(Ex->List V->List Obj->Option R)->Option R:=fun q vs objs K=>bif Nat.beq q 3 then qSo vs objs K else none
def qMk:Ctx:=mkC 23 ((qEe (qSi qI))) [(3,[0,2,3,6],[2,3])] qtK
theorem qea:CtxOK Tryz.prog qMk:=mkC_ok ((qFq _ (qeT _ qK)))
def qSn (f:Nat) (x0 x1:Int) (x2 x3:Int) (x4 x5:Int):Option (Int×Int×Int×Int):=qe qMk 0 [0,2,3,6] [2,3] (qE Tryz.f152 3) f ([.s (.i .i64 x0),.s (.ptr 0 0 none 0),.s (.ptr 1 0 none 0),.s (.i .i64 x1)]) ([.cells 68 [.one [.i .u64 x2,.i .u64 x3]],.cells 68 [.one [.i .u64 x4,.i .u64 x5]]]) qSm
theorem qtJ (f:Nat) (x0 x1:Int) (x2 x3:Int) (x4 x5:Int):qSn (f+1) x0 x1 x2 x3 x4 x5=qed (qSn f) x0 x1 x2 x3 x4 x5:=by kernel_rfl
theorem qec:∀ f,qSn f=qMl f
 | 0=>rfl
 | f+1=>by funext x0 x1 x2 x3 x4 x5; rw [qtJ,qec f]; rfl
theorem qtM:qa Tryz.prog qMk 0 (qE Tryz.f152 3):=
 qg mixed qea (qM.of (l':=[]) (by kernel_rfl) trivial) (q:=3) (kin:=[0,2,3,6]) (kout:=[2,3]) (by kernel_rfl) (by kernel_rfl) fun vs objs K r h=>by
  replace h:qSo vs objs K=some r:=h
  unfold qSo at h
  split at h
  ·skip
   obtain ⟨t,h1,h2⟩:=qD h
   rw [<- qec] at h1
   refine ⟨_,qSm,t,qB,h1,fun e vs' objs' hd=>?_⟩
   unfold qSm at hd;split at hd;(cases hd;exact h2);cases hd
  ·cases h
def qeb:V->List Obj->Option (Int×Int):=fun v objs=>match v,objs with
 | .agg [.one [.i .u64 y0,.i .u64 y1]],[]=>some (y0,y1)
 | _,_=>none
theorem qtI (x0:Int):fnE qMk Tryz.f152 ([.s (.i .i64 x0)]) ([]) qeb=qJr x0:=by kernel_rfl
def qeZ:HA:=fun o vs objs K=>match vs,objs with
 | [.s (.i .i64 x0)],[]=>ob (qJr x0) fun z=>K false (.agg [.one [.i .u64 (z.1),.i .u64 (z.2)]]) ([])
 | _,_=>o 152 vs objs K
def qee (o:Orc):Orc:=qJ 152 (qeZ o) o
theorem qtL:OQ Tryz.prog qee:=fun _ ho=>qL ho fun vs objs K r h=>by
 unfold qeZ at h
 split at h
 ·skip
  obtain ⟨t,h1,h2⟩:=qD h
  refine q7 mixed qea (fn:=Tryz.f152) (b:=(Tryz.f152).body.getD .skip) (by kernel_rfl) (by kernel_rfl) (by kernel_rfl) ((qtI _).trans h1) (m:=0) rfl (qM.of (l':=[qE Tryz.f152 3]) (by kernel_rfl) ⟨qtM,trivial⟩) fun v objs' hd=>?_
  unfold qeb at hd;split at hd;(cases hd;exact h2);cases hd
 ·exact ho _ _ _ _ _ h
def qWe:Ctx:=mkC 27 ((qMi (qGe (qee (qDj (qJO (qCr qI))))))) [] qU
theorem qj8:CtxOK Tryz.prog qWe:=mkC_ok ((qSe _ (qIO _ (qtL _ (qET _ (qLn _ (qDC _ qK)))))))
def qWf:V->List Obj->Option (Bool×Bool):=fun v objs=>match v,objs with
 | .tup [W.s (.b y0),W.s (.b y1)],[]=>some (y0,y1)
 | _,_=>none
theorem qj7 (x0 x1 x2:Int):fnE qWe Tryz.f132 ([.s (.i .i8 x0),.s (.i .i64 x1),.s (.i .i64 x2)]) ([]) qWf=qI8 x0 x1 x2:=by kernel_rfl
def qWd:HA:=fun o vs objs K=>match vs,objs with
 | [.s (.i .i8 x0),.s (.i .i64 x1),.s (.i .i64 x2)],[]=>ob (qI8 x0 x1 x2) fun z=>K false (.tup [W.s (.b (z.1)),W.s (.b (z.2))]) ([])
 | _,_=>o 132 vs objs K
def qWg (o:Orc):Orc:=qJ 132 (qWd o) o
theorem qj9:OQ Tryz.prog qWg:=fun _ ho=>qL ho fun vs objs K r h=>by
 unfold qWd at h
 split at h
 ·skip
  obtain ⟨t,h1,h2⟩:=qD h
  refine qX mixed qj8 ((qj7 _ _ _).trans h1) (by kernel_rfl) fun v objs' hd=>?_
  unfold qWf at hd;split at hd;(cases hd;exact h2);cases hd
 ·exact ho _ _ _ _ _ h
def qOh:Ex->List V->List Obj->Option (Nat×Int×Nat×Int×Int×LI×LI×Int×LL×LL×Int×Int×Nat×LL×Int×Int×Nat×LI):=fun e vs objs=>match e,vs,objs with
 | .exit 2,[.s (.ptr 0 0 none 0),.s (.ptr 1 0 none 0),.s (.sl 2 0 y0 true),.s (.i .i64 y1),.s (.ptr 3 0 none 0),.s (.sl 4 0 y2 true),.s (.i .i64 y3),.s (.i .i64 y4)],[.rcells 72 [.arr .i8 81 y5,.arr .i8 16 y6,.one [.i .i8 y7],.rows [.i .u64,.i .u64] 32 y8,.rows [.i .u64,.i .u64] 2 y9],.cells 68 [.one [.i .u64 y10,.i .u64 y11]],.sli 37 false (.rows [.i .i64,.i .i64,.i .i64,.b] y12 y13),.cells 68 [.one [.i .u64 y14,.i .u64 y15]],.sli 3 false (.arr .i64 y16 y17)]=>some (y0,y1,y2,y3,y4,y5,y6,y7,y8,y9,y10,y11,y12,y13,y14,y15,y16,y17)
 | _,_,_=>none
def qOf:Ex->List V->List Obj->Option (Nat×LI×LI×Int×LL×LL×Nat×LL):=fun e vs objs=>match e,vs,objs with
 | .exit 0,[.s (.sl 1 0 y0 true)],[.rcells 72 [.arr .i8 81 y1,.arr .i8 16 y2,.one [.i .i8 y3],.rows [.i .u64,.i .u64] 32 y4,.rows [.i .u64,.i .u64] 2 y5],.sli 37 false (.rows [.i .i64,.i .i64,.i .i64,.b] y6 y7)]=>some (y0,y1,y2,y3,y4,y5,y6,y7)
 | _,_,_=>none
def qOl:HL:=fun vs objs K=>match vs,objs with
 | [.s (.ptr 0 0 none 0),.s (.ptr 1 0 none 0),.s (.sl 2 0 x0 true),.s (.i .i64 x1),.s (.ptr 3 0 none 0),.s (.i .i64 x2),.s (.i .i8 x3),.s (.sl 4 0 x4 true),.s (.i .i64 x5),.s (.i .i64 x6),.s (.sl 5 0 x7 true),.s (.i .i64 x8),.s (.i .i64 x9)],[.rcells 72 [.arr .i8 81 x10,.arr .i8 16 x11,.one [.i .i8 x12],.rows [.i .u64,.i .u64] 32 x13,.rows [.i .u64,.i .u64] 2 x14],.cells 68 [.one [.i .u64 x15,.i .u64 x16]],.sli 37 false (.rows [.i .i64,.i .i64,.i .i64,.b] x17 x18),.cells 68 [.one [.i .u64 x19,.i .u64 x20]],.sli 3 false (.arr .i64 x21 x22),.sli 3 false (.arr .i64 x23 x24)]=>ob (qE9 qB x0 x1 x2 x3 x4 x5 x6 x7 x8 x9 x10 x11 x12 x13 x14 x15 x16 x17 x18 x19 x20 x21 x22 x23 x24) fun z=>K (.exit 2) ([.s (.ptr 0 0 none 0),.s (.ptr 1 0 none 0),.s (.sl 2 0 (z.1) true),.s (.i .i64 (z.2.1)),.s (.ptr 3 0 none 0),.s (.sl 4 0 (z.2.2.1) true),.s (.i .i64 (z.2.2.2.1)),.s (.i .i64 (z.2.2.2.2.1))]) ([.rcells 72 [.arr .i8 81 (z.2.2.2.2.2.1),.arr .i8 16 (z.2.2.2.2.2.2.1),.one [.i .i8 (z.2.2.2.2.2.2.2.1)],.rows [.i .u64,.i .u64] 32 (z.2.2.2.2.2.2.2.2.1),.rows [.i .u64,.i .u64] 2 (z.2.2.2.2.2.2.2.2.2.1)],.cells 68 [.one [.i .u64 (z.2.2.2.2.2.2.2.2.2.2.1),.i .u64 (z.2.2.2.2.2.2.2.2.2.2.2.1)]],.sli 37 false (.rows [.i .i64,.i .i64,.i .i64,.b] (z.2.2.2.2.2.2.2.2.2.2.2.2.1) (z.2.2.2.2.2.2.2.2.2.2.2.2.2.1)),.cells 68 [.one [.i .u64 (z.2.2.2.2.2.2.2.2.2.2.2.2.2.2.1),.i .u64 (z.2.2.2.2.2.2.2.2.2.2.2.2.2.2.2.1)]],.sli 3 false (.arr .i64 (z.2.2.2.2.2.2.2.2.2.2.2.2.2.2.2.2.1) (z.2.2.2.2.2.2.2.2.2.2.2.2.2.2.2.2.2))])
 | _,_=>none
def qOk:HL:=fun vs objs K=>match vs,objs with
 | [.s (.ptr 0 0 none 0),.s (.ptr 1 0 none 0),.s (.sl 2 0 x0 true),.s (.i .i64 x1),.s (.ptr 3 0 none 0),.s (.sl 4 0 x2 true),.s (.i .i64 x3),.s (.i .i64 x4)],[.rcells 72 [.arr .i8 81 x5,.arr .i8 16 x6,.one [.i .i8 x7],.rows [.i .u64,.i .u64] 32 x8,.rows [.i .u64,.i .u64] 2 x9],.cells 68 [.one [.i .u64 x10,.i .u64 x11]],.sli 37 false (.rows [.i .i64,.i .i64,.i .i64,.b] x12 x13),.cells 68 [.one [.i .u64 x14,.i .u64 x15]],.sli 3 false (.arr .i64 x16 x17)]=>ob (qE8 qB x0 x1 x2 x3 x4 x5 x6 x7 x8 x9 x10 x11 x12 x13 x14 x15 x16 x17) fun z=>K (.exit 0) ([.s (.sl 1 0 (z.1) true)]) ([.rcells 72 [.arr .i8 81 (z.2.1),.arr .i8 16 (z.2.2.1),.one [.i .i8 (z.2.2.2.1)],.rows [.i .u64,.i .u64] 32 (z.2.2.2.2.1),.rows [.i .u64,.i .u64] 2 (z.2.2.2.2.2.1)],.sli 37 false (.rows [.i .i64,.i .i64,.i .i64,.b] (z.2.2.2.2.2.2.1) (z.2.2.2.2.2.2.2))])
 | _,_=>none
def qjs:{R:Type}->Nat->List V->List Obj->(Ex->List V->List Obj->Option R)->Option R:=fun q vs objs K=>bif Nat.beq q 9 then qOl vs objs K else bif Nat.beq q 5 then qOk vs objs K else none
def qHK:Ctx:=mkC 82 ((qWg (qFm (qMV (qLx (qG3 (qF2 (qJm (qNr (qGf (qF5 qI))))))))))) [(5,[0,3,5,6,7,29,30,31],[5]),(9,[0,3,5,6,7,9,10,29,30,31,51,52,53],[0,3,5,6,7,29,30,31])] qjs
theorem qOe:CtxOK Tryz.prog qHK:=mkC_ok ((qj9 _ (qGa _ (qSK _ (qQh _ (qIo _ (qGy _ (qMa _ (qUe _ (qIS _ (qG1 _ qK)))))))))))
def qOi (f:Nat) (x0:Nat) (x1 x2 x3:Int) (x4:Nat) (x5 x6:Int) (x7:Nat) (x8 x9:Int) (x10 x11:LI) (x12:Int) (x13 x14:LL) (x15 x16:Int) (x17:Nat) (x18:LL) (x19 x20:Int) (x21:Nat) (x22:LI) (x23:Nat) (x24:LI):Option (Nat×Int×Nat×Int×Int×LI×LI×Int×LL×LL×Int×Int×Nat×LL×Int×Int×Nat×LI):=qe qHK 1 [0,3,5,6,7,9,10,29,30,31,51,52,53] [0,3,5,6,7,29,30,31] (qE Tryz.f96 9) f ([.s (.ptr 0 0 none 0),.s (.ptr 1 0 none 0),.s (.sl 2 0 x0 true),.s (.i .i64 x1),.s (.ptr 3 0 none 0),.s (.i .i64 x2),.s (.i .i8 x3),.s (.sl 4 0 x4 true),.s (.i .i64 x5),.s (.i .i64 x6),.s (.sl 5 0 x7 true),.s (.i .i64 x8),.s (.i .i64 x9)]) ([.rcells 72 [.arr .i8 81 x10,.arr .i8 16 x11,.one [.i .i8 x12],.rows [.i .u64,.i .u64] 32 x13,.rows [.i .u64,.i .u64] 2 x14],.cells 68 [.one [.i .u64 x15,.i .u64 x16]],.sli 37 false (.rows [.i .i64,.i .i64,.i .i64,.b] x17 x18),.cells 68 [.one [.i .u64 x19,.i .u64 x20]],.sli 3 false (.arr .i64 x21 x22),.sli 3 false (.arr .i64 x23 x24)]) qOh
theorem qjr (f:Nat) (x0:Nat) (x1 x2 x3:Int) (x4:Nat) (x5 x6:Int) (x7:Nat) (x8 x9:Int) (x10 x11:LI) (x12:Int) (x13 x14:LL) (x15 x16:Int) (x17:Nat) (x18:LL) (x19 x20:Int) (x21:Nat) (x22:LI) (x23:Nat) (x24:LI):qOi (f+1) x0 x1 x2 x3 x4 x5 x6 x7 x8 x9 x10 x11 x12 x13 x14 x15 x16 x17 x18 x19 x20 x21 x22 x23 x24=qHM (qOi f) x0 x1 x2 x3 x4 x5 x6 x7 x8 x9 x10 x11 x12 x13 x14 x15 x16 x17 x18 x19 x20 x21 x22 x23 x24:=by kernel_rfl
theorem qWR:∀ f,qOi f=qE9 f
 | 0=>rfl
 | f+1=>by funext x0 x1 x2 x3 x4 x5 x6 x7 x8 x9 x10 x11 x12 x13 x14 x15 x16 x17 x18 x19 x20 x21 x22 x23 x24; rw [qjr,qWR f]; rfl
def qOg (f:Nat) (x0:Nat) (x1:Int) (x2:Nat) (x3 x4:Int) (x5 x6:LI) (x7:Int) (x8 x9:LL) (x10 x11:Int) (x12:Nat) (x13:LL) (x14 x15:Int) (x16:Nat) (x17:LI):Option (Nat×LI×LI×Int×LL×LL×Nat×LL):=qe qHK 1 [0,3,5,6,7,29,30,31] [5] (qE Tryz.f96 5) f ([.s (.ptr 0 0 none 0),.s (.ptr 1 0 none 0),.s (.sl 2 0 x0 true),.s (.i .i64 x1),.s (.ptr 3 0 none 0),.s (.sl 4 0 x2 true),.s (.i .i64 x3),.s (.i .i64 x4)]) ([.rcells 72 [.arr .i8 81 x5,.arr .i8 16 x6,.one [.i .i8 x7],.rows [.i .u64,.i .u64] 32 x8,.rows [.i .u64,.i .u64] 2 x9],.cells 68 [.one [.i .u64 x10,.i .u64 x11]],.sli 37 false (.rows [.i .i64,.i .i64,.i .i64,.b] x12 x13),.cells 68 [.one [.i .u64 x14,.i .u64 x15]],.sli 3 false (.arr .i64 x16 x17)]) qOf
theorem qjq (f:Nat) (x0:Nat) (x1:Int) (x2:Nat) (x3 x4:Int) (x5 x6:LI) (x7:Int) (x8 x9:LL) (x10 x11:Int) (x12:Nat) (x13:LL) (x14 x15:Int) (x16:Nat) (x17:LI):qOg (f+1) x0 x1 x2 x3 x4 x5 x6 x7 x8 x9 x10 x11 x12 x13 x14 x15 x16 x17=qHL (qOg f) x0 x1 x2 x3 x4 x5 x6 x7 x8 x9 x10 x11 x12 x13 x14 x15 x16 x17:=by kernel_rfl
theorem qWQ:∀ f,qOg f=qE8 f
 | 0=>rfl
 | f+1=>by funext x0 x1 x2 x3 x4 x5 x6 x7 x8 x9 x10 x11 x12 x13 x14 x15 x16 x17; rw [qjq,qWQ f]; rfl
theorem qju:qa Tryz.prog qHK 1 (qE Tryz.f96 9):=
 qg mixed qOe (qM.of (l':=[]) (by kernel_rfl) trivial) (q:=9) (kin:=[0,3,5,6,7,9,10,29,30,31,51,52,53]) (kout:=[0,3,5,6,7,29,30,31]) (by kernel_rfl) (by kernel_rfl) fun vs objs K r h=>by
  replace h:qOl vs objs K=some r:=h
  unfold qOl at h
  split at h
  ·skip
   obtain ⟨t,h1,h2⟩:=qD h
   rw [<- qWR] at h1
   refine ⟨_,qOh,t,qB,h1,fun e vs' objs' hd=>?_⟩
   unfold qOh at hd;split at hd;(cases hd;exact h2);cases hd
  ·cases h
theorem qjt:qa Tryz.prog qHK 1 (qE Tryz.f96 5):=
 qg mixed qOe (qM.of (l':=[qE Tryz.f96 9]) (by kernel_rfl) ⟨qju,trivial⟩) (q:=5) (kin:=[0,3,5,6,7,29,30,31]) (kout:=[5]) (by kernel_rfl) (by kernel_rfl) fun vs objs K r h=>by
  replace h:qOk vs objs K=some r:=h
  unfold qOk at h
  split at h
  ·skip
   obtain ⟨t,h1,h2⟩:=qD h
   rw [<- qWQ] at h1
   refine ⟨_,qOf,t,qB,h1,fun e vs' objs' hd=>?_⟩
   unfold qOf at hd;split at hd;(cases hd;exact h2);cases hd
  ·cases h
def qWP:V->List Obj->Option (Nat×Nat×LL):=fun v objs=>match v,objs with
 | .s (.sl 1 0 y0 true),[.sli 37 false (.rows [.i .i64,.i .i64,.i .i64,.b] y1 y2)]=>some (y0,y1,y2)
 | _,_=>none
theorem qjp (x0 x1:Int) (x2 x3:LI) (x4:Int) (x5 x6:LL):fnE qHK Tryz.f96 ([.s (.ptr 0 0 none 0),.agg [.one [.i .u64 x0,.i .u64 x1]]]) ([.rcells 72 [.arr .i8 81 x2,.arr .i8 16 x3,.one [.i .i8 x4],.rows [.i .u64,.i .u64] 32 x5,.rows [.i .u64,.i .u64] 2 x6]]) (qAK 1 qWP)=qHJ x0 x1 x2 x3 x4 x5 x6:=by kernel_rfl
def qWO:HA:=fun o vs objs K=>match vs,List.map Obj.toRO objs with
 | [.s (.ptr 0 0 none 0),.agg [.one [.i .u64 x0,.i .u64 x1]]],[.rcells 72 [.arr .i8 81 x2,.arr .i8 16 x3,.one [.i .i8 x4],.rows [.i .u64,.i .u64] 32 x5,.rows [.i .u64,.i .u64] 2 x6]]=>ob (qHJ x0 x1 x2 x3 x4 x5 x6) fun z=>K true (.s (.sl 1 0 (z.1) true)) ([.sli 37 false (.rows [.i .i64,.i .i64,.i .i64,.b] (z.2.1) (z.2.2))])
 | _,_=>o 96 vs objs K
def qOj (o:Orc):Orc:=qJ 96 (qWO o) o
theorem qWS:OQ Tryz.prog qOj:=fun _ ho=>qL ho fun vs objs K r h=>by
 unfold qWO at h
 split at h
 ·skip
  have hq:List.map Obj.toRO objs=_:=(by rename_i hq; first | exact hq | assumption)
  obtain ⟨t,h1,h2⟩:=qD h
  refine qAc mixed qOe (m:=1) (fn:=Tryz.f96) (b:=(Tryz.f96).body.getD .skip) (by kernel_rfl) (by kernel_rfl) (by kernel_rfl) hq (by kernel_rfl) (by kernel_rfl) (qM.of (l':=[qE Tryz.f96 5]) (by kernel_rfl) ⟨qjt,trivial⟩) ((qjp _ _ _ _ _ _ _).trans h1) fun v objs' hd=>?_
  unfold qWP at hd;split at hd;(cases hd;exact h2);cases hd
 ·exact ho _ _ _ _ _ h
def qXw:Ctx:=mkC 49 ((qGe (qIN (qNH (qJn (qG3 qI)))))) [] qU
theorem qlX:CtxOK Tryz.prog qXw:=mkC_ok ((qIO _ (qJk _ (qTu _ (qMb _ (qIo _ qK))))))
def qXx:V->List Obj->Option (Bool×LI×LI×Int×LL×LL×List (LI×LI)):=fun v objs=>match v,objs with
 | .s (.b y0),[.cells 72 [.arr .i8 81 y1,.arr .i8 16 y2,.one [.i .i8 y3],.rows [.i .u64,.i .u64] 32 y4,.rows [.i .u64,.i .u64] 2 y5],.map false true [.i .i64] [.i .u64,.i .u64] y6]=>some (y0,y1,y2,y3,y4,y5,y6)
 | _,_=>none
theorem qlW (x0 x1:Int) (x2 x3:Int) (x4:Bool) (x5 x6 x7:Int) (x8:Bool) (x9 x10:LI) (x11:Int) (x12 x13:LL) (x14:List (LI×LI)):fnE qXw Tryz.f98 ([.agg [.one [.ptr 0 0 none 0,.i .i64 x0,.i .i64 x1,.i .u64 x2,.i .u64 x3,.mp 1,.b x4]],.agg [.one [.i .i64 x5,.i .i64 x6,.i .i64 x7,.b x8]]]) ([.cells 72 [.arr .i8 81 x9,.arr .i8 16 x10,.one [.i .i8 x11],.rows [.i .u64,.i .u64] 32 x12,.rows [.i .u64,.i .u64] 2 x13],.map false true [.i .i64] [.i .u64,.i .u64] x14]) qXx=qHe x0 x1 x2 x3 x4 x5 x6 x7 x8 x9 x10 x11 x12 x13 x14:=by kernel_rfl
def qXv:HA:=fun o vs objs K=>match vs,objs with
 | [.agg [.one [.ptr 0 0 none 0,.i .i64 x0,.i .i64 x1,.i .u64 x2,.i .u64 x3,.mp 1,.b x4]],.agg [.one [.i .i64 x5,.i .i64 x6,.i .i64 x7,.b x8]]],[.cells 72 [.arr .i8 81 x9,.arr .i8 16 x10,.one [.i .i8 x11],.rows [.i .u64,.i .u64] 32 x12,.rows [.i .u64,.i .u64] 2 x13],.map false true [.i .i64] [.i .u64,.i .u64] x14]=>ob (qHe x0 x1 x2 x3 x4 x5 x6 x7 x8 x9 x10 x11 x12 x13 x14) fun z=>K false (.s (.b (z.1))) ([.cells 72 [.arr .i8 81 (z.2.1),.arr .i8 16 (z.2.2.1),.one [.i .i8 (z.2.2.2.1)],.rows [.i .u64,.i .u64] 32 (z.2.2.2.2.1),.rows [.i .u64,.i .u64] 2 (z.2.2.2.2.2.1)],.map false true [.i .i64] [.i .u64,.i .u64] (z.2.2.2.2.2.2)])
 | _,_=>o 98 vs objs K
def qPg (o:Orc):Orc:=qJ 98 (qXv o) o
theorem qXy:OQ Tryz.prog qPg:=fun _ ho=>qL ho fun vs objs K r h=>by
 unfold qXv at h
 split at h
 ·skip
  obtain ⟨t,h1,h2⟩:=qD h
  refine qX mixed qlX ((qlW _ _ _ _ _ _ _ _ _ _ _ _ _ _ _).trans h1) (by kernel_rfl) fun v objs' hd=>?_
  unfold qXx at hd;split at hd;(cases hd;exact h2);cases hd
 ·exact ho _ _ _ _ _ h
def qUP:Ctx:=mkC 31 (qI) [] qU
theorem qhO:CtxOK Tryz.prog qUP:=mkC_ok (qK)
def qUQ:V->List Obj->Option (Int):=fun v objs=>match v,objs with
 | .s (.i .i64 y0),[]=>some (y0)
 | _,_=>none
theorem qhN (x0 x1:Int) (x2 x3:LI) (x4:Int) (x5 x6:LL):fnE qUP Tryz.f101 ([.s (.ptr 0 0 none 0),.s (.i .i64 x0),.s (.i .i64 x1)]) ([.rcells 72 [.arr .i8 81 x2,.arr .i8 16 x3,.one [.i .i8 x4],.rows [.i .u64,.i .u64] 32 x5,.rows [.i .u64,.i .u64] 2 x6]]) (qAK 1 qUQ)=qCg x0 x1 x2 x3 x4 x5 x6:=by kernel_rfl
def qUO:HA:=fun o vs objs K=>match vs,List.map Obj.toRO objs with
 | [.s (.ptr 0 0 none 0),.s (.i .i64 x0),.s (.i .i64 x1)],[.rcells 72 [.arr .i8 81 x2,.arr .i8 16 x3,.one [.i .i8 x4],.rows [.i .u64,.i .u64] 32 x5,.rows [.i .u64,.i .u64] 2 x6]]=>ob (qCg x0 x1 x2 x3 x4 x5 x6) fun y0=>K true (.s (.i .i64 y0)) ([])
 | _,_=>o 101 vs objs K
def qKL (o:Orc):Orc:=qJ 101 (qUO o) o
theorem qNl:OQ Tryz.prog qKL:=fun _ ho=>qL ho fun vs objs K r h=>by
 unfold qUO at h
 split at h
 ·skip
  have hq:List.map Obj.toRO objs=_:=(by rename_i hq; first | exact hq | assumption)
  obtain ⟨t,h1,h2⟩:=qD h
  refine qAc mixed qhO (m:=1) (fn:=Tryz.f101) (b:=(Tryz.f101).body.getD .skip) (by kernel_rfl) (by kernel_rfl) (by kernel_rfl) hq (by kernel_rfl) (by kernel_rfl) (qM.of (l':=[]) (by kernel_rfl) trivial) ((qhN _ _ _ _ _ _ _).trans h1) fun v objs' hd=>?_
  unfold qUQ at hd;split at hd;(cases hd;exact h2);cases hd
 ·exact ho _ _ _ _ _ h
def qdZ:Ctx:=mkC 6 ((qMV (qJj qI))) [] qU
theorem qsA:CtxOK Tryz.prog qdZ:=mkC_ok ((qSK _ (qMP _ qK)))
def qda:V->List Obj->Option (Int×Int):=fun v objs=>match v,objs with
 | .agg [.one [.i .u64 y0,.i .u64 y1]],[]=>some (y0,y1)
 | _,_=>none
theorem qr9 (x0 x1:Int):fnE qdZ Tryz.f153 ([.agg [.one [.i .u64 x0,.i .u64 x1]]]) ([]) qda=qJl x0 x1:=by kernel_rfl
def qdY:HA:=fun o vs objs K=>match vs,objs with
 | [.agg [.one [.i .u64 x0,.i .u64 x1]]],[]=>ob (qJl x0 x1) fun z=>K false (.agg [.one [.i .u64 (z.1),.i .u64 (z.2)]]) ([])
 | _,_=>o 153 vs objs K
def qdb (o:Orc):Orc:=qJ 153 (qdY o) o
theorem qsB:OQ Tryz.prog qdb:=fun _ ho=>qL ho fun vs objs K r h=>by
 unfold qdY at h
 split at h
 ·skip
  obtain ⟨t,h1,h2⟩:=qD h
  refine qX mixed qsA ((qr9 _ _).trans h1) (by kernel_rfl) fun v objs' hd=>?_
  unfold qda at hd;split at hd;(cases hd;exact h2);cases hd
 ·exact ho _ _ _ _ _ h
end
end Go.Kk.KkLN
