/- Printed by a tool of this project (KkGen): the program's functions come to the plain ones. -/
import Derived.Test.YtpppdecfohkkfaaGreatDoorKkLO
namespace Go.Kk.KkLO
noncomputable section
open Go.Proofs Go.Kk.Pl
set_option maxRecDepth 100000
set_option maxHeartbeats 4000000
def qcZ:Ctx:=mkC 6 (qK) [] qX
theorem qrI:CtxOK Tryz.prog qcZ:=mkC_ok (qM)
def qca:V->List Obj->Option (Bool):=fun v objs=>match v,objs with
 | .s (.b y0),[]=>some (y0)
 | _,_=>none
theorem qrH (x0 x1:Int):fnE qcZ Tryz.f84 ([.agg [.one [.i .u64 x0,.i .u64 x1]]]) ([]) qca=qEc x0 x1:=by kernel_rfl
def qcY:HA:=fun o vs objs K=>match vs,objs with
 | [.agg [.one [.i .u64 x0,.i .u64 x1]]],[]=>ob (qEc x0 x1) fun y0=>K false (.s (.b y0)) ([])
 | _,_=>o 84 vs objs K
def qH9 (o:Orc):Orc:=qL 84 (qcY o) o
theorem qJY:OQ Tryz.prog qH9:=fun _ ho=>qN ho fun vs objs K r h=>by
 unfold qcY at h
 split at h
 ·skip
  obtain ⟨t,h1,h2⟩:=qE h
  refine qf mixed qrI ((qrH _ _).trans h1) (by kernel_rfl) fun v objs' hd=>?_
  unfold qca at hd;split at hd;(cases hd;exact h2);cases hd
 ·exact ho _ _ _ _ _ h
def qci:Ctx:=mkC 11 ((qH9 (qFa (qMP qK)))) [] qX
theorem qrO:CtxOK Tryz.prog qci:=mkC_ok ((qJY _ (qGP _ (qSB _ qM))))
def qcj:V->List Obj->Option (Bool):=fun v objs=>match v,objs with
 | .s (.b y0),[]=>some (y0)
 | _,_=>none
theorem qrN (x0 x1 x2:Int):fnE qci Tryz.f133 ([.agg [.one [.i .u64 x0,.i .u64 x1]],.s (.i .i64 x2)]) ([]) qcj=qCC x0 x1 x2:=by kernel_rfl
def qch:HA:=fun o vs objs K=>match vs,objs with
 | [.agg [.one [.i .u64 x0,.i .u64 x1]],.s (.i .i64 x2)],[]=>ob (qCC x0 x1 x2) fun y0=>K false (.s (.b y0)) ([])
 | _,_=>o 133 vs objs K
def qGT (o:Orc):Orc:=qL 133 (qch o) o
theorem qIA:OQ Tryz.prog qGT:=fun _ ho=>qN ho fun vs objs K r h=>by
 unfold qch at h
 split at h
 ·skip
  obtain ⟨t,h1,h2⟩:=qE h
  refine qf mixed qrO ((qrN _ _ _).trans h1) (by kernel_rfl) fun v objs' hd=>?_
  unfold qcj at hd;split at hd;(cases hd;exact h2);cases hd
 ·exact ho _ _ _ _ _ h
def qQo:Ex->List V->List Obj->Option (Int×Int×Int×Int):=fun e vs objs=>match e,vs,objs with
 | .exit 0,[.s (.ptr 0 0 none 0),.s (.ptr 1 0 none 0)],[.cells 68 [.one [.i .u64 y0,.i .u64 y1]],.cells 68 [.one [.i .u64 y2,.i .u64 y3]]]=>some (y0,y1,y2,y3)
 | _,_,_=>none
def qQr:HL:=fun vs objs K=>match vs,objs with
 | [.s (.i .i64 x0),.s (.ptr 0 0 none 0),.s (.ptr 1 0 none 0),.s (.ptr 2 0 none 0),.s (.ptr 3 0 none 0)],[.cells 164 [.one [.i .i64 x1,.i .i64 x2]],.cells 68 [.one [.i .u64 x3,.i .u64 x4]],.cells 68 [.one [.i .u64 x5,.i .u64 x6]],.cells 68 [.one [.i .u64 x7,.i .u64 x8]]]=>ob (qGH qB x0 x1 x2 x3 x4 x5 x6 x7 x8) fun z=>K (.exit 0) ([.s (.ptr 0 0 none 0),.s (.ptr 1 0 none 0)]) ([.cells 68 [.one [.i .u64 (z.1),.i .u64 (z.2.1)]],.cells 68 [.one [.i .u64 (z.2.2.1),.i .u64 (z.2.2.2)]]])
 | _,_=>none
def qok:{R:Type}->Nat->List V->List Obj->(Ex->List V->List Obj->Option R)->Option R:=fun q vs objs K=>bif Nat.beq q 5 then qQr vs objs K else none
def qLq:Ctx:=mkC 27 ((qGT (qEe (qSL qK)))) [(5,[0,4,5,6,7],[6,7])] qok
theorem qaI:CtxOK Tryz.prog qLq:=mkC_ok ((qIA _ (qFe _ (qde _ qM))))
def qQp (f:Nat) (x0 x1:Int) (x2 x3:Int) (x4 x5:Int) (x6 x7 x8:Int):Option (Int×Int×Int×Int):=qg qLq 0 [0,4,5,6,7] [6,7] (qG Tryz.f147 5) f ([.s (.i .i64 x0),.s (.ptr 0 0 none 0),.s (.ptr 1 0 none 0),.s (.ptr 2 0 none 0),.s (.ptr 3 0 none 0)]) ([.cells 164 [.one [.i .i64 x1,.i .i64 x2]],.cells 68 [.one [.i .u64 x3,.i .u64 x4]],.cells 68 [.one [.i .u64 x5,.i .u64 x6]],.cells 68 [.one [.i .u64 x7,.i .u64 x8]]]) qQo
theorem qoj (f:Nat) (x0 x1:Int) (x2 x3:Int) (x4 x5:Int) (x6 x7 x8:Int):qQp (f+1) x0 x1 x2 x3 x4 x5 x6 x7 x8=qHq (qQp f) x0 x1 x2 x3 x4 x5 x6 x7 x8:=by kernel_rfl
theorem qaK:∀ f,qQp f=qGH f
 | 0=>rfl
 | f+1=>by funext x0 x1 x2 x3 x4 x5 x6 x7 x8;rw [qoj,qaK f];rfl
theorem qol:qe Tryz.prog qLq 0 (qG Tryz.f147 5):=
 qh mixed qaI (qO.of (l':=[]) (by kernel_rfl) trivial) (q:=5) (kin:=[0,4,5,6,7]) (kout:=[6,7]) (by kernel_rfl) (by kernel_rfl) fun vs objs K r h=>by
  replace h:qQr vs objs K=some r:=h
  unfold qQr at h
  split at h
  ·skip
   obtain ⟨t,h1,h2⟩:=qE h
   rw [<- qaK] at h1
   refine ⟨_,qQo,t,qB,h1,fun e vs' objs' hd=>?_⟩
   unfold qQo at hd;split at hd;(cases hd;exact h2);cases hd
  ·cases h
def qaJ:V->List Obj->Option (Int×Int):=fun v objs=>match v,objs with
 | .agg [.one [.i .u64 y0,.i .u64 y1]],[]=>some (y0,y1)
 | _,_=>none
theorem qoi (x0 x1:Int) (x2 x3 x4:Int):fnE qLq Tryz.f147 ([.s (.i .i64 x0),.agg [.one [.i .i64 x1,.i .i64 x2]],.agg [.one [.i .u64 x3,.i .u64 x4]]]) ([]) qaJ=qHp x0 x1 x2 x3 x4:=by kernel_rfl
def qaH:HA:=fun o vs objs K=>match vs,objs with
 | [.s (.i .i64 x0),.agg [.one [.i .i64 x1,.i .i64 x2]],.agg [.one [.i .u64 x3,.i .u64 x4]]],[]=>ob (qHp x0 x1 x2 x3 x4) fun z=>K false (.agg [.one [.i .u64 (z.1),.i .u64 (z.2)]]) ([])
 | _,_=>o 147 vs objs K
def qQq (o:Orc):Orc:=qL 147 (qaH o) o
theorem qaL:OQ Tryz.prog qQq:=fun _ ho=>qN ho fun vs objs K r h=>by
 unfold qaH at h
 split at h
 ·skip
  obtain ⟨t,h1,h2⟩:=qE h
  refine q8 mixed qaI (fn:=Tryz.f147) (b:=(Tryz.f147).body.getD .skip) (by kernel_rfl) (by kernel_rfl) (by kernel_rfl) ((qoi _ _ _ _ _).trans h1) (m:=0) rfl (qO.of (l':=[qG Tryz.f147 5]) (by kernel_rfl) ⟨qol,trivial⟩) fun v objs' hd=>?_
  unfold qaJ at hd;split at hd;(cases hd;exact h2);cases hd
 ·exact ho _ _ _ _ _ h
def qQk:Ex->List V->List Obj->Option (Int×Int×Int×Int):=fun e vs objs=>match e,vs,objs with
 | .exit 0,[.s (.ptr 0 0 none 0),.s (.ptr 1 0 none 0)],[.cells 68 [.one [.i .u64 y0,.i .u64 y1]],.cells 68 [.one [.i .u64 y2,.i .u64 y3]]]=>some (y0,y1,y2,y3)
 | _,_,_=>none
def qQn:HL:=fun vs objs K=>match vs,objs with
 | [.s (.i .i8 x0),.s (.i .i64 x1),.s (.ptr 0 0 none 0),.s (.ptr 1 0 none 0),.s (.ptr 2 0 none 0),.s (.sl 3 0 x2 true),.s (.i .i64 x3),.s (.i .i64 x4)],[.cells 68 [.one [.i .u64 x5,.i .u64 x6]],.cells 68 [.one [.i .u64 x7,.i .u64 x8]],.cells 68 [.one [.i .u64 x9,.i .u64 x10]],.sli 164 false (.rows [.i .i64,.i .i64] x11 x12)]=>ob (qFQ qB x0 x1 x2 x3 x4 x5 x6 x7 x8 x9 x10 x11 x12) fun z=>K (.exit 0) ([.s (.ptr 0 0 none 0),.s (.ptr 1 0 none 0)]) ([.cells 68 [.one [.i .u64 (z.1),.i .u64 (z.2.1)]],.cells 68 [.one [.i .u64 (z.2.2.1),.i .u64 (z.2.2.2)]]])
 | _,_=>none
def qog:{R:Type}->Nat->List V->List Obj->(Ex->List V->List Obj->Option R)->Option R:=fun q vs objs K=>bif Nat.beq q 3 then qQn vs objs K else none
def qLo:Ctx:=mkC 32 ((qGU (qQq (qSM (qDo (qQj (qCr (qdt qK)))))))) [(3,[0,1,5,6,7,15,16,17],[6,7])] qog
theorem qaE:CtxOK Tryz.prog qLo:=mkC_ok ((qIE _ (qaL _ (qdi _ (qEV _ (qaC _ (qDC _ (qsf _ qM))))))))
def qQl (f:Nat) (x0 x1:Int) (x2:Nat) (x3 x4:Int) (x5 x6:Int) (x7 x8:Int) (x9 x10:Int) (x11:Nat) (x12:LL):Option (Int×Int×Int×Int):=qg qLo 0 [0,1,5,6,7,15,16,17] [6,7] (qG Tryz.f130 3) f ([.s (.i .i8 x0),.s (.i .i64 x1),.s (.ptr 0 0 none 0),.s (.ptr 1 0 none 0),.s (.ptr 2 0 none 0),.s (.sl 3 0 x2 true),.s (.i .i64 x3),.s (.i .i64 x4)]) ([.cells 68 [.one [.i .u64 x5,.i .u64 x6]],.cells 68 [.one [.i .u64 x7,.i .u64 x8]],.cells 68 [.one [.i .u64 x9,.i .u64 x10]],.sli 164 false (.rows [.i .i64,.i .i64] x11 x12)]) qQk
theorem qof (f:Nat) (x0 x1:Int) (x2:Nat) (x3 x4:Int) (x5 x6:Int) (x7 x8:Int) (x9 x10:Int) (x11:Nat) (x12:LL):qQl (f+1) x0 x1 x2 x3 x4 x5 x6 x7 x8 x9 x10 x11 x12=qHo (qQl f) x0 x1 x2 x3 x4 x5 x6 x7 x8 x9 x10 x11 x12:=by kernel_rfl
theorem qaG:∀ f,qQl f=qFQ f
 | 0=>rfl
 | f+1=>by funext x0 x1 x2 x3 x4 x5 x6 x7 x8 x9 x10 x11 x12;rw [qof,qaG f];rfl
theorem qoh:qe Tryz.prog qLo 0 (qG Tryz.f130 3):=
 qh mixed qaE (qO.of (l':=[]) (by kernel_rfl) trivial) (q:=3) (kin:=[0,1,5,6,7,15,16,17]) (kout:=[6,7]) (by kernel_rfl) (by kernel_rfl) fun vs objs K r h=>by
  replace h:qQn vs objs K=some r:=h
  unfold qQn at h
  split at h
  ·skip
   obtain ⟨t,h1,h2⟩:=qE h
   rw [<- qaG] at h1
   refine ⟨_,qQk,t,qB,h1,fun e vs' objs' hd=>?_⟩
   unfold qQk at hd;split at hd;(cases hd;exact h2);cases hd
  ·cases h
def qaF:V->List Obj->Option (Int×Int):=fun v objs=>match v,objs with
 | .agg [.one [.i .u64 y0,.i .u64 y1]],[]=>some (y0,y1)
 | _,_=>none
theorem qoe (x0 x1:Int) (x2 x3:Int):fnE qLo Tryz.f130 ([.s (.i .i8 x0),.s (.i .i64 x1),.agg [.one [.i .u64 x2,.i .u64 x3]]]) ([]) qaF=qFP x0 x1 x2 x3:=by kernel_rfl
def qaD:HA:=fun o vs objs K=>match vs,objs with
 | [.s (.i .i8 x0),.s (.i .i64 x1),.agg [.one [.i .u64 x2,.i .u64 x3]]],[]=>ob (qFP x0 x1 x2 x3) fun z=>K false (.agg [.one [.i .u64 (z.1),.i .u64 (z.2)]]) ([])
 | _,_=>o 130 vs objs K
def qLp (o:Orc):Orc:=qL 130 (qaD o) o
theorem qQm:OQ Tryz.prog qLp:=fun _ ho=>qN ho fun vs objs K r h=>by
 unfold qaD at h
 split at h
 ·skip
  obtain ⟨t,h1,h2⟩:=qE h
  refine q8 mixed qaE (fn:=Tryz.f130) (b:=(Tryz.f130).body.getD .skip) (by kernel_rfl) (by kernel_rfl) (by kernel_rfl) ((qoe _ _ _ _).trans h1) (m:=0) rfl (qO.of (l':=[qG Tryz.f130 3]) (by kernel_rfl) ⟨qoh,trivial⟩) fun v objs' hd=>?_
  unfold qaF at hd;split at hd;(cases hd;exact h2);cases hd
 ·exact ho _ _ _ _ _ h
def qM6:Ex->List V->List Obj->Option (LI×LI×Int×LL×LL×Int×Int×Int×Int):=fun e vs objs=>match e,vs,objs with
 | .exit 0,[.s (.ptr 1 0 none 0),.s (.ptr 2 0 none 0)],[.rcells 72 [.arr .i8 81 y0,.arr .i8 16 y1,.one [.i .i8 y2],.rows [.i .u64,.i .u64] 32 y3,.rows [.i .u64,.i .u64] 2 y4],.cells 68 [.one [.i .u64 y5,.i .u64 y6]],.cells 68 [.one [.i .u64 y7,.i .u64 y8]]]=>some (y0,y1,y2,y3,y4,y5,y6,y7,y8)
 | _,_,_=>none
def qM9:HL:=fun vs objs K=>match vs,objs with
 | [.s (.ptr 0 0 none 0),.s (.i .i64 x0),.s (.i .i64 x1),.s (.ptr 1 0 none 0),.s (.ptr 2 0 none 0),.s (.ptr 3 0 none 0),.s (.i .i64 x2)],[.rcells 72 [.arr .i8 81 x3,.arr .i8 16 x4,.one [.i .i8 x5],.rows [.i .u64,.i .u64] 32 x6,.rows [.i .u64,.i .u64] 2 x7],.cells 68 [.one [.i .u64 x8,.i .u64 x9]],.cells 68 [.one [.i .u64 x10,.i .u64 x11]],.cells 68 [.one [.i .u64 x12,.i .u64 x13]]]=>ob (qEB qB x0 x1 x2 x3 x4 x5 x6 x7 x8 x9 x10 x11 x12 x13) fun z=>K (.exit 0) ([.s (.ptr 1 0 none 0),.s (.ptr 2 0 none 0)]) ([.rcells 72 [.arr .i8 81 (z.1),.arr .i8 16 (z.2.1),.one [.i .i8 (z.2.2.1)],.rows [.i .u64,.i .u64] 32 (z.2.2.2.1),.rows [.i .u64,.i .u64] 2 (z.2.2.2.2.1)],.cells 68 [.one [.i .u64 (z.2.2.2.2.2.1),.i .u64 (z.2.2.2.2.2.2.1)]],.cells 68 [.one [.i .u64 (z.2.2.2.2.2.2.2.1),.i .u64 (z.2.2.2.2.2.2.2.2)]]])
 | _,_=>none
def qfv:{R:Type}->Nat->List V->List Obj->(Ex->List V->List Obj->Option R)->Option R:=fun q vs objs K=>bif Nat.beq q 5 then qM9 vs objs K else none
def qJ4:Ctx:=mkC 49 ((qGU (qFa (qFt (qLp (qDm qK)))))) [(5,[0,1,2,7,8,9,10],[8,9])] qfv
theorem qTT:CtxOK Tryz.prog qJ4:=mkC_ok ((qIE _ (qGP _ (qGr _ (qQm _ (qEU _ qM))))))
def qM7 (f:Nat) (x0 x1 x2:Int) (x3 x4:LI) (x5:Int) (x6 x7:LL) (x8 x9:Int) (x10 x11:Int) (x12 x13:Int):Option (LI×LI×Int×LL×LL×Int×Int×Int×Int):=qg qJ4 1 [0,1,2,7,8,9,10] [8,9] (qG Tryz.f111 5) f ([.s (.ptr 0 0 none 0),.s (.i .i64 x0),.s (.i .i64 x1),.s (.ptr 1 0 none 0),.s (.ptr 2 0 none 0),.s (.ptr 3 0 none 0),.s (.i .i64 x2)]) ([.rcells 72 [.arr .i8 81 x3,.arr .i8 16 x4,.one [.i .i8 x5],.rows [.i .u64,.i .u64] 32 x6,.rows [.i .u64,.i .u64] 2 x7],.cells 68 [.one [.i .u64 x8,.i .u64 x9]],.cells 68 [.one [.i .u64 x10,.i .u64 x11]],.cells 68 [.one [.i .u64 x12,.i .u64 x13]]]) qM6
theorem qfu (f:Nat) (x0 x1 x2:Int) (x3 x4:LI) (x5:Int) (x6 x7:LL) (x8 x9:Int) (x10 x11:Int) (x12 x13:Int):qM7 (f+1) x0 x1 x2 x3 x4 x5 x6 x7 x8 x9 x10 x11 x12 x13=qGj (qM7 f) x0 x1 x2 x3 x4 x5 x6 x7 x8 x9 x10 x11 x12 x13:=by kernel_rfl
theorem qTV:∀ f,qM7 f=qEB f
 | 0=>rfl
 | f+1=>by funext x0 x1 x2 x3 x4 x5 x6 x7 x8 x9 x10 x11 x12 x13;rw [qfu,qTV f];rfl
theorem qfw:qe Tryz.prog qJ4 1 (qG Tryz.f111 5):=
 qh mixed qTT (qO.of (l':=[]) (by kernel_rfl) trivial) (q:=5) (kin:=[0,1,2,7,8,9,10]) (kout:=[8,9]) (by kernel_rfl) (by kernel_rfl) fun vs objs K r h=>by
  replace h:qM9 vs objs K=some r:=h
  unfold qM9 at h
  split at h
  ·skip
   obtain ⟨t,h1,h2⟩:=qE h
   rw [<- qTV] at h1
   refine ⟨_,qM6,t,qB,h1,fun e vs' objs' hd=>?_⟩
   unfold qM6 at hd;split at hd;(cases hd;exact h2);cases hd
  ·cases h
def qTU:V->List Obj->Option (Int×Int):=fun v objs=>match v,objs with
 | .agg [.one [.i .u64 y0,.i .u64 y1]],[]=>some (y0,y1)
 | _,_=>none
theorem qft (x0 x1:Int) (x2 x3:Int) (x4 x5:LI) (x6:Int) (x7 x8:LL):fnE qJ4 Tryz.f111 ([.s (.ptr 0 0 none 0),.s (.i .i64 x0),.s (.i .i64 x1),.agg [.one [.i .u64 x2,.i .u64 x3]]]) ([.rcells 72 [.arr .i8 81 x4,.arr .i8 16 x5,.one [.i .i8 x6],.rows [.i .u64,.i .u64] 32 x7,.rows [.i .u64,.i .u64] 2 x8]]) (qAP 1 qTU)=qGi x0 x1 x2 x3 x4 x5 x6 x7 x8:=by kernel_rfl
def qTS:HA:=fun o vs objs K=>match vs,List.map Obj.toRO objs with
 | [.s (.ptr 0 0 none 0),.s (.i .i64 x0),.s (.i .i64 x1),.agg [.one [.i .u64 x2,.i .u64 x3]]],[.rcells 72 [.arr .i8 81 x4,.arr .i8 16 x5,.one [.i .i8 x6],.rows [.i .u64,.i .u64] 32 x7,.rows [.i .u64,.i .u64] 2 x8]]=>ob (qGi x0 x1 x2 x3 x4 x5 x6 x7 x8) fun z=>K true (.agg [.one [.i .u64 (z.1),.i .u64 (z.2)]]) ([])
 | _,_=>o 111 vs objs K
def qM8 (o:Orc):Orc:=qL 111 (qTS o) o
theorem qTW:OQ Tryz.prog qM8:=fun _ ho=>qN ho fun vs objs K r h=>by
 unfold qTS at h
 split at h
 ·skip
  have hq:List.map Obj.toRO objs=_:=(by rename_i hq;first | exact hq | assumption)
  obtain ⟨t,h1,h2⟩:=qE h
  refine qAn mixed qTT (m:=1) (fn:=Tryz.f111) (b:=(Tryz.f111).body.getD .skip) (by kernel_rfl) (by kernel_rfl) (by kernel_rfl) hq (by kernel_rfl) (by kernel_rfl) (qO.of (l':=[qG Tryz.f111 5]) (by kernel_rfl) ⟨qfw,trivial⟩) ((qft _ _ _ _ _ _ _ _ _).trans h1) fun v objs' hd=>?_
  unfold qTU at hd;split at hd;(cases hd;exact h2);cases hd
 ·exact ho _ _ _ _ _ h
def qTL:Ctx:=mkC 14 ((qM8 (qGt (qKB qK)))) [] qX
theorem qfp:CtxOK Tryz.prog qTL:=mkC_ok ((qTW _ (qIa _ (qNd _ qM))))
def qTM:V->List Obj->Option (Int×Int):=fun v objs=>match v,objs with
 | .agg [.one [.i .u64 y0,.i .u64 y1]],[]=>some (y0,y1)
 | _,_=>none
theorem qfo (x0:Int) (x1 x2:LI) (x3:Int) (x4 x5:LL):fnE qTL Tryz.f83 ([.s (.ptr 0 0 none 0),.s (.i .i64 x0)]) ([.rcells 72 [.arr .i8 81 x1,.arr .i8 16 x2,.one [.i .i8 x3],.rows [.i .u64,.i .u64] 32 x4,.rows [.i .u64,.i .u64] 2 x5]]) (qAP 1 qTM)=qFn x0 x1 x2 x3 x4 x5:=by kernel_rfl
def qTK:HA:=fun o vs objs K=>match vs,List.map Obj.toRO objs with
 | [.s (.ptr 0 0 none 0),.s (.i .i64 x0)],[.rcells 72 [.arr .i8 81 x1,.arr .i8 16 x2,.one [.i .i8 x3],.rows [.i .u64,.i .u64] 32 x4,.rows [.i .u64,.i .u64] 2 x5]]=>ob (qFn x0 x1 x2 x3 x4 x5) fun z=>K true (.agg [.one [.i .u64 (z.1),.i .u64 (z.2)]]) ([])
 | _,_=>o 83 vs objs K
def qJ3 (o:Orc):Orc:=qL 83 (qTK o) o
theorem qM4:OQ Tryz.prog qJ3:=fun _ ho=>qN ho fun vs objs K r h=>by
 unfold qTK at h
 split at h
 ·skip
  have hq:List.map Obj.toRO objs=_:=(by rename_i hq;first | exact hq | assumption)
  obtain ⟨t,h1,h2⟩:=qE h
  refine qAn mixed qfp (m:=1) (fn:=Tryz.f83) (b:=(Tryz.f83).body.getD .skip) (by kernel_rfl) (by kernel_rfl) (by kernel_rfl) hq (by kernel_rfl) (by kernel_rfl) (qO.of (l':=[]) (by kernel_rfl) trivial) ((qfo _ _ _ _ _ _).trans h1) fun v objs' hd=>?_
  unfold qTM at hd;split at hd;(cases hd;exact h2);cases hd
 ·exact ho _ _ _ _ _ h
def qTP:Ctx:=mkC 10 ((qH9 (qJ3 qK))) [] qX
theorem qfr:CtxOK Tryz.prog qTP:=mkC_ok ((qJY _ (qM4 _ qM)))
def qTQ:V->List Obj->Option (Bool):=fun v objs=>match v,objs with
 | .s (.b y0),[]=>some (y0)
 | _,_=>none
theorem qfq (x0:Int) (x1 x2:LI) (x3:Int) (x4 x5:LL):fnE qTP Tryz.f41 ([.s (.ptr 0 0 none 0),.s (.i .i64 x0)]) ([.rcells 72 [.arr .i8 81 x1,.arr .i8 16 x2,.one [.i .i8 x3],.rows [.i .u64,.i .u64] 32 x4,.rows [.i .u64,.i .u64] 2 x5]]) (qAP 1 qTQ)=qIW x0 x1 x2 x3 x4 x5:=by kernel_rfl
def qTO:HA:=fun o vs objs K=>match vs,List.map Obj.toRO objs with
 | [.s (.ptr 0 0 none 0),.s (.i .i64 x0)],[.rcells 72 [.arr .i8 81 x1,.arr .i8 16 x2,.one [.i .i8 x3],.rows [.i .u64,.i .u64] 32 x4,.rows [.i .u64,.i .u64] 2 x5]]=>ob (qIW x0 x1 x2 x3 x4 x5) fun y0=>K true (.s (.b y0)) ([])
 | _,_=>o 41 vs objs K
def qTR (o:Orc):Orc:=qL 41 (qTO o) o
theorem qfs:OQ Tryz.prog qTR:=fun _ ho=>qN ho fun vs objs K r h=>by
 unfold qTO at h
 split at h
 ·skip
  have hq:List.map Obj.toRO objs=_:=(by rename_i hq;first | exact hq | assumption)
  obtain ⟨t,h1,h2⟩:=qE h
  refine qAn mixed qfr (m:=1) (fn:=Tryz.f41) (b:=(Tryz.f41).body.getD .skip) (by kernel_rfl) (by kernel_rfl) (by kernel_rfl) hq (by kernel_rfl) (by kernel_rfl) (qO.of (l':=[]) (by kernel_rfl) trivial) ((qfq _ _ _ _ _ _).trans h1) fun v objs' hd=>?_
  unfold qTQ at hd;split at hd;(cases hd;exact h2);cases hd
 ·exact ho _ _ _ _ _ h
def qTI:Ctx:=mkC 16 ((qTR (qKD (qTv qK)))) [] qX
theorem qfn:CtxOK Tryz.prog qTI:=mkC_ok ((qfs _ (qNg _ (qgc _ qM))))
def qTJ:V->List Obj->Option (Int):=fun v objs=>match v,objs with
 | .s (.i .i64 y0),[]=>some (y0)
 | _,_=>none
theorem qfm (x0 x1:LI) (x2:Int):fnE qTI Tryz.f23 ([.agg [.arr .i8 81 x0,.arr .i8 16 x1,.one [.i .i8 x2]]]) ([]) qTJ=qGh x0 x1 x2:=by kernel_rfl
def qTH:HA:=fun o vs objs K=>match vs,objs with
 | [.agg [.arr .i8 81 x0,.arr .i8 16 x1,.one [.i .i8 x2]]],[]=>ob (qGh x0 x1 x2) fun y0=>K false (.s (.i .i64 y0)) ([])
 | _,_=>o 23 vs objs K
def qM5 (o:Orc):Orc:=qL 23 (qTH o) o
theorem qTN:OQ Tryz.prog qM5:=fun _ ho=>qN ho fun vs objs K r h=>by
 unfold qTH at h
 split at h
 ·skip
  obtain ⟨t,h1,h2⟩:=qE h
  refine qf mixed qfn ((qfm _ _ _).trans h1) (by kernel_rfl) fun v objs' hd=>?_
  unfold qTJ at hd;split at hd;(cases hd;exact h2);cases hd
 ·exact ho _ _ _ _ _ h
def qW3:Ctx:=mkC 19 (qK) [] qX
theorem qkT:CtxOK Tryz.prog qW3:=mkC_ok (qM)
def qW4:V->List Obj->Option (Int):=fun v objs=>match v,objs with
 | .s (.i .u64 y0),[]=>some (y0)
 | _,_=>none
theorem qkS (x0:Int):fnE qW3 Tryz.f123 ([.s (.i .u64 x0)]) ([]) qW4=qDh x0:=by kernel_rfl
def qW2:HA:=fun o vs objs K=>match vs,objs with
 | [.s (.i .u64 x0)],[]=>ob (qDh x0) fun y0=>K false (.s (.i .u64 y0)) ([])
 | _,_=>o 123 vs objs K
def qKr (o:Orc):Orc:=qL 123 (qW2 o) o
theorem qO7:OQ Tryz.prog qKr:=fun _ ho=>qN ho fun vs objs K r h=>by
 unfold qW2 at h
 split at h
 ·skip
  obtain ⟨t,h1,h2⟩:=qE h
  refine qf mixed qkT ((qkS _).trans h1) (by kernel_rfl) fun v objs' hd=>?_
  unfold qW4 at hd;split at hd;(cases hd;exact h2);cases hd
 ·exact ho _ _ _ _ _ h
def qWs:Ctx:=mkC 23 ((qKr (qCr qK))) [] qX
theorem qkP:CtxOK Tryz.prog qWs:=mkC_ok ((qO7 _ (qDC _ qM)))
def qWt:V->List Obj->Option (Int):=fun v objs=>match v,objs with
 | .s (.i .u64 y0),[]=>some (y0)
 | _,_=>none
theorem qkO (x0 x1:Int):fnE qWs Tryz.f92 ([.s (.i .i64 x0),.s (.i .i8 x1)]) ([]) qWt=qB7 x0 x1:=by kernel_rfl
def qWr:HA:=fun o vs objs K=>match vs,objs with
 | [.s (.i .i64 x0),.s (.i .i8 x1)],[]=>ob (qB7 x0 x1) fun y0=>K false (.s (.i .u64 y0)) ([])
 | _,_=>o 92 vs objs K
def qO5 (o:Orc):Orc:=qL 92 (qWr o) o
theorem qWu:OQ Tryz.prog qO5:=fun _ ho=>qN ho fun vs objs K r h=>by
 unfold qWr at h
 split at h
 ·skip
  obtain ⟨t,h1,h2⟩:=qE h
  refine qf mixed qkP ((qkO _ _).trans h1) (by kernel_rfl) fun v objs' hd=>?_
  unfold qWt at hd;split at hd;(cases hd;exact h2);cases hd
 ·exact ho _ _ _ _ _ h
def qWi:Ctx:=mkC 41 ((qKr qK)) [] qX
theorem qkE:CtxOK Tryz.prog qWi:=mkC_ok ((qO7 _ qM))
def qWj:V->List Obj->Option (Int):=fun v objs=>match v,objs with
 | .s (.i .u64 y0),[]=>some (y0)
 | _,_=>none
theorem qkD (x0 x1 x2:Int):fnE qWi Tryz.f93 ([.s (.i .i64 x0),.s (.i .i64 x1),.s (.i .i64 x2)]) ([]) qWj=qCn x0 x1 x2:=by kernel_rfl
def qWh:HA:=fun o vs objs K=>match vs,objs with
 | [.s (.i .i64 x0),.s (.i .i64 x1),.s (.i .i64 x2)],[]=>ob (qCn x0 x1 x2) fun y0=>K false (.s (.i .u64 y0)) ([])
 | _,_=>o 93 vs objs K
def qOv (o:Orc):Orc:=qL 93 (qWh o) o
theorem qWk:OQ Tryz.prog qOv:=fun _ ho=>qN ho fun vs objs K r h=>by
 unfold qWh at h
 split at h
 ·skip
  obtain ⟨t,h1,h2⟩:=qE h
  refine qf mixed qkE ((qkD _ _ _).trans h1) (by kernel_rfl) fun v objs' hd=>?_
  unfold qWj at hd;split at hd;(cases hd;exact h2);cases hd
 ·exact ho _ _ _ _ _ h
def qWw:Ctx:=mkC 2 ((qKr qK)) [] qX
theorem qkR:CtxOK Tryz.prog qWw:=mkC_ok ((qO7 _ qM))
def qWx:V->List Obj->Option (Int):=fun v objs=>match v,objs with
 | .s (.i .u64 y0),[]=>some (y0)
 | _,_=>none
theorem qkQ:fnE qWw Tryz.f94 ([]) ([]) qWx=qCp  := by kernel_rfl
def qWv:HA:=fun o vs objs K=>match vs,objs with
 | [],[]=>ob (qCp ) fun y0=>K false (.s (.i .u64 y0)) ([])
 | _,_=>o 94 vs objs K
def qO6 (o:Orc):Orc:=qL 94 (qWv o) o
theorem qWy:OQ Tryz.prog qO6:=fun _ ho=>qN ho fun vs objs K r h=>by
 unfold qWv at h
 split at h
 ·skip
  obtain ⟨t,h1,h2⟩:=qE h
  refine qf mixed qkR ((qkQ).trans h1) (by kernel_rfl) fun v objs' hd=>?_
  unfold qWx at hd;split at hd;(cases hd;exact h2);cases hd
 ·exact ho _ _ _ _ _ h
def qOy:Ex->List V->List Obj->Option (Int×LI×LI×Int):=fun e vs objs=>match e,vs,objs with
 | .exit 0,[.s (.ptr 0 0 none 0),.s (.i .u64 y0)],[.cells 28 [.arr .i8 81 y1,.arr .i8 16 y2,.one [.i .i8 y3]]]=>some (y0,y1,y2,y3)
 | _,_,_=>none
def qOw:Ex->List V->List Obj->Option (Int×LI×Int×LI×LI×Int):=fun e vs objs=>match e,vs,objs with
 | .exit 4,[.s (.ptr 0 0 none 0),.s (.i .u64 y0),.agg [.arr .i8 16 y1],.s (.i .i64 y2)],[.cells 28 [.arr .i8 81 y3,.arr .i8 16 y4,.one [.i .i8 y5]]]=>some (y0,y1,y2,y3,y4,y5)
 | _,_,_=>none
def qO0:Ex->List V->List Obj->Option (Int×LI×LI×Int):=fun e vs objs=>match e,vs,objs with
 | .exit 2,[.s (.ptr 0 0 none 0),.s (.i .u64 y0)],[.cells 28 [.arr .i8 81 y1,.arr .i8 16 y2,.one [.i .i8 y3]]]=>some (y0,y1,y2,y3)
 | _,_,_=>none
def qO3:HL:=fun vs objs K=>match vs,objs with
 | [.s (.ptr 0 0 none 0),.s (.i .u64 x0),.agg [.arr .i8 81 x1],.s (.i .i64 x2)],[.cells 28 [.arr .i8 81 x3,.arr .i8 16 x4,.one [.i .i8 x5]]]=>ob (qCP qB x0 x1 x2 x3 x4 x5) fun z=>K (.exit 0) ([.s (.ptr 0 0 none 0),.s (.i .u64 (z.1))]) ([.cells 28 [.arr .i8 81 (z.2.1),.arr .i8 16 (z.2.2.1),.one [.i .i8 (z.2.2.2)]]])
 | _,_=>none
def qO2:HL:=fun vs objs K=>match vs,objs with
 | [.s (.ptr 0 0 none 0),.s (.i .u64 x0),.s (.i .i64 x1),.agg [.arr .i8 16 x2],.s (.i .i64 x3),.agg [.arr .i8 8 x4],.s (.i .i64 x5)],[.cells 28 [.arr .i8 81 x6,.arr .i8 16 x7,.one [.i .i8 x8]]]=>ob (qCo qB x0 x1 x2 x3 x4 x5 x6 x7 x8) fun z=>K (.exit 4) ([.s (.ptr 0 0 none 0),.s (.i .u64 (z.1)),.agg [.arr .i8 16 (z.2.1)],.s (.i .i64 (z.2.2.1))]) ([.cells 28 [.arr .i8 81 (z.2.2.2.1),.arr .i8 16 (z.2.2.2.2.1),.one [.i .i8 (z.2.2.2.2.2)]]])
 | _,_=>none
def qO4:HL:=fun vs objs K=>match vs,objs with
 | [.s (.ptr 0 0 none 0),.s (.i .u64 x0),.agg [.arr .i8 16 x1],.s (.i .i64 x2)],[.cells 28 [.arr .i8 81 x3,.arr .i8 16 x4,.one [.i .i8 x5]]]=>ob (qBu qB x0 x1 x2 x3 x4 x5) fun z=>K (.exit 2) ([.s (.ptr 0 0 none 0),.s (.i .u64 (z.1))]) ([.cells 28 [.arr .i8 81 (z.2.1),.arr .i8 16 (z.2.2.1),.one [.i .i8 (z.2.2.2)]]])
 | _,_=>none
def qkJ:{R:Type}->Nat->List V->List Obj->(Ex->List V->List Obj->Option R)->Option R:=fun q vs objs K=>bif Nat.beq q 3 then qO3 vs objs K else bif Nat.beq q 11 then qO2 vs objs K else bif Nat.beq q 8 then qO4 vs objs K else none
def qFF:Ctx:=mkC 49 ((qO6 (qOv (qO5 qK)))) [(3,[1,3,11,12],[1,3]),(8,[1,3,23,24],[1,3]),(11,[1,3,6,23,24,28,29],[1,3,23,24])] qkJ
theorem qKq:CtxOK Tryz.prog qFF:=mkC_ok ((qWy _ (qWk _ (qWu _ qM))))
def qOz (f:Nat) (x0:Int) (x1:LI) (x2:Int) (x3 x4:LI) (x5:Int):Option (Int×LI×LI×Int):=qg qFF 0 [1,3,11,12] [1,3] (qG Tryz.f53 3) f ([.s (.ptr 0 0 none 0),.s (.i .u64 x0),.agg [.arr .i8 81 x1],.s (.i .i64 x2)]) ([.cells 28 [.arr .i8 81 x3,.arr .i8 16 x4,.one [.i .i8 x5]]]) qOy
theorem qkH (f:Nat) (x0:Int) (x1:LI) (x2:Int) (x3 x4:LI) (x5:Int):qOz (f+1) x0 x1 x2 x3 x4 x5=qDf (qOz f) x0 x1 x2 x3 x4 x5:=by kernel_rfl
theorem qWo:∀ f,qOz f=qCP f
 | 0=>rfl
 | f+1=>by funext x0 x1 x2 x3 x4 x5;rw [qkH,qWo f];rfl
def qOx (f:Nat) (x0 x1:Int) (x2:LI) (x3:Int) (x4:LI) (x5:Int) (x6 x7:LI) (x8:Int):Option (Int×LI×Int×LI×LI×Int):=qg qFF 0 [1,3,6,23,24,28,29] [1,3,23,24] (qG Tryz.f53 11) f ([.s (.ptr 0 0 none 0),.s (.i .u64 x0),.s (.i .i64 x1),.agg [.arr .i8 16 x2],.s (.i .i64 x3),.agg [.arr .i8 8 x4],.s (.i .i64 x5)]) ([.cells 28 [.arr .i8 81 x6,.arr .i8 16 x7,.one [.i .i8 x8]]]) qOw
theorem qkG (f:Nat) (x0 x1:Int) (x2:LI) (x3:Int) (x4:LI) (x5:Int) (x6 x7:LI) (x8:Int):qOx (f+1) x0 x1 x2 x3 x4 x5 x6 x7 x8=qDe (qOx f) x0 x1 x2 x3 x4 x5 x6 x7 x8:=by kernel_rfl
theorem qWn:∀ f,qOx f=qCo f
 | 0=>rfl
 | f+1=>by funext x0 x1 x2 x3 x4 x5 x6 x7 x8;rw [qkG,qWn f];rfl
def qO1 (f:Nat) (x0:Int) (x1:LI) (x2:Int) (x3 x4:LI) (x5:Int):Option (Int×LI×LI×Int):=qg qFF 0 [1,3,23,24] [1,3] (qG Tryz.f53 8) f ([.s (.ptr 0 0 none 0),.s (.i .u64 x0),.agg [.arr .i8 16 x1],.s (.i .i64 x2)]) ([.cells 28 [.arr .i8 81 x3,.arr .i8 16 x4,.one [.i .i8 x5]]]) qO0
theorem qkI (f:Nat) (x0:Int) (x1:LI) (x2:Int) (x3 x4:LI) (x5:Int):qO1 (f+1) x0 x1 x2 x3 x4 x5=qDg (qO1 f) x0 x1 x2 x3 x4 x5:=by kernel_rfl
theorem qWp:∀ f,qO1 f=qBu f
 | 0=>rfl
 | f+1=>by funext x0 x1 x2 x3 x4 x5;rw [qkI,qWp f];rfl
theorem qkM:qe Tryz.prog qFF 0 (qG Tryz.f53 3):=
 qh mixed qKq (qO.of (l':=[]) (by kernel_rfl) trivial) (q:=3) (kin:=[1,3,11,12]) (kout:=[1,3]) (by kernel_rfl) (by kernel_rfl) fun vs objs K r h=>by
  replace h:qO3 vs objs K=some r:=h
  unfold qO3 at h
  split at h
  ·skip
   obtain ⟨t,h1,h2⟩:=qE h
   rw [<- qWo] at h1
   refine ⟨_,qOy,t,qB,h1,fun e vs' objs' hd=>?_⟩
   unfold qOy at hd;split at hd;(cases hd;exact h2);cases hd
  ·cases h
theorem qkL:qe Tryz.prog qFF 0 (qG Tryz.f53 11):=
 qh mixed qKq (qO.of (l':=[]) (by kernel_rfl) trivial) (q:=11) (kin:=[1,3,6,23,24,28,29]) (kout:=[1,3,23,24]) (by kernel_rfl) (by kernel_rfl) fun vs objs K r h=>by
  replace h:qO2 vs objs K=some r:=h
  unfold qO2 at h
  split at h
  ·skip
   obtain ⟨t,h1,h2⟩:=qE h
   rw [<- qWn] at h1
   refine ⟨_,qOw,t,qB,h1,fun e vs' objs' hd=>?_⟩
   unfold qOw at hd;split at hd;(cases hd;exact h2);cases hd
  ·cases h
theorem qkN:qe Tryz.prog qFF 0 (qG Tryz.f53 8):=
 qh mixed qKq (qO.of (l':=[qG Tryz.f53 11]) (by kernel_rfl) ⟨qkL,trivial⟩) (q:=8) (kin:=[1,3,23,24]) (kout:=[1,3]) (by kernel_rfl) (by kernel_rfl) fun vs objs K r h=>by
  replace h:qO4 vs objs K=some r:=h
  unfold qO4 at h
  split at h
  ·skip
   obtain ⟨t,h1,h2⟩:=qE h
   rw [<- qWp] at h1
   refine ⟨_,qO0,t,qB,h1,fun e vs' objs' hd=>?_⟩
   unfold qO0 at hd;split at hd;(cases hd;exact h2);cases hd
  ·cases h
def qWm:V->List Obj->Option (Int):=fun v objs=>match v,objs with
 | .s (.i .u64 y0),[]=>some (y0)
 | _,_=>none
theorem qkF (x0 x1:LI) (x2:Int):fnE qFF Tryz.f53 ([.agg [.arr .i8 81 x0,.arr .i8 16 x1,.one [.i .i8 x2]]]) ([]) qWm=qEN x0 x1 x2:=by kernel_rfl
def qWl:HA:=fun o vs objs K=>match vs,objs with
 | [.agg [.arr .i8 81 x0,.arr .i8 16 x1,.one [.i .i8 x2]]],[]=>ob (qEN x0 x1 x2) fun y0=>K false (.s (.i .u64 y0)) ([])
 | _,_=>o 53 vs objs K
def qWq (o:Orc):Orc:=qL 53 (qWl o) o
theorem qkK:OQ Tryz.prog qWq:=fun _ ho=>qN ho fun vs objs K r h=>by
 unfold qWl at h
 split at h
 ·skip
  obtain ⟨t,h1,h2⟩:=qE h
  refine q8 mixed qKq (fn:=Tryz.f53) (b:=(Tryz.f53).body.getD .skip) (by kernel_rfl) (by kernel_rfl) (by kernel_rfl) ((qkF _ _ _).trans h1) (m:=0) rfl (qO.of (l':=[qG Tryz.f53 3,qG Tryz.f53 8]) (by kernel_rfl) ⟨qkM,qkN,trivial⟩) fun v objs' hd=>?_
  unfold qWm at hd;split at hd;(cases hd;exact h2);cases hd
 ·exact ho _ _ _ _ _ h
def qVV:Ctx:=mkC 14 ((qWq (qKD qK))) [] qX
theorem qiS:CtxOK Tryz.prog qVV:=mkC_ok ((qkK _ (qNg _ qM)))
def qVW:V->List Obj->Option (Int×Nat×LI×LI×Int×LL×LL×Nat×LL):=fun v objs=>match v,objs with
 | .s (.ptr 0 0 none 0),[.cells 66 [.one [.ptr 1 0 none 0,.i .u64 y0,.sl 2 0 y1 true]],.cells 72 [.arr .i8 81 y2,.arr .i8 16 y3,.one [.i .i8 y4],.rows [.i .u64,.i .u64] 32 y5,.rows [.i .u64,.i .u64] 2 y6],.sli 98 false (.rows [.i .i64,.i .i64,.i .i64,.b,.i .i8,.i .i8] y7 y8)]=>some (y0,y1,y2,y3,y4,y5,y6,y7,y8)
 | _,_=>none
theorem qiR (x0 x1:LI) (x2:Int):fnE qVV Tryz.f24 ([.agg [.arr .i8 81 x0,.arr .i8 16 x1,.one [.i .i8 x2]]]) ([]) qVW=qG0 x0 x1 x2:=by kernel_rfl
def qVU:HA:=fun o vs objs K=>match vs,objs with
 | [.agg [.arr .i8 81 x0,.arr .i8 16 x1,.one [.i .i8 x2]]],[]=>ob (qG0 x0 x1 x2) fun z=>K false (.s (.ptr 0 0 none 0)) ([.cells 66 [.one [.ptr 1 0 none 0,.i .u64 (z.1),.sl 2 0 (z.2.1) true]],.cells 72 [.arr .i8 81 (z.2.2.1),.arr .i8 16 (z.2.2.2.1),.one [.i .i8 (z.2.2.2.2.1)],.rows [.i .u64,.i .u64] 32 (z.2.2.2.2.2.1),.rows [.i .u64,.i .u64] 2 (z.2.2.2.2.2.2.1)],.sli 98 false (.rows [.i .i64,.i .i64,.i .i64,.b,.i .i8,.i .i8] (z.2.2.2.2.2.2.2.1) (z.2.2.2.2.2.2.2.2))])
 | _,_=>o 24 vs objs K
def qOH (o:Orc):Orc:=qL 24 (qVU o) o
theorem qVX:OQ Tryz.prog qOH:=fun _ ho=>qN ho fun vs objs K r h=>by
 unfold qVU at h
 split at h
 ·skip
  obtain ⟨t,h1,h2⟩:=qE h
  refine qf mixed qiS ((qiR _ _ _).trans h1) (by kernel_rfl) fun v objs' hd=>?_
  unfold qVW at hd;split at hd;(cases hd;exact h2);cases hd
 ·exact ho _ _ _ _ _ h
def qcQ:Ctx:=mkC 2 (qK) [] qX
theorem qrC:CtxOK Tryz.prog qcQ:=mkC_ok (qM)
def qcR:V->List Obj->Option (Int×Int):=fun v objs=>match v,objs with
 | .agg [.one [.i .u64 y0,.i .u64 y1]],[]=>some (y0,y1)
 | _,_=>none
theorem qrB:fnE qcQ Tryz.f97 ([]) ([]) qcR=qGO  := by kernel_rfl
def qcP:HA:=fun o vs objs K=>match vs,objs with
 | [],[]=>ob (qGO ) fun z=>K false (.agg [.one [.i .u64 (z.1),.i .u64 (z.2)]]) ([])
 | _,_=>o 97 vs objs K
def qJX (o:Orc):Orc:=qL 97 (qcP o) o
theorem qMC:OQ Tryz.prog qJX:=fun _ ho=>qN ho fun vs objs K r h=>by
 unfold qcP at h
 split at h
 ·skip
  obtain ⟨t,h1,h2⟩:=qE h
  refine qf mixed qrC ((qrB).trans h1) (by kernel_rfl) fun v objs' hd=>?_
  unfold qcR at hd;split at hd;(cases hd;exact h2);cases hd
 ·exact ho _ _ _ _ _ h
def qR5:Ex->List V->List Obj->Option (Nat×Int×Int×Nat×LI):=fun e vs objs=>match e,vs,objs with
 | .exit 0,[.s (.ptr 0 0 none 0),.s (.sl 1 0 y0 true)],[.cells 68 [.one [.i .u64 y1,.i .u64 y2]],.sli 3 false (.arr .i64 y3 y4)]=>some (y0,y1,y2,y3,y4)
 | _,_,_=>none
def qR7:Ex->List V->List Obj->Option (Nat×Nat×LI):=fun e vs objs=>match e,vs,objs with
 | .exit 2,[.s (.sl 0 0 y0 true)],[.sli 3 false (.arr .i64 y1 y2)]=>some (y0,y1,y2)
 | _,_,_=>none
def qR9:HL:=fun vs objs K=>match vs,objs with
 | [.s (.ptr 0 0 none 0),.s (.sl 1 0 x0 true)],[.cells 68 [.one [.i .u64 x1,.i .u64 x2]],.sli 3 false (.arr .i64 x3 x4)]=>ob (qIG qB x0 x1 x2 x3 x4) fun z=>K (.exit 0) ([.s (.ptr 0 0 none 0),.s (.sl 1 0 (z.1) true)]) ([.cells 68 [.one [.i .u64 (z.2.1),.i .u64 (z.2.2.1)]],.sli 3 false (.arr .i64 (z.2.2.2.1) (z.2.2.2.2))])
 | _,_=>none
def qSA:HL:=fun vs objs K=>match vs,objs with
 | [.s (.ptr 0 0 none 0),.s (.sl 1 0 x0 true)],[.cells 68 [.one [.i .u64 x1,.i .u64 x2]],.sli 3 false (.arr .i64 x3 x4)]=>ob (qIH qB x0 x1 x2 x3 x4) fun z=>K (.exit 2) ([.s (.sl 0 0 (z.1) true)]) ([.sli 3 false (.arr .i64 (z.2.1) (z.2.2))])
 | _,_=>none
def qrk:{R:Type}->Nat->List V->List Obj->(Ex->List V->List Obj->Option R)->Option R:=fun q vs objs K=>bif Nat.beq q 2 then qR9 vs objs K else bif Nat.beq q 5 then qSA vs objs K else none
def qIF:Ctx:=mkC 38 ((qNO qK)) [(2,[1,3],[1,3]),(5,[1,3],[3])] qrk
theorem qR4:CtxOK Tryz.prog qIF:=mkC_ok ((qTl _ qM))
def qR6 (f:Nat) (x0:Nat) (x1 x2:Int) (x3:Nat) (x4:LI):Option (Nat×Int×Int×Nat×LI):=qg qIF 0 [1,3] [1,3] (qG Tryz.f129 2) f ([.s (.ptr 0 0 none 0),.s (.sl 1 0 x0 true)]) ([.cells 68 [.one [.i .u64 x1,.i .u64 x2]],.sli 3 false (.arr .i64 x3 x4)]) qR5
theorem qri (f:Nat) (x0:Nat) (x1 x2:Int) (x3:Nat) (x4:LI):qR6 (f+1) x0 x1 x2 x3 x4=qML (qR6 f) x0 x1 x2 x3 x4:=by kernel_rfl
theorem qdA:∀ f,qR6 f=qIG f
 | 0=>rfl
 | f+1=>by funext x0 x1 x2 x3 x4;rw [qri,qdA f];rfl
def qR8 (f:Nat) (x0:Nat) (x1 x2:Int) (x3:Nat) (x4:LI):Option (Nat×Nat×LI):=qg qIF 0 [1,3] [3] (qG Tryz.f129 5) f ([.s (.ptr 0 0 none 0),.s (.sl 1 0 x0 true)]) ([.cells 68 [.one [.i .u64 x1,.i .u64 x2]],.sli 3 false (.arr .i64 x3 x4)]) qR7
theorem qrj (f:Nat) (x0:Nat) (x1 x2:Int) (x3:Nat) (x4:LI):qR8 (f+1) x0 x1 x2 x3 x4=qMM (qR8 f) x0 x1 x2 x3 x4:=by kernel_rfl
theorem qdB:∀ f,qR8 f=qIH f
 | 0=>rfl
 | f+1=>by funext x0 x1 x2 x3 x4;rw [qrj,qdB f];rfl
theorem qrl:qe Tryz.prog qIF 0 (qG Tryz.f129 2):=
 qh mixed qR4 (qO.of (l':=[]) (by kernel_rfl) trivial) (q:=2) (kin:=[1,3]) (kout:=[1,3]) (by kernel_rfl) (by kernel_rfl) fun vs objs K r h=>by
  replace h:qR9 vs objs K=some r:=h
  unfold qR9 at h
  split at h
  ·skip
   obtain ⟨t,h1,h2⟩:=qE h
   rw [<- qdA] at h1
   refine ⟨_,qR5,t,qB,h1,fun e vs' objs' hd=>?_⟩
   unfold qR5 at hd;split at hd;(cases hd;exact h2);cases hd
  ·cases h
theorem qrm:qe Tryz.prog qIF 0 (qG Tryz.f129 5):=
 qh mixed qR4 (qO.of (l':=[]) (by kernel_rfl) trivial) (q:=5) (kin:=[1,3]) (kout:=[3]) (by kernel_rfl) (by kernel_rfl) fun vs objs K r h=>by
  replace h:qSA vs objs K=some r:=h
  unfold qSA at h
  split at h
  ·skip
   obtain ⟨t,h1,h2⟩:=qE h
   rw [<- qdB] at h1
   refine ⟨_,qR7,t,qB,h1,fun e vs' objs' hd=>?_⟩
   unfold qR7 at hd;split at hd;(cases hd;exact h2);cases hd
  ·cases h
def qc9:V->List Obj->Option (Nat×Nat×LI):=fun v objs=>match v,objs with
 | .s (.sl 0 0 y0 true),[.sli 3 false (.arr .i64 y1 y2)]=>some (y0,y1,y2)
 | _,_=>none
theorem qrh (x0 x1:Int):fnE qIF Tryz.f129 ([.agg [.one [.i .u64 x0,.i .u64 x1]]]) ([]) qc9=qEd x0 x1:=by kernel_rfl
def qc8:HA:=fun o vs objs K=>match vs,objs with
 | [.agg [.one [.i .u64 x0,.i .u64 x1]]],[]=>ob (qEd x0 x1) fun z=>K false (.s (.sl 0 0 (z.1) true)) ([.sli 3 false (.arr .i64 (z.2.1) (z.2.2))])
 | _,_=>o 129 vs objs K
def qJa (o:Orc):Orc:=qL 129 (qc8 o) o
theorem qMN:OQ Tryz.prog qJa:=fun _ ho=>qN ho fun vs objs K r h=>by
 unfold qc8 at h
 split at h
 ·skip
  obtain ⟨t,h1,h2⟩:=qE h
  refine q8 mixed qR4 (fn:=Tryz.f129) (b:=(Tryz.f129).body.getD .skip) (by kernel_rfl) (by kernel_rfl) (by kernel_rfl) ((qrh _ _).trans h1) (m:=0) rfl (qO.of (l':=[qG Tryz.f129 2,qG Tryz.f129 5]) (by kernel_rfl) ⟨qrl,qrm,trivial⟩) fun v objs' hd=>?_
  unfold qc9 at hd;split at hd;(cases hd;exact h2);cases hd
 ·exact ho _ _ _ _ _ h
def qR0:Ex->List V->List Obj->Option (Nat×LI×Int×Int×Int×Int):=fun e vs objs=>match e,vs,objs with
 | .exit 0,[.s (.ptr 1 0 none 0),.s (.ptr 2 0 none 0)],[.sli 3 true (.arr .i64 y0 y1),.cells 68 [.one [.i .u64 y2,.i .u64 y3]],.cells 68 [.one [.i .u64 y4,.i .u64 y5]]]=>some (y0,y1,y2,y3,y4,y5)
 | _,_,_=>none
def qR2:HL:=fun vs objs K=>match vs,objs with
 | [.s (.ptr 1 0 none 0),.s (.ptr 2 0 none 0),.s (.sl 0 0 x0 true),.s (.i .i64 x1),.s (.i .i64 x2)],[.sli 3 true (.arr .i64 x3 x4),.cells 68 [.one [.i .u64 x5,.i .u64 x6]],.cells 68 [.one [.i .u64 x7,.i .u64 x8]]]=>ob (qFc qB x0 x1 x2 x3 x4 x5 x6 x7 x8) fun z=>K (.exit 0) ([.s (.ptr 1 0 none 0),.s (.ptr 2 0 none 0)]) ([.sli 3 true (.arr .i64 (z.1) (z.2.1)),.cells 68 [.one [.i .u64 (z.2.2.1),.i .u64 (z.2.2.2.1)]],.cells 68 [.one [.i .u64 (z.2.2.2.2.1),.i .u64 (z.2.2.2.2.2)]]])
 | _,_=>none
def qra:{R:Type}->Nat->List V->List Obj->(Ex->List V->List Obj->Option R)->Option R:=fun q vs objs K=>bif Nat.beq q 3 then qR2 vs objs K else none
def qMJ:Ctx:=mkC 17 ((qEe qK)) [(3,[2,3,6,7,8],[2,3])] qra
theorem qcy:CtxOK Tryz.prog qMJ:=mkC_ok ((qFe _ qM))
def qR1 (f:Nat) (x0:Nat) (x1 x2:Int) (x3:Nat) (x4:LI) (x5 x6:Int) (x7 x8:Int):Option (Nat×LI×Int×Int×Int×Int):=qg qMJ 1 [2,3,6,7,8] [2,3] (qG Tryz.f148 3) f ([.s (.ptr 1 0 none 0),.s (.ptr 2 0 none 0),.s (.sl 0 0 x0 true),.s (.i .i64 x1),.s (.i .i64 x2)]) ([.sli 3 true (.arr .i64 x3 x4),.cells 68 [.one [.i .u64 x5,.i .u64 x6]],.cells 68 [.one [.i .u64 x7,.i .u64 x8]]]) qR0
theorem qrZ (f:Nat) (x0:Nat) (x1 x2:Int) (x3:Nat) (x4:LI) (x5 x6:Int) (x7 x8:Int):qR1 (f+1) x0 x1 x2 x3 x4 x5 x6 x7 x8=qID (qR1 f) x0 x1 x2 x3 x4 x5 x6 x7 x8:=by kernel_rfl
theorem qc0:∀ f,qR1 f=qFc f
 | 0=>rfl
 | f+1=>by funext x0 x1 x2 x3 x4 x5 x6 x7 x8;rw [qrZ,qc0 f];rfl
theorem qrc:qe Tryz.prog qMJ 1 (qG Tryz.f148 3):=
 qh mixed qcy (qO.of (l':=[]) (by kernel_rfl) trivial) (q:=3) (kin:=[2,3,6,7,8]) (kout:=[2,3]) (by kernel_rfl) (by kernel_rfl) fun vs objs K r h=>by
  replace h:qR2 vs objs K=some r:=h
  unfold qR2 at h
  split at h
  ·skip
   obtain ⟨t,h1,h2⟩:=qE h
   rw [<- qc0] at h1
   refine ⟨_,qR0,t,qB,h1,fun e vs' objs' hd=>?_⟩
   unfold qR0 at hd;split at hd;(cases hd;exact h2);cases hd
  ·cases h
def qcz:V->List Obj->Option (Int×Int):=fun v objs=>match v,objs with
 | .agg [.one [.i .u64 y0,.i .u64 y1]],[]=>some (y0,y1)
 | _,_=>none
theorem qrY (x0 x1:Nat) (x2:LI):fnE qMJ Tryz.f148 ([.s (.sl 0 0 x0 true)]) ([.sli 3 true (.arr .i64 x1 x2)]) (qAP 1 qcz)=qIC x0 x1 x2:=by kernel_rfl
def qcx:HA:=fun o vs objs K=>match vs,List.map Obj.toRO objs with
 | [.s (.sl 0 0 x0 true)],[.sli 3 true (.arr .i64 x1 x2)]=>ob (qIC x0 x1 x2) fun z=>K true (.agg [.one [.i .u64 (z.1),.i .u64 (z.2)]]) ([])
 | _,_=>o 148 vs objs K
def qc1 (o:Orc):Orc:=qL 148 (qcx o) o
theorem qrb:OQ Tryz.prog qc1:=fun _ ho=>qN ho fun vs objs K r h=>by
 unfold qcx at h
 split at h
 ·skip
  have hq:List.map Obj.toRO objs=_:=(by rename_i hq;first | exact hq | assumption)
  obtain ⟨t,h1,h2⟩:=qE h
  refine qAn mixed qcy (m:=1) (fn:=Tryz.f148) (b:=(Tryz.f148).body.getD .skip) (by kernel_rfl) (by kernel_rfl) (by kernel_rfl) hq (by kernel_rfl) (by kernel_rfl) (qO.of (l':=[qG Tryz.f148 3]) (by kernel_rfl) ⟨qrc,trivial⟩) ((qrY _ _ _).trans h1) fun v objs' hd=>?_
  unfold qcz at hd;split at hd;(cases hd;exact h2);cases hd
 ·exact ho _ _ _ _ _ h
def qQf:Ex->List V->List Obj->Option ((Int×Int)⊕(Int×Int)):=fun e vs objs=>match e,vs,objs with
 | .ret,[.s (.ptr 0 0 none 0)],[.cells 68 [.one [.i .u64 y0,.i .u64 y1]]]=>some (.inl (y0,y1))
 | .exit 0,[.s (.ptr 0 0 none 0)],[.cells 68 [.one [.i .u64 y0,.i .u64 y1]]]=>some (.inr (y0,y1))
 | _,_,_=>none
def qQi:HL:=fun vs objs K=>match vs,objs with
 | [.s (.i .i64 x0),.s (.i .i64 x1),.s (.ptr 0 0 none 0),.s (.sl 1 0 x2 true),.s (.i .i64 x3),.s (.i .i64 x4)],[.cells 68 [.one [.i .u64 x5,.i .u64 x6]],.sli 164 false (.rows [.i .i64,.i .i64] x7 x8)]=>ob (qFO qB x0 x1 x2 x3 x4 x5 x6 x7 x8) fun t0=>sw t0 (fun z=>K (.ret) ([.s (.ptr 0 0 none 0)]) ([.cells 68 [.one [.i .u64 (z.1),.i .u64 (z.2)]]])) (fun z=>K (.exit 0) ([.s (.ptr 0 0 none 0)]) ([.cells 68 [.one [.i .u64 (z.1),.i .u64 (z.2)]]]))
 | _,_=>none
def qoa:{R:Type}->Nat->List V->List Obj->(Ex->List V->List Obj->Option R)->Option R:=fun q vs objs K=>bif Nat.beq q 2 then qQi vs objs K else none
def qLn:Ctx:=mkC 30 ((qJb (qGT (qQq (qc1 (qQj qK)))))) [(2,[0,1,4,10,11,12],[4])] qoa
theorem qZ5:CtxOK Tryz.prog qLn:=mkC_ok ((qMO _ (qIA _ (qaL _ (qrb _ (qaC _ qM))))))
def qQg (f:Nat) (x0 x1:Int) (x2:Nat) (x3 x4:Int) (x5 x6:Int) (x7:Nat) (x8:LL):Option ((Int×Int)⊕(Int×Int)):=qg qLn 0 [0,1,4,10,11,12] [4] (qG Tryz.f125 2) f ([.s (.i .i64 x0),.s (.i .i64 x1),.s (.ptr 0 0 none 0),.s (.sl 1 0 x2 true),.s (.i .i64 x3),.s (.i .i64 x4)]) ([.cells 68 [.one [.i .u64 x5,.i .u64 x6]],.sli 164 false (.rows [.i .i64,.i .i64] x7 x8)]) qQf
theorem qoZ (f:Nat) (x0 x1:Int) (x2:Nat) (x3 x4:Int) (x5 x6:Int) (x7:Nat) (x8:LL):qQg (f+1) x0 x1 x2 x3 x4 x5 x6 x7 x8=qHn (qQg f) x0 x1 x2 x3 x4 x5 x6 x7 x8:=by kernel_rfl
theorem qZ7:∀ f,qQg f=qFO f
 | 0=>rfl
 | f+1=>by funext x0 x1 x2 x3 x4 x5 x6 x7 x8;rw [qoZ,qZ7 f];rfl
theorem qob:qe Tryz.prog qLn 0 (qG Tryz.f125 2):=
 qh mixed qZ5 (qO.of (l':=[]) (by kernel_rfl) trivial) (q:=2) (kin:=[0,1,4,10,11,12]) (kout:=[4]) (by kernel_rfl) (by kernel_rfl) fun vs objs K r h=>by
  replace h:qQi vs objs K=some r:=h
  unfold qQi at h
  split at h
  ·skip
   obtain ⟨t,h1,h2⟩:=qE h
   rw [<- qZ7] at h1
   refine ⟨_,qQf,t,qB,h1,fun e vs' objs' hd=>?_⟩
   unfold qQf at hd
   split at hd
   ·skip
    cases hd
    exact h2
   ·skip
    cases hd
    exact h2
   ·cases hd
  ·cases h
def qZ6:V->List Obj->Option (Int×Int):=fun v objs=>match v,objs with
 | .agg [.one [.i .u64 y0,.i .u64 y1]],[]=>some (y0,y1)
 | _,_=>none
theorem qoY (x0 x1:Int):fnE qLn Tryz.f125 ([.s (.i .i64 x0),.s (.i .i64 x1)]) ([]) qZ6=qHm x0 x1:=by kernel_rfl
def qZ4:HA:=fun o vs objs K=>match vs,objs with
 | [.s (.i .i64 x0),.s (.i .i64 x1)],[]=>ob (qHm x0 x1) fun z=>K false (.agg [.one [.i .u64 (z.1),.i .u64 (z.2)]]) ([])
 | _,_=>o 125 vs objs K
def qQh (o:Orc):Orc:=qL 125 (qZ4 o) o
theorem qZ8:OQ Tryz.prog qQh:=fun _ ho=>qN ho fun vs objs K r h=>by
 unfold qZ4 at h
 split at h
 ·skip
  obtain ⟨t,h1,h2⟩:=qE h
  refine q8 mixed qZ5 (fn:=Tryz.f125) (b:=(Tryz.f125).body.getD .skip) (by kernel_rfl) (by kernel_rfl) (by kernel_rfl) ((qoY _ _).trans h1) (m:=0) rfl (qO.of (l':=[qG Tryz.f125 2]) (by kernel_rfl) ⟨qob,trivial⟩) fun v objs' hd=>?_
  unfold qZ6 at hd;split at hd;(cases hd;exact h2);cases hd
 ·exact ho _ _ _ _ _ h
def qUE:Ctx:=mkC 18 (qK) [] qX
theorem qgv:CtxOK Tryz.prog qUE:=mkC_ok (qM)
def qUF:V->List Obj->Option (Int×Int):=fun v objs=>match v,objs with
 | .agg [.one [.i .u64 y0,.i .u64 y1]],[]=>some (y0,y1)
 | _,_=>none
theorem qgu (x0:Int) (x1 x2:LI) (x3:Int) (x4 x5:LL):fnE qUE Tryz.f128 ([.s (.ptr 0 0 none 0),.s (.i .i64 x0)]) ([.rcells 72 [.arr .i8 81 x1,.arr .i8 16 x2,.one [.i .i8 x3],.rows [.i .u64,.i .u64] 32 x4,.rows [.i .u64,.i .u64] 2 x5]]) (qAP 1 qUF)=qFu x0 x1 x2 x3 x4 x5:=by kernel_rfl
def qUD:HA:=fun o vs objs K=>match vs,List.map Obj.toRO objs with
 | [.s (.ptr 0 0 none 0),.s (.i .i64 x0)],[.rcells 72 [.arr .i8 81 x1,.arr .i8 16 x2,.one [.i .i8 x3],.rows [.i .u64,.i .u64] 32 x4,.rows [.i .u64,.i .u64] 2 x5]]=>ob (qFu x0 x1 x2 x3 x4 x5) fun z=>K true (.agg [.one [.i .u64 (z.1),.i .u64 (z.2)]]) ([])
 | _,_=>o 128 vs objs K
def qNi (o:Orc):Orc:=qL 128 (qUD o) o
theorem qUG:OQ Tryz.prog qNi:=fun _ ho=>qN ho fun vs objs K r h=>by
 unfold qUD at h
 split at h
 ·skip
  have hq:List.map Obj.toRO objs=_:=(by rename_i hq;first | exact hq | assumption)
  obtain ⟨t,h1,h2⟩:=qE h
  refine qAn mixed qgv (m:=1) (fn:=Tryz.f128) (b:=(Tryz.f128).body.getD .skip) (by kernel_rfl) (by kernel_rfl) (by kernel_rfl) hq (by kernel_rfl) (by kernel_rfl) (qO.of (l':=[]) (by kernel_rfl) trivial) ((qgu _ _ _ _ _ _).trans h1) fun v objs' hd=>?_
  unfold qUF at hd;split at hd;(cases hd;exact h2);cases hd
 ·exact ho _ _ _ _ _ h
def qTn:Ctx:=mkC 18 (qK) [] qX
theorem qgV:CtxOK Tryz.prog qTn:=mkC_ok (qM)
def qTo:V->List Obj->Option (Int):=fun v objs=>match v,objs with
 | .s (.i .i8 y0),[]=>some (y0)
 | _,_=>none
theorem qgU (x0:Int) (x1 x2:LI) (x3:Int) (x4 x5:LL):fnE qTn Tryz.f56 ([.s (.ptr 0 0 none 0),.s (.i .i64 x0)]) ([.rcells 72 [.arr .i8 81 x1,.arr .i8 16 x2,.one [.i .i8 x3],.rows [.i .u64,.i .u64] 32 x4,.rows [.i .u64,.i .u64] 2 x5]]) (qAP 1 qTo)=qAi x0 x1 x2 x3 x4 x5:=by kernel_rfl
def qTm:HA:=fun o vs objs K=>match vs,List.map Obj.toRO objs with
 | [.s (.ptr 0 0 none 0),.s (.i .i64 x0)],[.rcells 72 [.arr .i8 81 x1,.arr .i8 16 x2,.one [.i .i8 x3],.rows [.i .u64,.i .u64] 32 x4,.rows [.i .u64,.i .u64] 2 x5]]=>ob (qAi x0 x1 x2 x3 x4 x5) fun y0=>K true (.s (.i .i8 y0)) ([])
 | _,_=>o 56 vs objs K
def qFq (o:Orc):Orc:=qL 56 (qTm o) o
theorem qGo:OQ Tryz.prog qFq:=fun _ ho=>qN ho fun vs objs K r h=>by
 unfold qTm at h
 split at h
 ·skip
  have hq:List.map Obj.toRO objs=_:=(by rename_i hq;first | exact hq | assumption)
  obtain ⟨t,h1,h2⟩:=qE h
  refine qAn mixed qgV (m:=1) (fn:=Tryz.f56) (b:=(Tryz.f56).body.getD .skip) (by kernel_rfl) (by kernel_rfl) (by kernel_rfl) hq (by kernel_rfl) (by kernel_rfl) (qO.of (l':=[]) (by kernel_rfl) trivial) ((qgU _ _ _ _ _ _).trans h1) fun v objs' hd=>?_
  unfold qTo at hd;split at hd;(cases hd;exact h2);cases hd
 ·exact ho _ _ _ _ _ h
def qND:Ex->List V->List Obj->Option (Int×Int×Nat×Int×Int×LI×LI×Int×LL×LL×List (LI×LI)×Nat×LI):=fun e vs objs=>match e,vs,objs with
 | .exit 2,[.s (.ptr 0 0 none 0),.s (.i .i64 y0),.s (.mp 1),.s (.i .i64 y1),.s (.sl 2 0 y2 true),.s (.i .i64 y3),.s (.i .i64 y4)],[.rcells 72 [.arr .i8 81 y5,.arr .i8 16 y6,.one [.i .i8 y7],.rows [.i .u64,.i .u64] 32 y8,.rows [.i .u64,.i .u64] 2 y9],.map false true [.i .i64] [.i .u64,.i .u64] y10,.sli 3 false (.arr .i64 y11 y12)]=>some (y0,y1,y2,y3,y4,y5,y6,y7,y8,y9,y10,y11,y12)
 | _,_,_=>none
def qNB:Ex->List V->List Obj->Option (LI×LI×Int×LL×LL×List (LI×LI)):=fun e vs objs=>match e,vs,objs with
 | .exit 0,[.s (.mp 1)],[.rcells 72 [.arr .i8 81 y0,.arr .i8 16 y1,.one [.i .i8 y2],.rows [.i .u64,.i .u64] 32 y3,.rows [.i .u64,.i .u64] 2 y4],.map false true [.i .i64] [.i .u64,.i .u64] y5]=>some (y0,y1,y2,y3,y4,y5)
 | _,_,_=>none
def qNG:HL:=fun vs objs K=>match vs,objs with
 | [.s (.ptr 0 0 none 0),.s (.i .i64 x0),.s (.mp 1),.s (.i .i64 x1),.s (.sl 2 0 x2 true),.s (.i .i64 x3),.s (.i .i64 x4),.s (.sl 3 0 x5 true),.s (.i .i64 x6),.s (.i .i64 x7)],[.rcells 72 [.arr .i8 81 x8,.arr .i8 16 x9,.one [.i .i8 x10],.rows [.i .u64,.i .u64] 32 x11,.rows [.i .u64,.i .u64] 2 x12],.map false true [.i .i64] [.i .u64,.i .u64] x13,.sli 3 false (.arr .i64 x14 x15),.sli 3 false (.arr .i64 x16 x17)]=>ob (qEt qB x0 x1 x2 x3 x4 x5 x6 x7 x8 x9 x10 x11 x12 x13 x14 x15 x16 x17) fun z=>K (.exit 2) ([.s (.ptr 0 0 none 0),.s (.i .i64 (z.1)),.s (.mp 1),.s (.i .i64 (z.2.1)),.s (.sl 2 0 (z.2.2.1) true),.s (.i .i64 (z.2.2.2.1)),.s (.i .i64 (z.2.2.2.2.1))]) ([.rcells 72 [.arr .i8 81 (z.2.2.2.2.2.1),.arr .i8 16 (z.2.2.2.2.2.2.1),.one [.i .i8 (z.2.2.2.2.2.2.2.1)],.rows [.i .u64,.i .u64] 32 (z.2.2.2.2.2.2.2.2.1),.rows [.i .u64,.i .u64] 2 (z.2.2.2.2.2.2.2.2.2.1)],.map false true [.i .i64] [.i .u64,.i .u64] (z.2.2.2.2.2.2.2.2.2.2.1),.sli 3 false (.arr .i64 (z.2.2.2.2.2.2.2.2.2.2.2.1) (z.2.2.2.2.2.2.2.2.2.2.2.2))])
 | _,_=>none
def qNF:HL:=fun vs objs K=>match vs,objs with
 | [.s (.ptr 0 0 none 0),.s (.i .i64 x0),.s (.mp 1),.s (.i .i64 x1),.s (.sl 2 0 x2 true),.s (.i .i64 x3),.s (.i .i64 x4)],[.rcells 72 [.arr .i8 81 x5,.arr .i8 16 x6,.one [.i .i8 x7],.rows [.i .u64,.i .u64] 32 x8,.rows [.i .u64,.i .u64] 2 x9],.map false true [.i .i64] [.i .u64,.i .u64] x10,.sli 3 false (.arr .i64 x11 x12)]=>ob (qEs qB x0 x1 x2 x3 x4 x5 x6 x7 x8 x9 x10 x11 x12) fun z=>K (.exit 0) ([.s (.mp 1)]) ([.rcells 72 [.arr .i8 81 (z.1),.arr .i8 16 (z.2.1),.one [.i .i8 (z.2.2.1)],.rows [.i .u64,.i .u64] 32 (z.2.2.2.1),.rows [.i .u64,.i .u64] 2 (z.2.2.2.2.1)],.map false true [.i .i64] [.i .u64,.i .u64] (z.2.2.2.2.2)])
 | _,_=>none
def qf0:{R:Type}->Nat->List V->List Obj->(Ex->List V->List Obj->Option R)->Option R:=fun q vs objs K=>bif Nat.beq q 9 then qNG vs objs K else bif Nat.beq q 6 then qNF vs objs K else none
def qGl:Ctx:=mkC 89 ((qEe (qGT (qLp (qJb (qFq (qMF (qH9 (qNi (qMD (qFa (qGt (qQh (qJa (qFt (qKB qK)))))))))))))))) [(6,[0,1,5,6,21,22,23],[5]),(9,[0,1,5,6,21,22,23,32,33,34],[0,1,5,6,21,22,23])] qf0
theorem qNA:CtxOK Tryz.prog qGl:=mkC_ok ((qFe _ (qIA _ (qQm _ (qMO _ (qGo _ (qRu _ (qJY _ (qUG _ (qRs _ (qGP _ (qIa _ (qZ8 _ (qMN _ (qGr _ (qNd _ qM))))))))))))))))
def qNE (f:Nat) (x0 x1:Int) (x2:Nat) (x3 x4:Int) (x5:Nat) (x6 x7:Int) (x8 x9:LI) (x10:Int) (x11 x12:LL) (x13:List (LI×LI)) (x14:Nat) (x15:LI) (x16:Nat) (x17:LI):Option (Int×Int×Nat×Int×Int×LI×LI×Int×LL×LL×List (LI×LI)×Nat×LI):=qg qGl 1 [0,1,5,6,21,22,23,32,33,34] [0,1,5,6,21,22,23] (qG Tryz.f124 9) f ([.s (.ptr 0 0 none 0),.s (.i .i64 x0),.s (.mp 1),.s (.i .i64 x1),.s (.sl 2 0 x2 true),.s (.i .i64 x3),.s (.i .i64 x4),.s (.sl 3 0 x5 true),.s (.i .i64 x6),.s (.i .i64 x7)]) ([.rcells 72 [.arr .i8 81 x8,.arr .i8 16 x9,.one [.i .i8 x10],.rows [.i .u64,.i .u64] 32 x11,.rows [.i .u64,.i .u64] 2 x12],.map false true [.i .i64] [.i .u64,.i .u64] x13,.sli 3 false (.arr .i64 x14 x15),.sli 3 false (.arr .i64 x16 x17)]) qND
theorem qfz (f:Nat) (x0 x1:Int) (x2:Nat) (x3 x4:Int) (x5:Nat) (x6 x7:Int) (x8 x9:LI) (x10:Int) (x11 x12:LL) (x13:List (LI×LI)) (x14:Nat) (x15:LI) (x16:Nat) (x17:LI):qNE (f+1) x0 x1 x2 x3 x4 x5 x6 x7 x8 x9 x10 x11 x12 x13 x14 x15 x16 x17=qFo (qNE f) x0 x1 x2 x3 x4 x5 x6 x7 x8 x9 x10 x11 x12 x13 x14 x15 x16 x17:=by kernel_rfl
theorem qTa:∀ f,qNE f=qEt f
 | 0=>rfl
 | f+1=>by funext x0 x1 x2 x3 x4 x5 x6 x7 x8 x9 x10 x11 x12 x13 x14 x15 x16 x17;rw [qfz,qTa f];rfl
def qNC (f:Nat) (x0 x1:Int) (x2:Nat) (x3 x4:Int) (x5 x6:LI) (x7:Int) (x8 x9:LL) (x10:List (LI×LI)) (x11:Nat) (x12:LI):Option (LI×LI×Int×LL×LL×List (LI×LI)):=qg qGl 1 [0,1,5,6,21,22,23] [5] (qG Tryz.f124 6) f ([.s (.ptr 0 0 none 0),.s (.i .i64 x0),.s (.mp 1),.s (.i .i64 x1),.s (.sl 2 0 x2 true),.s (.i .i64 x3),.s (.i .i64 x4)]) ([.rcells 72 [.arr .i8 81 x5,.arr .i8 16 x6,.one [.i .i8 x7],.rows [.i .u64,.i .u64] 32 x8,.rows [.i .u64,.i .u64] 2 x9],.map false true [.i .i64] [.i .u64,.i .u64] x10,.sli 3 false (.arr .i64 x11 x12)]) qNB
theorem qfy (f:Nat) (x0 x1:Int) (x2:Nat) (x3 x4:Int) (x5 x6:LI) (x7:Int) (x8 x9:LL) (x10:List (LI×LI)) (x11:Nat) (x12:LI):qNC (f+1) x0 x1 x2 x3 x4 x5 x6 x7 x8 x9 x10 x11 x12=qGm (qNC f) x0 x1 x2 x3 x4 x5 x6 x7 x8 x9 x10 x11 x12:=by kernel_rfl
theorem qTZ:∀ f,qNC f=qEs f
 | 0=>rfl
 | f+1=>by funext x0 x1 x2 x3 x4 x5 x6 x7 x8 x9 x10 x11 x12;rw [qfy,qTZ f];rfl
theorem qf3:qe Tryz.prog qGl 1 (qG Tryz.f124 9):=
 qh mixed qNA (qO.of (l':=[]) (by kernel_rfl) trivial) (q:=9) (kin:=[0,1,5,6,21,22,23,32,33,34]) (kout:=[0,1,5,6,21,22,23]) (by kernel_rfl) (by kernel_rfl) fun vs objs K r h=>by
  replace h:qNG vs objs K=some r:=h
  unfold qNG at h
  split at h
  ·skip
   obtain ⟨t,h1,h2⟩:=qE h
   rw [<- qTa] at h1
   refine ⟨_,qND,t,qB,h1,fun e vs' objs' hd=>?_⟩
   unfold qND at hd;split at hd;(cases hd;exact h2);cases hd
  ·cases h
theorem qf2:qe Tryz.prog qGl 1 (qG Tryz.f124 6):=
 qh mixed qNA (qO.of (l':=[qG Tryz.f124 9]) (by kernel_rfl) ⟨qf3,trivial⟩) (q:=6) (kin:=[0,1,5,6,21,22,23]) (kout:=[5]) (by kernel_rfl) (by kernel_rfl) fun vs objs K r h=>by
  replace h:qNF vs objs K=some r:=h
  unfold qNF at h
  split at h
  ·skip
   obtain ⟨t,h1,h2⟩:=qE h
   rw [<- qTZ] at h1
   refine ⟨_,qNB,t,qB,h1,fun e vs' objs' hd=>?_⟩
   unfold qNB at hd;split at hd;(cases hd;exact h2);cases hd
  ·cases h
def qTY:V->List Obj->Option (List (LI×LI)):=fun v objs=>match v,objs with
 | .s (.mp 1),[.map false true [.i .i64] [.i .u64,.i .u64] y0]=>some (y0)
 | _,_=>none
theorem qfx (x0:Int) (x1 x2:LI) (x3:Int) (x4 x5:LL):fnE qGl Tryz.f124 ([.s (.ptr 0 0 none 0),.s (.i .i64 x0)]) ([.rcells 72 [.arr .i8 81 x1,.arr .i8 16 x2,.one [.i .i8 x3],.rows [.i .u64,.i .u64] 32 x4,.rows [.i .u64,.i .u64] 2 x5]]) (qAP 1 qTY)=qGk x0 x1 x2 x3 x4 x5:=by kernel_rfl
def qTX:HA:=fun o vs objs K=>match vs,List.map Obj.toRO objs with
 | [.s (.ptr 0 0 none 0),.s (.i .i64 x0)],[.rcells 72 [.arr .i8 81 x1,.arr .i8 16 x2,.one [.i .i8 x3],.rows [.i .u64,.i .u64] 32 x4,.rows [.i .u64,.i .u64] 2 x5]]=>ob (qGk x0 x1 x2 x3 x4 x5) fun y0=>K true (.s (.mp 1)) ([.map false true [.i .i64] [.i .u64,.i .u64] y0])
 | _,_=>o 124 vs objs K
def qTb (o:Orc):Orc:=qL 124 (qTX o) o
theorem qf1:OQ Tryz.prog qTb:=fun _ ho=>qN ho fun vs objs K r h=>by
 unfold qTX at h
 split at h
 ·skip
  have hq:List.map Obj.toRO objs=_:=(by rename_i hq;first | exact hq | assumption)
  obtain ⟨t,h1,h2⟩:=qE h
  refine qAn mixed qNA (m:=1) (fn:=Tryz.f124) (b:=(Tryz.f124).body.getD .skip) (by kernel_rfl) (by kernel_rfl) (by kernel_rfl) hq (by kernel_rfl) (by kernel_rfl) (qO.of (l':=[qG Tryz.f124 6]) (by kernel_rfl) ⟨qf2,trivial⟩) ((qfx _ _ _ _ _ _).trans h1) fun v objs' hd=>?_
  unfold qTY at hd;split at hd;(cases hd;exact h2);cases hd
 ·exact ho _ _ _ _ _ h
def qXX:Ctx:=mkC 44 ((qGU (qQh (qMF (qMD (qJ3 (qTb (qJX (qKB qK))))))))) [] qX
theorem qk8:CtxOK Tryz.prog qXX:=mkC_ok ((qIE _ (qZ8 _ (qRu _ (qRs _ (qM4 _ (qf1 _ (qMC _ (qNd _ qM)))))))))
def qXY:V->List Obj->Option (Int×Int×Int×Int×Bool×List (LI×LI)):=fun v objs=>match v,objs with
 | .agg [.one [.ptr 0 0 none 0,.i .i64 y0,.i .i64 y1,.i .u64 y2,.i .u64 y3,.mp 1,.b y4]],[.map false true [.i .i64] [.i .u64,.i .u64] y5]=>some (y0,y1,y2,y3,y4,y5)
 | _,_=>none
theorem qk7 (x0 x1:LI) (x2:Int) (x3 x4:LL):fnE qXX Tryz.f95 ([.s (.ptr 0 0 none 0)]) ([.rcells 72 [.arr .i8 81 x0,.arr .i8 16 x1,.one [.i .i8 x2],.rows [.i .u64,.i .u64] 32 x3,.rows [.i .u64,.i .u64] 2 x4]]) (qAP 1 qXY)=qHW x0 x1 x2 x3 x4:=by kernel_rfl
def qXW:HA:=fun o vs objs K=>match vs,List.map Obj.toRO objs with
 | [.s (.ptr 0 0 none 0)],[.rcells 72 [.arr .i8 81 x0,.arr .i8 16 x1,.one [.i .i8 x2],.rows [.i .u64,.i .u64] 32 x3,.rows [.i .u64,.i .u64] 2 x4]]=>ob (qHW x0 x1 x2 x3 x4) fun z=>K true (.agg [.one [.ptr 0 0 none 0,.i .i64 (z.1),.i .i64 (z.2.1),.i .u64 (z.2.2.1),.i .u64 (z.2.2.2.1),.mp 1,.b (z.2.2.2.2.1)]]) ([.map false true [.i .i64] [.i .u64,.i .u64] (z.2.2.2.2.2)])
 | _,_=>o 95 vs objs K
def qPV (o:Orc):Orc:=qL 95 (qXW o) o
theorem qXZ:OQ Tryz.prog qPV:=fun _ ho=>qN ho fun vs objs K r h=>by
 unfold qXW at h
 split at h
 ·skip
  have hq:List.map Obj.toRO objs=_:=(by rename_i hq;first | exact hq | assumption)
  obtain ⟨t,h1,h2⟩:=qE h
  refine qAn mixed qk8 (m:=1) (fn:=Tryz.f95) (b:=(Tryz.f95).body.getD .skip) (by kernel_rfl) (by kernel_rfl) (by kernel_rfl) hq (by kernel_rfl) (by kernel_rfl) (qO.of (l':=[]) (by kernel_rfl) trivial) ((qk7 _ _ _ _ _).trans h1) fun v objs' hd=>?_
  unfold qXY at hd;split at hd;(cases hd;exact h2);cases hd
 ·exact ho _ _ _ _ _ h
def qZq:Ctx:=mkC 13 (qK) [] qX
theorem qoC:CtxOK Tryz.prog qZq:=mkC_ok (qM)
def qZr:V->List Obj->Option (Int):=fun v objs=>match v,objs with
 | .s (.i .i64 y0),[]=>some (y0)
 | _,_=>none
theorem qoB (x0:Int):fnE qZq Tryz.f59 ([.s (.i .i64 x0)]) ([]) qZr=qCt x0:=by kernel_rfl
def qZp:HA:=fun o vs objs K=>match vs,objs with
 | [.s (.i .i64 x0)],[]=>ob (qCt x0) fun y0=>K false (.s (.i .i64 y0)) ([])
 | _,_=>o 59 vs objs K
def qJF (o:Orc):Orc:=qL 59 (qZp o) o
theorem qLf:OQ Tryz.prog qJF:=fun _ ho=>qN ho fun vs objs K r h=>by
 unfold qZp at h
 split at h
 ·skip
  obtain ⟨t,h1,h2⟩:=qE h
  refine qf mixed qoC ((qoB _).trans h1) (by kernel_rfl) fun v objs' hd=>?_
  unfold qZr at hd;split at hd;(cases hd;exact h2);cases hd
 ·exact ho _ _ _ _ _ h
def qSS:Ex->List V->List Obj->Option (Int×Int×Int×Int):=fun e vs objs=>match e,vs,objs with
 | .exit 0,[.s (.ptr 0 0 none 0),.s (.ptr 1 0 none 0)],[.cells 68 [.one [.i .u64 y0,.i .u64 y1]],.cells 68 [.one [.i .u64 y2,.i .u64 y3]]]=>some (y0,y1,y2,y3)
 | _,_,_=>none
def qSU:HL:=fun vs objs K=>match vs,objs with
 | [.s (.i .i64 x0),.s (.ptr 0 0 none 0),.s (.ptr 1 0 none 0),.s (.i .i64 x1)],[.cells 68 [.one [.i .u64 x2,.i .u64 x3]],.cells 68 [.one [.i .u64 x4,.i .u64 x5]]]=>ob (qMY qB x0 x1 x2 x3 x4 x5) fun z=>K (.exit 0) ([.s (.ptr 0 0 none 0),.s (.ptr 1 0 none 0)]) ([.cells 68 [.one [.i .u64 (z.1),.i .u64 (z.2.1)]],.cells 68 [.one [.i .u64 (z.2.2.1),.i .u64 (z.2.2.2)]]])
 | _,_=>none
def qsj:{R:Type}->Nat->List V->List Obj->(Ex->List V->List Obj->Option R)->Option R:=fun q vs objs K=>bif Nat.beq q 3 then qSU vs objs K else none
def qMX:Ctx:=mkC 23 ((qEe (qSO qK))) [(3,[0,2,3,6],[2,3])] qsj
theorem qdv:CtxOK Tryz.prog qMX:=mkC_ok ((qFe _ (qdo _ qM)))
def qST (f:Nat) (x0 x1:Int) (x2 x3:Int) (x4 x5:Int):Option (Int×Int×Int×Int):=qg qMX 0 [0,2,3,6] [2,3] (qG Tryz.f152 3) f ([.s (.i .i64 x0),.s (.ptr 0 0 none 0),.s (.ptr 1 0 none 0),.s (.i .i64 x1)]) ([.cells 68 [.one [.i .u64 x2,.i .u64 x3]],.cells 68 [.one [.i .u64 x4,.i .u64 x5]]]) qSS
theorem qsi (f:Nat) (x0 x1:Int) (x2 x3:Int) (x4 x5:Int):qST (f+1) x0 x1 x2 x3 x4 x5=qdy (qST f) x0 x1 x2 x3 x4 x5:=by kernel_rfl
theorem qdx:∀ f,qST f=qMY f
 | 0=>rfl
 | f+1=>by funext x0 x1 x2 x3 x4 x5;rw [qsi,qdx f];rfl
theorem qsl:qe Tryz.prog qMX 0 (qG Tryz.f152 3):=
 qh mixed qdv (qO.of (l':=[]) (by kernel_rfl) trivial) (q:=3) (kin:=[0,2,3,6]) (kout:=[2,3]) (by kernel_rfl) (by kernel_rfl) fun vs objs K r h=>by
  replace h:qSU vs objs K=some r:=h
  unfold qSU at h
  split at h
  ·skip
   obtain ⟨t,h1,h2⟩:=qE h
   rw [<- qdx] at h1
   refine ⟨_,qSS,t,qB,h1,fun e vs' objs' hd=>?_⟩
   unfold qSS at hd;split at hd;(cases hd;exact h2);cases hd
  ·cases h
def qdw:V->List Obj->Option (Int×Int):=fun v objs=>match v,objs with
 | .agg [.one [.i .u64 y0,.i .u64 y1]],[]=>some (y0,y1)
 | _,_=>none
theorem qsh (x0:Int):fnE qMX Tryz.f152 ([.s (.i .i64 x0)]) ([]) qdw=qJg x0:=by kernel_rfl
def qdu:HA:=fun o vs objs K=>match vs,objs with
 | [.s (.i .i64 x0)],[]=>ob (qJg x0) fun z=>K false (.agg [.one [.i .u64 (z.1),.i .u64 (z.2)]]) ([])
 | _,_=>o 152 vs objs K
def qdz (o:Orc):Orc:=qL 152 (qdu o) o
theorem qsk:OQ Tryz.prog qdz:=fun _ ho=>qN ho fun vs objs K r h=>by
 unfold qdu at h
 split at h
 ·skip
  obtain ⟨t,h1,h2⟩:=qE h
  refine q8 mixed qdv (fn:=Tryz.f152) (b:=(Tryz.f152).body.getD .skip) (by kernel_rfl) (by kernel_rfl) (by kernel_rfl) ((qsh _).trans h1) (m:=0) rfl (qO.of (l':=[qG Tryz.f152 3]) (by kernel_rfl) ⟨qsl,trivial⟩) fun v objs' hd=>?_
  unfold qdw at hd;split at hd;(cases hd;exact h2);cases hd
 ·exact ho _ _ _ _ _ h
def qWL:Ctx:=mkC 27 ((qMV (qGT (qdz (qDo (qJF (qCr qK))))))) [] qX
theorem qjZ:CtxOK Tryz.prog qWL:=mkC_ok ((qSK _ (qIA _ (qsk _ (qEV _ (qLf _ (qDC _ qM)))))))
def qWM:V->List Obj->Option (Bool×Bool):=fun v objs=>match v,objs with
 | .tup [W.s (.b y0),W.s (.b y1)],[]=>some (y0,y1)
 | _,_=>none
theorem qjY (x0 x1 x2:Int):fnE qWL Tryz.f132 ([.s (.i .i8 x0),.s (.i .i64 x1),.s (.i .i64 x2)]) ([]) qWM=qIs x0 x1 x2:=by kernel_rfl
def qWK:HA:=fun o vs objs K=>match vs,objs with
 | [.s (.i .i8 x0),.s (.i .i64 x1),.s (.i .i64 x2)],[]=>ob (qIs x0 x1 x2) fun z=>K false (.tup [W.s (.b (z.1)),W.s (.b (z.2))]) ([])
 | _,_=>o 132 vs objs K
def qWN (o:Orc):Orc:=qL 132 (qWK o) o
theorem qja:OQ Tryz.prog qWN:=fun _ ho=>qN ho fun vs objs K r h=>by
 unfold qWK at h
 split at h
 ·skip
  obtain ⟨t,h1,h2⟩:=qE h
  refine qf mixed qjZ ((qjY _ _ _).trans h1) (by kernel_rfl) fun v objs' hd=>?_
  unfold qWM at hd;split at hd;(cases hd;exact h2);cases hd
 ·exact ho _ _ _ _ _ h
def qOX:Ex->List V->List Obj->Option (Nat×Int×Nat×Int×Int×LI×LI×Int×LL×LL×Int×Int×Nat×LL×Int×Int×Nat×LI):=fun e vs objs=>match e,vs,objs with
 | .exit 2,[.s (.ptr 0 0 none 0),.s (.ptr 1 0 none 0),.s (.sl 2 0 y0 true),.s (.i .i64 y1),.s (.ptr 3 0 none 0),.s (.sl 4 0 y2 true),.s (.i .i64 y3),.s (.i .i64 y4)],[.rcells 72 [.arr .i8 81 y5,.arr .i8 16 y6,.one [.i .i8 y7],.rows [.i .u64,.i .u64] 32 y8,.rows [.i .u64,.i .u64] 2 y9],.cells 68 [.one [.i .u64 y10,.i .u64 y11]],.sli 37 false (.rows [.i .i64,.i .i64,.i .i64,.b] y12 y13),.cells 68 [.one [.i .u64 y14,.i .u64 y15]],.sli 3 false (.arr .i64 y16 y17)]=>some (y0,y1,y2,y3,y4,y5,y6,y7,y8,y9,y10,y11,y12,y13,y14,y15,y16,y17)
 | _,_,_=>none
def qOV:Ex->List V->List Obj->Option (Nat×LI×LI×Int×LL×LL×Nat×LL):=fun e vs objs=>match e,vs,objs with
 | .exit 0,[.s (.sl 1 0 y0 true)],[.rcells 72 [.arr .i8 81 y1,.arr .i8 16 y2,.one [.i .i8 y3],.rows [.i .u64,.i .u64] 32 y4,.rows [.i .u64,.i .u64] 2 y5],.sli 37 false (.rows [.i .i64,.i .i64,.i .i64,.b] y6 y7)]=>some (y0,y1,y2,y3,y4,y5,y6,y7)
 | _,_,_=>none
def qOb:HL:=fun vs objs K=>match vs,objs with
 | [.s (.ptr 0 0 none 0),.s (.ptr 1 0 none 0),.s (.sl 2 0 x0 true),.s (.i .i64 x1),.s (.ptr 3 0 none 0),.s (.i .i64 x2),.s (.i .i8 x3),.s (.sl 4 0 x4 true),.s (.i .i64 x5),.s (.i .i64 x6),.s (.sl 5 0 x7 true),.s (.i .i64 x8),.s (.i .i64 x9)],[.rcells 72 [.arr .i8 81 x10,.arr .i8 16 x11,.one [.i .i8 x12],.rows [.i .u64,.i .u64] 32 x13,.rows [.i .u64,.i .u64] 2 x14],.cells 68 [.one [.i .u64 x15,.i .u64 x16]],.sli 37 false (.rows [.i .i64,.i .i64,.i .i64,.b] x17 x18),.cells 68 [.one [.i .u64 x19,.i .u64 x20]],.sli 3 false (.arr .i64 x21 x22),.sli 3 false (.arr .i64 x23 x24)]=>ob (qE8 qB x0 x1 x2 x3 x4 x5 x6 x7 x8 x9 x10 x11 x12 x13 x14 x15 x16 x17 x18 x19 x20 x21 x22 x23 x24) fun z=>K (.exit 2) ([.s (.ptr 0 0 none 0),.s (.ptr 1 0 none 0),.s (.sl 2 0 (z.1) true),.s (.i .i64 (z.2.1)),.s (.ptr 3 0 none 0),.s (.sl 4 0 (z.2.2.1) true),.s (.i .i64 (z.2.2.2.1)),.s (.i .i64 (z.2.2.2.2.1))]) ([.rcells 72 [.arr .i8 81 (z.2.2.2.2.2.1),.arr .i8 16 (z.2.2.2.2.2.2.1),.one [.i .i8 (z.2.2.2.2.2.2.2.1)],.rows [.i .u64,.i .u64] 32 (z.2.2.2.2.2.2.2.2.1),.rows [.i .u64,.i .u64] 2 (z.2.2.2.2.2.2.2.2.2.1)],.cells 68 [.one [.i .u64 (z.2.2.2.2.2.2.2.2.2.2.1),.i .u64 (z.2.2.2.2.2.2.2.2.2.2.2.1)]],.sli 37 false (.rows [.i .i64,.i .i64,.i .i64,.b] (z.2.2.2.2.2.2.2.2.2.2.2.2.1) (z.2.2.2.2.2.2.2.2.2.2.2.2.2.1)),.cells 68 [.one [.i .u64 (z.2.2.2.2.2.2.2.2.2.2.2.2.2.2.1),.i .u64 (z.2.2.2.2.2.2.2.2.2.2.2.2.2.2.2.1)]],.sli 3 false (.arr .i64 (z.2.2.2.2.2.2.2.2.2.2.2.2.2.2.2.2.1) (z.2.2.2.2.2.2.2.2.2.2.2.2.2.2.2.2.2))])
 | _,_=>none
def qOa:HL:=fun vs objs K=>match vs,objs with
 | [.s (.ptr 0 0 none 0),.s (.ptr 1 0 none 0),.s (.sl 2 0 x0 true),.s (.i .i64 x1),.s (.ptr 3 0 none 0),.s (.sl 4 0 x2 true),.s (.i .i64 x3),.s (.i .i64 x4)],[.rcells 72 [.arr .i8 81 x5,.arr .i8 16 x6,.one [.i .i8 x7],.rows [.i .u64,.i .u64] 32 x8,.rows [.i .u64,.i .u64] 2 x9],.cells 68 [.one [.i .u64 x10,.i .u64 x11]],.sli 37 false (.rows [.i .i64,.i .i64,.i .i64,.b] x12 x13),.cells 68 [.one [.i .u64 x14,.i .u64 x15]],.sli 3 false (.arr .i64 x16 x17)]=>ob (qE7 qB x0 x1 x2 x3 x4 x5 x6 x7 x8 x9 x10 x11 x12 x13 x14 x15 x16 x17) fun z=>K (.exit 0) ([.s (.sl 1 0 (z.1) true)]) ([.rcells 72 [.arr .i8 81 (z.2.1),.arr .i8 16 (z.2.2.1),.one [.i .i8 (z.2.2.2.1)],.rows [.i .u64,.i .u64] 32 (z.2.2.2.2.1),.rows [.i .u64,.i .u64] 2 (z.2.2.2.2.2.1)],.sli 37 false (.rows [.i .i64,.i .i64,.i .i64,.b] (z.2.2.2.2.2.2.1) (z.2.2.2.2.2.2.2))])
 | _,_=>none
def qjJ:{R:Type}->Nat->List V->List Obj->(Ex->List V->List Obj->Option R)->Option R:=fun q vs objs K=>bif Nat.beq q 9 then qOb vs objs K else bif Nat.beq q 5 then qOa vs objs K else none
def qG8:Ctx:=mkC 82 ((qWN (qFa (qMI (qLp (qGt (qFq (qJa (qNi (qGU (qFt qK))))))))))) [(5,[0,3,5,6,7,29,30,31],[5]),(9,[0,3,5,6,7,9,10,29,30,31,51,52,53],[0,3,5,6,7,29,30,31])] qjJ
theorem qOU:CtxOK Tryz.prog qG8:=mkC_ok ((qja _ (qGP _ (qRz _ (qQm _ (qIa _ (qGo _ (qMN _ (qUG _ (qIE _ (qGr _ qM)))))))))))
def qOY (f:Nat) (x0:Nat) (x1 x2 x3:Int) (x4:Nat) (x5 x6:Int) (x7:Nat) (x8 x9:Int) (x10 x11:LI) (x12:Int) (x13 x14:LL) (x15 x16:Int) (x17:Nat) (x18:LL) (x19 x20:Int) (x21:Nat) (x22:LI) (x23:Nat) (x24:LI):Option (Nat×Int×Nat×Int×Int×LI×LI×Int×LL×LL×Int×Int×Nat×LL×Int×Int×Nat×LI):=qg qG8 1 [0,3,5,6,7,9,10,29,30,31,51,52,53] [0,3,5,6,7,29,30,31] (qG Tryz.f96 9) f ([.s (.ptr 0 0 none 0),.s (.ptr 1 0 none 0),.s (.sl 2 0 x0 true),.s (.i .i64 x1),.s (.ptr 3 0 none 0),.s (.i .i64 x2),.s (.i .i8 x3),.s (.sl 4 0 x4 true),.s (.i .i64 x5),.s (.i .i64 x6),.s (.sl 5 0 x7 true),.s (.i .i64 x8),.s (.i .i64 x9)]) ([.rcells 72 [.arr .i8 81 x10,.arr .i8 16 x11,.one [.i .i8 x12],.rows [.i .u64,.i .u64] 32 x13,.rows [.i .u64,.i .u64] 2 x14],.cells 68 [.one [.i .u64 x15,.i .u64 x16]],.sli 37 false (.rows [.i .i64,.i .i64,.i .i64,.b] x17 x18),.cells 68 [.one [.i .u64 x19,.i .u64 x20]],.sli 3 false (.arr .i64 x21 x22),.sli 3 false (.arr .i64 x23 x24)]) qOX
theorem qjI (f:Nat) (x0:Nat) (x1 x2 x3:Int) (x4:Nat) (x5 x6:Int) (x7:Nat) (x8 x9:Int) (x10 x11:LI) (x12:Int) (x13 x14:LL) (x15 x16:Int) (x17:Nat) (x18:LL) (x19 x20:Int) (x21:Nat) (x22:LI) (x23:Nat) (x24:LI):qOY (f+1) x0 x1 x2 x3 x4 x5 x6 x7 x8 x9 x10 x11 x12 x13 x14 x15 x16 x17 x18 x19 x20 x21 x22 x23 x24=qHA (qOY f) x0 x1 x2 x3 x4 x5 x6 x7 x8 x9 x10 x11 x12 x13 x14 x15 x16 x17 x18 x19 x20 x21 x22 x23 x24:=by kernel_rfl
theorem qV8:∀ f,qOY f=qE8 f
 | 0=>rfl
 | f+1=>by funext x0 x1 x2 x3 x4 x5 x6 x7 x8 x9 x10 x11 x12 x13 x14 x15 x16 x17 x18 x19 x20 x21 x22 x23 x24;rw [qjI,qV8 f];rfl
def qOW (f:Nat) (x0:Nat) (x1:Int) (x2:Nat) (x3 x4:Int) (x5 x6:LI) (x7:Int) (x8 x9:LL) (x10 x11:Int) (x12:Nat) (x13:LL) (x14 x15:Int) (x16:Nat) (x17:LI):Option (Nat×LI×LI×Int×LL×LL×Nat×LL):=qg qG8 1 [0,3,5,6,7,29,30,31] [5] (qG Tryz.f96 5) f ([.s (.ptr 0 0 none 0),.s (.ptr 1 0 none 0),.s (.sl 2 0 x0 true),.s (.i .i64 x1),.s (.ptr 3 0 none 0),.s (.sl 4 0 x2 true),.s (.i .i64 x3),.s (.i .i64 x4)]) ([.rcells 72 [.arr .i8 81 x5,.arr .i8 16 x6,.one [.i .i8 x7],.rows [.i .u64,.i .u64] 32 x8,.rows [.i .u64,.i .u64] 2 x9],.cells 68 [.one [.i .u64 x10,.i .u64 x11]],.sli 37 false (.rows [.i .i64,.i .i64,.i .i64,.b] x12 x13),.cells 68 [.one [.i .u64 x14,.i .u64 x15]],.sli 3 false (.arr .i64 x16 x17)]) qOV
theorem qjH (f:Nat) (x0:Nat) (x1:Int) (x2:Nat) (x3 x4:Int) (x5 x6:LI) (x7:Int) (x8 x9:LL) (x10 x11:Int) (x12:Nat) (x13:LL) (x14 x15:Int) (x16:Nat) (x17:LI):qOW (f+1) x0 x1 x2 x3 x4 x5 x6 x7 x8 x9 x10 x11 x12 x13 x14 x15 x16 x17=qG9 (qOW f) x0 x1 x2 x3 x4 x5 x6 x7 x8 x9 x10 x11 x12 x13 x14 x15 x16 x17:=by kernel_rfl
theorem qV7:∀ f,qOW f=qE7 f
 | 0=>rfl
 | f+1=>by funext x0 x1 x2 x3 x4 x5 x6 x7 x8 x9 x10 x11 x12 x13 x14 x15 x16 x17;rw [qjH,qV7 f];rfl
theorem qjL:qe Tryz.prog qG8 1 (qG Tryz.f96 9):=
 qh mixed qOU (qO.of (l':=[]) (by kernel_rfl) trivial) (q:=9) (kin:=[0,3,5,6,7,9,10,29,30,31,51,52,53]) (kout:=[0,3,5,6,7,29,30,31]) (by kernel_rfl) (by kernel_rfl) fun vs objs K r h=>by
  replace h:qOb vs objs K=some r:=h
  unfold qOb at h
  split at h
  ·skip
   obtain ⟨t,h1,h2⟩:=qE h
   rw [<- qV8] at h1
   refine ⟨_,qOX,t,qB,h1,fun e vs' objs' hd=>?_⟩
   unfold qOX at hd;split at hd;(cases hd;exact h2);cases hd
  ·cases h
theorem qjK:qe Tryz.prog qG8 1 (qG Tryz.f96 5):=
 qh mixed qOU (qO.of (l':=[qG Tryz.f96 9]) (by kernel_rfl) ⟨qjL,trivial⟩) (q:=5) (kin:=[0,3,5,6,7,29,30,31]) (kout:=[5]) (by kernel_rfl) (by kernel_rfl) fun vs objs K r h=>by
  replace h:qOa vs objs K=some r:=h
  unfold qOa at h
  split at h
  ·skip
   obtain ⟨t,h1,h2⟩:=qE h
   rw [<- qV7] at h1
   refine ⟨_,qOV,t,qB,h1,fun e vs' objs' hd=>?_⟩
   unfold qOV at hd;split at hd;(cases hd;exact h2);cases hd
  ·cases h
def qV6:V->List Obj->Option (Nat×Nat×LL):=fun v objs=>match v,objs with
 | .s (.sl 1 0 y0 true),[.sli 37 false (.rows [.i .i64,.i .i64,.i .i64,.b] y1 y2)]=>some (y0,y1,y2)
 | _,_=>none
theorem qjG (x0 x1:Int) (x2 x3:LI) (x4:Int) (x5 x6:LL):fnE qG8 Tryz.f96 ([.s (.ptr 0 0 none 0),.agg [.one [.i .u64 x0,.i .u64 x1]]]) ([.rcells 72 [.arr .i8 81 x2,.arr .i8 16 x3,.one [.i .i8 x4],.rows [.i .u64,.i .u64] 32 x5,.rows [.i .u64,.i .u64] 2 x6]]) (qAP 1 qV6)=qG7 x0 x1 x2 x3 x4 x5 x6:=by kernel_rfl
def qV5:HA:=fun o vs objs K=>match vs,List.map Obj.toRO objs with
 | [.s (.ptr 0 0 none 0),.agg [.one [.i .u64 x0,.i .u64 x1]]],[.rcells 72 [.arr .i8 81 x2,.arr .i8 16 x3,.one [.i .i8 x4],.rows [.i .u64,.i .u64] 32 x5,.rows [.i .u64,.i .u64] 2 x6]]=>ob (qG7 x0 x1 x2 x3 x4 x5 x6) fun z=>K true (.s (.sl 1 0 (z.1) true)) ([.sli 37 false (.rows [.i .i64,.i .i64,.i .i64,.b] (z.2.1) (z.2.2))])
 | _,_=>o 96 vs objs K
def qOZ (o:Orc):Orc:=qL 96 (qV5 o) o
theorem qV9:OQ Tryz.prog qOZ:=fun _ ho=>qN ho fun vs objs K r h=>by
 unfold qV5 at h
 split at h
 ·skip
  have hq:List.map Obj.toRO objs=_:=(by rename_i hq;first | exact hq | assumption)
  obtain ⟨t,h1,h2⟩:=qE h
  refine qAn mixed qOU (m:=1) (fn:=Tryz.f96) (b:=(Tryz.f96).body.getD .skip) (by kernel_rfl) (by kernel_rfl) (by kernel_rfl) hq (by kernel_rfl) (by kernel_rfl) (qO.of (l':=[qG Tryz.f96 5]) (by kernel_rfl) ⟨qjK,trivial⟩) ((qjG _ _ _ _ _ _ _).trans h1) fun v objs' hd=>?_
  unfold qV6 at hd;split at hd;(cases hd;exact h2);cases hd
 ·exact ho _ _ _ _ _ h
def qXb:Ctx:=mkC 49 ((qGT (qH9 (qM8 (qJb (qGt qK)))))) [] qX
theorem qlA:CtxOK Tryz.prog qXb:=mkC_ok ((qIA _ (qJY _ (qTW _ (qMO _ (qIa _ qM))))))
def qXc:V->List Obj->Option (Bool×LI×LI×Int×LL×LL×List (LI×LI)):=fun v objs=>match v,objs with
 | .s (.b y0),[.cells 72 [.arr .i8 81 y1,.arr .i8 16 y2,.one [.i .i8 y3],.rows [.i .u64,.i .u64] 32 y4,.rows [.i .u64,.i .u64] 2 y5],.map false true [.i .i64] [.i .u64,.i .u64] y6]=>some (y0,y1,y2,y3,y4,y5,y6)
 | _,_=>none
theorem qk9 (x0 x1:Int) (x2 x3:Int) (x4:Bool) (x5 x6 x7:Int) (x8:Bool) (x9 x10:LI) (x11:Int) (x12 x13:LL) (x14:List (LI×LI)):fnE qXb Tryz.f98 ([.agg [.one [.ptr 0 0 none 0,.i .i64 x0,.i .i64 x1,.i .u64 x2,.i .u64 x3,.mp 1,.b x4]],.agg [.one [.i .i64 x5,.i .i64 x6,.i .i64 x7,.b x8]]]) ([.cells 72 [.arr .i8 81 x9,.arr .i8 16 x10,.one [.i .i8 x11],.rows [.i .u64,.i .u64] 32 x12,.rows [.i .u64,.i .u64] 2 x13],.map false true [.i .i64] [.i .u64,.i .u64] x14]) qXc=qHX x0 x1 x2 x3 x4 x5 x6 x7 x8 x9 x10 x11 x12 x13 x14:=by kernel_rfl
def qXa:HA:=fun o vs objs K=>match vs,objs with
 | [.agg [.one [.ptr 0 0 none 0,.i .i64 x0,.i .i64 x1,.i .u64 x2,.i .u64 x3,.mp 1,.b x4]],.agg [.one [.i .i64 x5,.i .i64 x6,.i .i64 x7,.b x8]]],[.cells 72 [.arr .i8 81 x9,.arr .i8 16 x10,.one [.i .i8 x11],.rows [.i .u64,.i .u64] 32 x12,.rows [.i .u64,.i .u64] 2 x13],.map false true [.i .i64] [.i .u64,.i .u64] x14]=>ob (qHX x0 x1 x2 x3 x4 x5 x6 x7 x8 x9 x10 x11 x12 x13 x14) fun z=>K false (.s (.b (z.1))) ([.cells 72 [.arr .i8 81 (z.2.1),.arr .i8 16 (z.2.2.1),.one [.i .i8 (z.2.2.2.1)],.rows [.i .u64,.i .u64] 32 (z.2.2.2.2.1),.rows [.i .u64,.i .u64] 2 (z.2.2.2.2.2.1)],.map false true [.i .i64] [.i .u64,.i .u64] (z.2.2.2.2.2.2)])
 | _,_=>o 98 vs objs K
def qPW (o:Orc):Orc:=qL 98 (qXa o) o
theorem qXd:OQ Tryz.prog qPW:=fun _ ho=>qN ho fun vs objs K r h=>by
 unfold qXa at h
 split at h
 ·skip
  obtain ⟨t,h1,h2⟩:=qE h
  refine qf mixed qlA ((qk9 _ _ _ _ _ _ _ _ _ _ _ _ _ _ _).trans h1) (by kernel_rfl) fun v objs' hd=>?_
  unfold qXc at hd;split at hd;(cases hd;exact h2);cases hd
 ·exact ho _ _ _ _ _ h
def qT1:Ctx:=mkC 31 (qK) [] qX
theorem qgl:CtxOK Tryz.prog qT1:=mkC_ok (qM)
def qT2:V->List Obj->Option (Int):=fun v objs=>match v,objs with
 | .s (.i .i64 y0),[]=>some (y0)
 | _,_=>none
theorem qgk (x0 x1:Int) (x2 x3:LI) (x4:Int) (x5 x6:LL):fnE qT1 Tryz.f101 ([.s (.ptr 0 0 none 0),.s (.i .i64 x0),.s (.i .i64 x1)]) ([.rcells 72 [.arr .i8 81 x2,.arr .i8 16 x3,.one [.i .i8 x4],.rows [.i .u64,.i .u64] 32 x5,.rows [.i .u64,.i .u64] 2 x6]]) (qAP 1 qT2)=qCg x0 x1 x2 x3 x4 x5 x6:=by kernel_rfl
def qT0:HA:=fun o vs objs K=>match vs,List.map Obj.toRO objs with
 | [.s (.ptr 0 0 none 0),.s (.i .i64 x0),.s (.i .i64 x1)],[.rcells 72 [.arr .i8 81 x2,.arr .i8 16 x3,.one [.i .i8 x4],.rows [.i .u64,.i .u64] 32 x5,.rows [.i .u64,.i .u64] 2 x6]]=>ob (qCg x0 x1 x2 x3 x4 x5 x6) fun y0=>K true (.s (.i .i64 y0)) ([])
 | _,_=>o 101 vs objs K
def qKA (o:Orc):Orc:=qL 101 (qT0 o) o
theorem qNc:OQ Tryz.prog qKA:=fun _ ho=>qN ho fun vs objs K r h=>by
 unfold qT0 at h
 split at h
 ·skip
  have hq:List.map Obj.toRO objs=_:=(by rename_i hq;first | exact hq | assumption)
  obtain ⟨t,h1,h2⟩:=qE h
  refine qAn mixed qgl (m:=1) (fn:=Tryz.f101) (b:=(Tryz.f101).body.getD .skip) (by kernel_rfl) (by kernel_rfl) (by kernel_rfl) hq (by kernel_rfl) (by kernel_rfl) (qO.of (l':=[]) (by kernel_rfl) trivial) ((qgk _ _ _ _ _ _ _).trans h1) fun v objs' hd=>?_
  unfold qT2 at hd;split at hd;(cases hd;exact h2);cases hd
 ·exact ho _ _ _ _ _ h
def qcu:Ctx:=mkC 6 ((qMI (qJX qK))) [] qX
theorem qrW:CtxOK Tryz.prog qcu:=mkC_ok ((qRz _ (qMC _ qM)))
def qcv:V->List Obj->Option (Int×Int):=fun v objs=>match v,objs with
 | .agg [.one [.i .u64 y0,.i .u64 y1]],[]=>some (y0,y1)
 | _,_=>none
theorem qrV (x0 x1:Int):fnE qcu Tryz.f153 ([.agg [.one [.i .u64 x0,.i .u64 x1]]]) ([]) qcv=qJZ x0 x1:=by kernel_rfl
def qct:HA:=fun o vs objs K=>match vs,objs with
 | [.agg [.one [.i .u64 x0,.i .u64 x1]]],[]=>ob (qJZ x0 x1) fun z=>K false (.agg [.one [.i .u64 (z.1),.i .u64 (z.2)]]) ([])
 | _,_=>o 153 vs objs K
def qcw (o:Orc):Orc:=qL 153 (qct o) o
theorem qrX:OQ Tryz.prog qcw:=fun _ ho=>qN ho fun vs objs K r h=>by
 unfold qct at h
 split at h
 ·skip
  obtain ⟨t,h1,h2⟩:=qE h
  refine qf mixed qrW ((qrV _ _).trans h1) (by kernel_rfl) fun v objs' hd=>?_
  unfold qcv at hd;split at hd;(cases hd;exact h2);cases hd
 ·exact ho _ _ _ _ _ h
end
end Go.Kk.KkLO
