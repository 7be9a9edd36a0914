/- Printed by a tool of this project (KkGen): the program's functions come to the plain ones. -/
import Derived.Test.YtpppdecfohkkfaaGreatDoorKkLN
namespace Go.Kk.KkLN
noncomputable section
open Go.Proofs Go.Kk.Pl
set_option maxRecDepth 100000
set_option maxHeartbeats 4000000
def qeM:Ctx:=mkC 6 (qI) [] qU
theorem qtH:CtxOK Tryz.prog qeM:=mkC_ok (qL)
def qeN:V->List Obj->Option (Bool):=fun v objs=>match v,objs with
 | .s (.b y0),[]=>some (y0)
 | _,_=>none
theorem qtG (x0 x1:Int):fnE qeM Tryz.f84 ([.agg [.one [.i .u64 x0,.i .u64 x1]]]) ([]) qeN=qEk x0 x1:=by kernel_rfl
def qeL:HA:=fun o vs objs K=>match vs,objs with
 | [.agg [.one [.i .u64 x0,.i .u64 x1]]],[]=>ob (qEk x0 x1) fun y0=>K false (.s (.b y0)) ([])
 | _,_=>o 84 vs objs K
def qIb (o:Orc):Orc:=qK 84 (qeL o) o
theorem qJ4:OQ Tryz.prog qIb:=fun _ ho=>qM ho fun vs objs K r h=>by
 unfold qeL at h
 split at h
 ·skip
  obtain⟨t,h1,h2⟩:=qD h
  refine qX mixed qtH ((qtG _ _).trans h1) (by kernel_rfl) fun v objs' hd=>?_
  unfold qeN at hd;split at hd;(cases hd;exact h2);cases hd
 ·exact ho _ _ _ _ _ h
def qeV:Ctx:=mkC 11 ((qIb (qFw (qM3 qI)))) [] qU
theorem qtN:CtxOK Tryz.prog qeV:=mkC_ok ((qJ4 _ (qGn _ (qS2 _ qL))))
def qeW:V->List Obj->Option (Bool):=fun v objs=>match v,objs with
 | .s (.b y0),[]=>some (y0)
 | _,_=>none
theorem qtM (x0 x1 x2:Int):fnE qeV Tryz.f133 ([.agg [.one [.i .u64 x0,.i .u64 x1]],.s (.i .i64 x2)]) ([]) qeW=qCI x0 x1 x2:=by kernel_rfl
def qeU:HA:=fun o vs objs K=>match vs,objs with
 | [.agg [.one [.i .u64 x0,.i .u64 x1]],.s (.i .i64 x2)],[]=>ob (qCI x0 x1 x2) fun y0=>K false (.s (.b y0)) ([])
 | _,_=>o 133 vs objs K
def qGr (o:Orc):Orc:=qK 133 (qeU o) o
theorem qIc:OQ Tryz.prog qGr:=fun _ ho=>qM ho fun vs objs K r h=>by
 unfold qeU at h
 split at h
 ·skip
  obtain⟨t,h1,h2⟩:=qD h
  refine qX mixed qtN ((qtM _ _ _).trans h1) (by kernel_rfl) fun v objs' hd=>?_
  unfold qeW at hd;split at hd;(cases hd;exact h2);cases hd
 ·exact ho _ _ _ _ _ h
def qRC:Ex->List V->List Obj->Option (Int×Int×Int×Int):=fun e vs objs=>match e,vs,objs with
 | .exit 0,[.s (.ptr 0 0 none 0),.s (.ptr 1 0 none 0)],[.cells 68 [.one [.i .u64 y0,.i .u64 y1]],.cells 68 [.one [.i .u64 y2,.i .u64 y3]]]=>some (y0,y1,y2,y3)
 | _,_,_=>none
def qRF:HL:=fun vs objs K=>match vs,objs with
 | [.s (.i .i64 x0),.s (.ptr 0 0 none 0),.s (.ptr 1 0 none 0),.s (.ptr 2 0 none 0),.s (.ptr 3 0 none 0)],[.cells 164 [.one [.i .i64 x1,.i .i64 x2]],.cells 68 [.one [.i .u64 x3,.i .u64 x4]],.cells 68 [.one [.i .u64 x5,.i .u64 x6]],.cells 68 [.one [.i .u64 x7,.i .u64 x8]]]=>ob (qGf qB x0 x1 x2 x3 x4 x5 x6 x7 x8) fun z=>K (.exit 0) ([.s (.ptr 0 0 none 0),.s (.ptr 1 0 none 0)]) ([.cells 68 [.one [.i .u64 (z.1),.i .u64 (z.2.1)]],.cells 68 [.one [.i .u64 (z.2.2.1),.i .u64 (z.2.2.2)]]])
 | _,_=>none
def qqD:{R:Type}->Nat->List V->List Obj->(Ex->List V->List Obj->Option R)->Option R:=fun q vs objs K=>bif Nat.beq q 5 then qRF vs objs K else none
def qMP:Ctx:=mkC 27 ((qGr (qEm (qTB qI)))) [(5,[0,4,5,6,7],[6,7])] qqD
theorem qbG:CtxOK Tryz.prog qMP:=mkC_ok ((qIc _ (qF0 _ (qfR _ qL))))
def qRD (f:Nat) (x0 x1:Int) (x2 x3:Int) (x4 x5:Int) (x6 x7 x8:Int):Option (Int×Int×Int×Int):=qf qMP 0 [0,4,5,6,7] [6,7] (qE Tryz.f147 5) f ([.s (.i .i64 x0),.s (.ptr 0 0 none 0),.s (.ptr 1 0 none 0),.s (.ptr 2 0 none 0),.s (.ptr 3 0 none 0)]) ([.cells 164 [.one [.i .i64 x1,.i .i64 x2]],.cells 68 [.one [.i .u64 x3,.i .u64 x4]],.cells 68 [.one [.i .u64 x5,.i .u64 x6]],.cells 68 [.one [.i .u64 x7,.i .u64 x8]]]) qRC
theorem qqC (f:Nat) (x0 x1:Int) (x2 x3:Int) (x4 x5:Int) (x6 x7 x8:Int):qRD (f+1) x0 x1 x2 x3 x4 x5 x6 x7 x8=qH8 (qRD f) x0 x1 x2 x3 x4 x5 x6 x7 x8:=by kernel_rfl
theorem qbI:∀ f,qRD f=qGf f
 | 0=>rfl
 | f+1=>by funext x0 x1 x2 x3 x4 x5 x6 x7 x8;rw[qqC,qbI f];rfl
theorem qqE:qY Tryz.prog qMP 0 (qE Tryz.f147 5):=
 qg mixed qbG (qN.of (l':=[]) (by kernel_rfl) trivial) (q:=5) (kin:=[0,4,5,6,7]) (kout:=[6,7]) (by kernel_rfl) (by kernel_rfl) fun vs objs K r h=>by
  replace h:qRF vs objs K=some r:=h
  unfold qRF at h
  split at h
  ·skip
   obtain⟨t,h1,h2⟩:=qD h
   rw[<- qbI] at h1
   refine⟨_,qRC,t,qB,h1,fun e vs' objs' hd=>?_⟩
   unfold qRC at hd;split at hd;(cases hd;exact h2);cases hd
  ·cases h
def qbH:V->List Obj->Option (Int×Int):=fun v objs=>match v,objs with
 | .agg [.one [.i .u64 y0,.i .u64 y1]],[]=>some (y0,y1)
 | _,_=>none
theorem qqB (x0 x1:Int) (x2 x3 x4:Int):fnE qMP Tryz.f147 ([.s (.i .i64 x0),.agg [.one [.i .i64 x1,.i .i64 x2]],.agg [.one [.i .u64 x3,.i .u64 x4]]]) ([]) qbH=qH7 x0 x1 x2 x3 x4:=by kernel_rfl
def qbF:HA:=fun o vs objs K=>match vs,objs with
 | [.s (.i .i64 x0),.agg [.one [.i .i64 x1,.i .i64 x2]],.agg [.one [.i .u64 x3,.i .u64 x4]]],[]=>ob (qH7 x0 x1 x2 x3 x4) fun z=>K false (.agg [.one [.i .u64 (z.1),.i .u64 (z.2)]]) ([])
 | _,_=>o 147 vs objs K
def qRE (o:Orc):Orc:=qK 147 (qbF o) o
theorem qbJ:OQ Tryz.prog qRE:=fun _ ho=>qM ho fun vs objs K r h=>by
 unfold qbF at h
 split at h
 ·skip
  obtain⟨t,h1,h2⟩:=qD h
  refine q7 mixed qbG (fn:=Tryz.f147) (b:=(Tryz.f147).body.getD .skip) (by kernel_rfl) (by kernel_rfl) (by kernel_rfl) ((qqB _ _ _ _ _).trans h1) (m:=0) rfl (qN.of (l':=[qE Tryz.f147 5]) (by kernel_rfl) ⟨qqE,trivial⟩) fun v objs' hd=>?_
  unfold qbH at hd;split at hd;(cases hd;exact h2);cases hd
 ·exact ho _ _ _ _ _ h
def qQ8:Ex->List V->List Obj->Option (Int×Int×Int×Int):=fun e vs objs=>match e,vs,objs with
 | .exit 0,[.s (.ptr 0 0 none 0),.s (.ptr 1 0 none 0)],[.cells 68 [.one [.i .u64 y0,.i .u64 y1]],.cells 68 [.one [.i .u64 y2,.i .u64 y3]]]=>some (y0,y1,y2,y3)
 | _,_,_=>none
def qRB:HL:=fun vs objs K=>match vs,objs with
 | [.s (.i .i8 x0),.s (.i .i64 x1),.s (.ptr 0 0 none 0),.s (.ptr 1 0 none 0),.s (.ptr 2 0 none 0),.s (.sl 3 0 x2 true),.s (.i .i64 x3),.s (.i .i64 x4)],[.cells 68 [.one [.i .u64 x5,.i .u64 x6]],.cells 68 [.one [.i .u64 x7,.i .u64 x8]],.cells 68 [.one [.i .u64 x9,.i .u64 x10]],.sli 164 false (.rows [.i .i64,.i .i64] x11 x12)]=>ob (qFg qB x0 x1 x2 x3 x4 x5 x6 x7 x8 x9 x10 x11 x12) fun z=>K (.exit 0) ([.s (.ptr 0 0 none 0),.s (.ptr 1 0 none 0)]) ([.cells 68 [.one [.i .u64 (z.1),.i .u64 (z.2.1)]],.cells 68 [.one [.i .u64 (z.2.2.1),.i .u64 (z.2.2.2)]]])
 | _,_=>none
def qp9:{R:Type}->Nat->List V->List Obj->(Ex->List V->List Obj->Option R)->Option R:=fun q vs objs K=>bif Nat.beq q 3 then qRB vs objs K else none
def qMN:Ctx:=mkC 32 ((qGs (qRE (qTC (qDo (qQ7 (qCv (qfg qI)))))))) [(3,[0,1,5,6,7,15,16,17],[6,7])] qp9
theorem qbC:CtxOK Tryz.prog qMN:=mkC_ok ((qIg _ (qbJ _ (qfV _ (qEa _ (qbA _ (qDF _ (qub _ qL))))))))
def qQ9 (f:Nat) (x0 x1:Int) (x2:Nat) (x3 x4:Int) (x5 x6:Int) (x7 x8:Int) (x9 x10:Int) (x11:Nat) (x12:LL):Option (Int×Int×Int×Int):=qf qMN 0 [0,1,5,6,7,15,16,17] [6,7] (qE Tryz.f130 3) f ([.s (.i .i8 x0),.s (.i .i64 x1),.s (.ptr 0 0 none 0),.s (.ptr 1 0 none 0),.s (.ptr 2 0 none 0),.s (.sl 3 0 x2 true),.s (.i .i64 x3),.s (.i .i64 x4)]) ([.cells 68 [.one [.i .u64 x5,.i .u64 x6]],.cells 68 [.one [.i .u64 x7,.i .u64 x8]],.cells 68 [.one [.i .u64 x9,.i .u64 x10]],.sli 164 false (.rows [.i .i64,.i .i64] x11 x12)]) qQ8
theorem qp8 (f:Nat) (x0 x1:Int) (x2:Nat) (x3 x4:Int) (x5 x6:Int) (x7 x8:Int) (x9 x10:Int) (x11:Nat) (x12:LL):qQ9 (f+1) x0 x1 x2 x3 x4 x5 x6 x7 x8 x9 x10 x11 x12=qH6 (qQ9 f) x0 x1 x2 x3 x4 x5 x6 x7 x8 x9 x10 x11 x12:=by kernel_rfl
theorem qbE:∀ f,qQ9 f=qFg f
 | 0=>rfl
 | f+1=>by funext x0 x1 x2 x3 x4 x5 x6 x7 x8 x9 x10 x11 x12;rw[qp8,qbE f];rfl
theorem qqA:qY Tryz.prog qMN 0 (qE Tryz.f130 3):=
 qg mixed qbC (qN.of (l':=[]) (by kernel_rfl) trivial) (q:=3) (kin:=[0,1,5,6,7,15,16,17]) (kout:=[6,7]) (by kernel_rfl) (by kernel_rfl) fun vs objs K r h=>by
  replace h:qRB vs objs K=some r:=h
  unfold qRB at h
  split at h
  ·skip
   obtain⟨t,h1,h2⟩:=qD h
   rw[<- qbE] at h1
   refine⟨_,qQ8,t,qB,h1,fun e vs' objs' hd=>?_⟩
   unfold qQ8 at hd;split at hd;(cases hd;exact h2);cases hd
  ·cases h
def qbD:V->List Obj->Option (Int×Int):=fun v objs=>match v,objs with
 | .agg [.one [.i .u64 y0,.i .u64 y1]],[]=>some (y0,y1)
 | _,_=>none
theorem qp7 (x0 x1:Int) (x2 x3:Int):fnE qMN Tryz.f130 ([.s (.i .i8 x0),.s (.i .i64 x1),.agg [.one [.i .u64 x2,.i .u64 x3]]]) ([]) qbD=qFf x0 x1 x2 x3:=by kernel_rfl
def qbB:HA:=fun o vs objs K=>match vs,objs with
 | [.s (.i .i8 x0),.s (.i .i64 x1),.agg [.one [.i .u64 x2,.i .u64 x3]]],[]=>ob (qFf x0 x1 x2 x3) fun z=>K false (.agg [.one [.i .u64 (z.1),.i .u64 (z.2)]]) ([])
 | _,_=>o 130 vs objs K
def qMO (o:Orc):Orc:=qK 130 (qbB o) o
theorem qRA:OQ Tryz.prog qMO:=fun _ ho=>qM ho fun vs objs K r h=>by
 unfold qbB at h
 split at h
 ·skip
  obtain⟨t,h1,h2⟩:=qD h
  refine q7 mixed qbC (fn:=Tryz.f130) (b:=(Tryz.f130).body.getD .skip) (by kernel_rfl) (by kernel_rfl) (by kernel_rfl) ((qp7 _ _ _ _).trans h1) (m:=0) rfl (qN.of (l':=[qE Tryz.f130 3]) (by kernel_rfl) ⟨qqA,trivial⟩) fun v objs' hd=>?_
  unfold qbD at hd;split at hd;(cases hd;exact h2);cases hd
 ·exact ho _ _ _ _ _ h
def qNh:Ex->List V->List Obj->Option (LI×LI×Int×LL×LL×Int×Int×Int×Int):=fun e vs objs=>match e,vs,objs with
 | .exit 0,[.s (.ptr 1 0 none 0),.s (.ptr 2 0 none 0)],[.rcells 72 [.arr .i8 81 y0,.arr .i8 16 y1,.one [.i .i8 y2],.rows [.i .u64,.i .u64] 32 y3,.rows [.i .u64,.i .u64] 2 y4],.cells 68 [.one [.i .u64 y5,.i .u64 y6]],.cells 68 [.one [.i .u64 y7,.i .u64 y8]]]=>some (y0,y1,y2,y3,y4,y5,y6,y7,y8)
 | _,_,_=>none
def qNk:HL:=fun vs objs K=>match vs,objs with
 | [.s (.ptr 0 0 none 0),.s (.i .i64 x0),.s (.i .i64 x1),.s (.ptr 1 0 none 0),.s (.ptr 2 0 none 0),.s (.ptr 3 0 none 0),.s (.i .i64 x2)],[.rcells 72 [.arr .i8 81 x3,.arr .i8 16 x4,.one [.i .i8 x5],.rows [.i .u64,.i .u64] 32 x6,.rows [.i .u64,.i .u64] 2 x7],.cells 68 [.one [.i .u64 x8,.i .u64 x9]],.cells 68 [.one [.i .u64 x10,.i .u64 x11]],.cells 68 [.one [.i .u64 x12,.i .u64 x13]]]=>ob (qEH qB x0 x1 x2 x3 x4 x5 x6 x7 x8 x9 x10 x11 x12 x13) fun z=>K (.exit 0) ([.s (.ptr 1 0 none 0),.s (.ptr 2 0 none 0)]) ([.rcells 72 [.arr .i8 81 (z.1),.arr .i8 16 (z.2.1),.one [.i .i8 (z.2.2.1)],.rows [.i .u64,.i .u64] 32 (z.2.2.2.1),.rows [.i .u64,.i .u64] 2 (z.2.2.2.2.1)],.cells 68 [.one [.i .u64 (z.2.2.2.2.2.1),.i .u64 (z.2.2.2.2.2.2.1)]],.cells 68 [.one [.i .u64 (z.2.2.2.2.2.2.2.1),.i .u64 (z.2.2.2.2.2.2.2.2)]]])
 | _,_=>none
def qhg:{R:Type}->Nat->List V->List Obj->(Ex->List V->List Obj->Option R)->Option R:=fun q vs objs K=>bif Nat.beq q 5 then qNk vs objs K else none
def qKZ:Ctx:=mkC 49 ((qGs (qFw (qGF (qMO (qDn qI)))))) [(5,[0,1,2,7,8,9,10],[8,9])] qhg
theorem qUN:CtxOK Tryz.prog qKZ:=mkC_ok ((qIg _ (qGn _ (qHE _ (qRA _ (qEZ _ qL))))))
def qNi (f:Nat) (x0 x1 x2:Int) (x3 x4:LI) (x5:Int) (x6 x7:LL) (x8 x9:Int) (x10 x11:Int) (x12 x13:Int):Option (LI×LI×Int×LL×LL×Int×Int×Int×Int):=qf qKZ 1 [0,1,2,7,8,9,10] [8,9] (qE Tryz.f111 5) f ([.s (.ptr 0 0 none 0),.s (.i .i64 x0),.s (.i .i64 x1),.s (.ptr 1 0 none 0),.s (.ptr 2 0 none 0),.s (.ptr 3 0 none 0),.s (.i .i64 x2)]) ([.rcells 72 [.arr .i8 81 x3,.arr .i8 16 x4,.one [.i .i8 x5],.rows [.i .u64,.i .u64] 32 x6,.rows [.i .u64,.i .u64] 2 x7],.cells 68 [.one [.i .u64 x8,.i .u64 x9]],.cells 68 [.one [.i .u64 x10,.i .u64 x11]],.cells 68 [.one [.i .u64 x12,.i .u64 x13]]]) qNh
theorem qhf (f:Nat) (x0 x1 x2:Int) (x3 x4:LI) (x5:Int) (x6 x7:LL) (x8 x9:Int) (x10 x11:Int) (x12 x13:Int):qNi (f+1) x0 x1 x2 x3 x4 x5 x6 x7 x8 x9 x10 x11 x12 x13=qG7 (qNi f) x0 x1 x2 x3 x4 x5 x6 x7 x8 x9 x10 x11 x12 x13:=by kernel_rfl
theorem qUP:∀ f,qNi f=qEH f
 | 0=>rfl
 | f+1=>by funext x0 x1 x2 x3 x4 x5 x6 x7 x8 x9 x10 x11 x12 x13;rw[qhf,qUP f];rfl
theorem qhh:qY Tryz.prog qKZ 1 (qE Tryz.f111 5):=
 qg mixed qUN (qN.of (l':=[]) (by kernel_rfl) trivial) (q:=5) (kin:=[0,1,2,7,8,9,10]) (kout:=[8,9]) (by kernel_rfl) (by kernel_rfl) fun vs objs K r h=>by
  replace h:qNk vs objs K=some r:=h
  unfold qNk at h
  split at h
  ·skip
   obtain⟨t,h1,h2⟩:=qD h
   rw[<- qUP] at h1
   refine⟨_,qNh,t,qB,h1,fun e vs' objs' hd=>?_⟩
   unfold qNh at hd;split at hd;(cases hd;exact h2);cases hd
  ·cases h
def qUO:V->List Obj->Option (Int×Int):=fun v objs=>match v,objs with
 | .agg [.one [.i .u64 y0,.i .u64 y1]],[]=>some (y0,y1)
 | _,_=>none
theorem qhe (x0 x1:Int) (x2 x3:Int) (x4 x5:LI) (x6:Int) (x7 x8:LL):fnE qKZ Tryz.f111 ([.s (.ptr 0 0 none 0),.s (.i .i64 x0),.s (.i .i64 x1),.agg [.one [.i .u64 x2,.i .u64 x3]]]) ([.rcells 72 [.arr .i8 81 x4,.arr .i8 16 x5,.one [.i .i8 x6],.rows [.i .u64,.i .u64] 32 x7,.rows [.i .u64,.i .u64] 2 x8]]) (qAG 1 qUO)=qG6 x0 x1 x2 x3 x4 x5 x6 x7 x8:=by kernel_rfl
def qUM:HA:=fun o vs objs K=>match vs,List.map Obj.toRO objs with
 | [.s (.ptr 0 0 none 0),.s (.i .i64 x0),.s (.i .i64 x1),.agg [.one [.i .u64 x2,.i .u64 x3]]],[.rcells 72 [.arr .i8 81 x4,.arr .i8 16 x5,.one [.i .i8 x6],.rows [.i .u64,.i .u64] 32 x7,.rows [.i .u64,.i .u64] 2 x8]]=>ob (qG6 x0 x1 x2 x3 x4 x5 x6 x7 x8) fun z=>K true (.agg [.one [.i .u64 (z.1),.i .u64 (z.2)]]) ([])
 | _,_=>o 111 vs objs K
def qNj (o:Orc):Orc:=qK 111 (qUM o) o
theorem qUQ:OQ Tryz.prog qNj:=fun _ ho=>qM ho fun vs objs K r h=>by
 unfold qUM at h
 split at h
 ·skip
  have hq:List.map Obj.toRO objs=_:=(by rename_i hq;first | exact hq | assumption)
  obtain⟨t,h1,h2⟩:=qD h
  refine qAc mixed qUN (m:=1) (fn:=Tryz.f111) (b:=(Tryz.f111).body.getD .skip) (by kernel_rfl) (by kernel_rfl) (by kernel_rfl) hq (by kernel_rfl) (by kernel_rfl) (qN.of (l':=[qE Tryz.f111 5]) (by kernel_rfl) ⟨qhh,trivial⟩) ((qhe _ _ _ _ _ _ _ _ _).trans h1) fun v objs' hd=>?_
  unfold qUO at hd;split at hd;(cases hd;exact h2);cases hd
 ·exact ho _ _ _ _ _ h
def qUG:Ctx:=mkC 14 ((qNj (qHG (qKh qI)))) [] qU
theorem qhb:CtxOK Tryz.prog qUG:=mkC_ok ((qUQ _ (qI2 _ (qOE _ qL))))
def qUH:V->List Obj->Option (Int×Int):=fun v objs=>match v,objs with
 | .agg [.one [.i .u64 y0,.i .u64 y1]],[]=>some (y0,y1)
 | _,_=>none
theorem qha (x0:Int) (x1 x2:LI) (x3:Int) (x4 x5:LL):fnE qUG Tryz.f83 ([.s (.ptr 0 0 none 0),.s (.i .i64 x0)]) ([.rcells 72 [.arr .i8 81 x1,.arr .i8 16 x2,.one [.i .i8 x3],.rows [.i .u64,.i .u64] 32 x4,.rows [.i .u64,.i .u64] 2 x5]]) (qAG 1 qUH)=qGA x0 x1 x2 x3 x4 x5:=by kernel_rfl
def qUF:HA:=fun o vs objs K=>match vs,List.map Obj.toRO objs with
 | [.s (.ptr 0 0 none 0),.s (.i .i64 x0)],[.rcells 72 [.arr .i8 81 x1,.arr .i8 16 x2,.one [.i .i8 x3],.rows [.i .u64,.i .u64] 32 x4,.rows [.i .u64,.i .u64] 2 x5]]=>ob (qGA x0 x1 x2 x3 x4 x5) fun z=>K true (.agg [.one [.i .u64 (z.1),.i .u64 (z.2)]]) ([])
 | _,_=>o 83 vs objs K
def qKX (o:Orc):Orc:=qK 83 (qUF o) o
theorem qNe:OQ Tryz.prog qKX:=fun _ ho=>qM ho fun vs objs K r h=>by
 unfold qUF at h
 split at h
 ·skip
  have hq:List.map Obj.toRO objs=_:=(by rename_i hq;first | exact hq | assumption)
  obtain⟨t,h1,h2⟩:=qD h
  refine qAc mixed qhb (m:=1) (fn:=Tryz.f83) (b:=(Tryz.f83).body.getD .skip) (by kernel_rfl) (by kernel_rfl) (by kernel_rfl) hq (by kernel_rfl) (by kernel_rfl) (qN.of (l':=[]) (by kernel_rfl) trivial) ((qha _ _ _ _ _ _).trans h1) fun v objs' hd=>?_
  unfold qUH at hd;split at hd;(cases hd;exact h2);cases hd
 ·exact ho _ _ _ _ _ h
def qUK:Ctx:=mkC 10 ((qIb (qKX qI))) [] qU
theorem qhd:CtxOK Tryz.prog qUK:=mkC_ok ((qJ4 _ (qNe _ qL)))
def qUL:V->List Obj->Option (Bool):=fun v objs=>match v,objs with
 | .s (.b y0),[]=>some (y0)
 | _,_=>none
theorem qhc (x0:Int) (x1 x2:LI) (x3:Int) (x4 x5:LL):fnE qUK Tryz.f41 ([.s (.ptr 0 0 none 0),.s (.i .i64 x0)]) ([.rcells 72 [.arr .i8 81 x1,.arr .i8 16 x2,.one [.i .i8 x3],.rows [.i .u64,.i .u64] 32 x4,.rows [.i .u64,.i .u64] 2 x5]]) (qAG 1 qUL)=qEG x0 x1 x2 x3 x4 x5:=by kernel_rfl
def qUJ:HA:=fun o vs objs K=>match vs,List.map Obj.toRO objs with
 | [.s (.ptr 0 0 none 0),.s (.i .i64 x0)],[.rcells 72 [.arr .i8 81 x1,.arr .i8 16 x2,.one [.i .i8 x3],.rows [.i .u64,.i .u64] 32 x4,.rows [.i .u64,.i .u64] 2 x5]]=>ob (qEG x0 x1 x2 x3 x4 x5) fun y0=>K true (.s (.b y0)) ([])
 | _,_=>o 41 vs objs K
def qKY (o:Orc):Orc:=qK 41 (qUJ o) o
theorem qNg:OQ Tryz.prog qKY:=fun _ ho=>qM ho fun vs objs K r h=>by
 unfold qUJ at h
 split at h
 ·skip
  have hq:List.map Obj.toRO objs=_:=(by rename_i hq;first | exact hq | assumption)
  obtain⟨t,h1,h2⟩:=qD h
  refine qAc mixed qhd (m:=1) (fn:=Tryz.f41) (b:=(Tryz.f41).body.getD .skip) (by kernel_rfl) (by kernel_rfl) (by kernel_rfl) hq (by kernel_rfl) (by kernel_rfl) (qN.of (l':=[]) (by kernel_rfl) trivial) ((qhc _ _ _ _ _ _).trans h1) fun v objs' hd=>?_
  unfold qUL at hd;split at hd;(cases hd;exact h2);cases hd
 ·exact ho _ _ _ _ _ h
def qUD:Ctx:=mkC 16 ((qKY (qI1 (qUq qI)))) [] qU
theorem qhZ:CtxOK Tryz.prog qUD:=mkC_ok ((qNg _ (qKj _ (qiK _ qL))))
def qUE:V->List Obj->Option (Int):=fun v objs=>match v,objs with
 | .s (.i .i64 y0),[]=>some (y0)
 | _,_=>none
theorem qhY (x0 x1:LI) (x2:Int):fnE qUD Tryz.f23 ([.agg [.arr .i8 81 x0,.arr .i8 16 x1,.one [.i .i8 x2]]]) ([]) qUE=qG5 x0 x1 x2:=by kernel_rfl
def qUC:HA:=fun o vs objs K=>match vs,objs with
 | [.agg [.arr .i8 81 x0,.arr .i8 16 x1,.one [.i .i8 x2]]],[]=>ob (qG5 x0 x1 x2) fun y0=>K false (.s (.i .i64 y0)) ([])
 | _,_=>o 23 vs objs K
def qNf (o:Orc):Orc:=qK 23 (qUC o) o
theorem qUI:OQ Tryz.prog qNf:=fun _ ho=>qM ho fun vs objs K r h=>by
 unfold qUC at h
 split at h
 ·skip
  obtain⟨t,h1,h2⟩:=qD h
  refine qX mixed qhZ ((qhY _ _ _).trans h1) (by kernel_rfl) fun v objs' hd=>?_
  unfold qUE at hd;split at hd;(cases hd;exact h2);cases hd
 ·exact ho _ _ _ _ _ h
def qXw:Ctx:=mkC 19 (qI) [] qU
theorem qlv:CtxOK Tryz.prog qXw:=mkC_ok (qL)
def qXx:V->List Obj->Option (Int):=fun v objs=>match v,objs with
 | .s (.i .u64 y0),[]=>some (y0)
 | _,_=>none
theorem qlu (x0:Int):fnE qXw Tryz.f123 ([.s (.i .u64 x0)]) ([]) qXx=qDk x0:=by kernel_rfl
def qXv:HA:=fun o vs objs K=>match vs,objs with
 | [.s (.i .u64 x0)],[]=>ob (qDk x0) fun y0=>K false (.s (.i .u64 y0)) ([])
 | _,_=>o 123 vs objs K
def qLO (o:Orc):Orc:=qK 123 (qXv o) o
theorem qPf:OQ Tryz.prog qLO:=fun _ ho=>qM ho fun vs objs K r h=>by
 unfold qXv at h
 split at h
 ·skip
  obtain⟨t,h1,h2⟩:=qD h
  refine qX mixed qlv ((qlu _).trans h1) (by kernel_rfl) fun v objs' hd=>?_
  unfold qXx at hd;split at hd;(cases hd;exact h2);cases hd
 ·exact ho _ _ _ _ _ h
def qXl:Ctx:=mkC 23 ((qLO (qCv qI))) [] qU
theorem qlr:CtxOK Tryz.prog qXl:=mkC_ok ((qPf _ (qDF _ qL)))
def qXm:V->List Obj->Option (Int):=fun v objs=>match v,objs with
 | .s (.i .u64 y0),[]=>some (y0)
 | _,_=>none
theorem qlq (x0 x1:Int):fnE qXl Tryz.f92 ([.s (.i .i64 x0),.s (.i .i8 x1)]) ([]) qXm=qCD x0 x1:=by kernel_rfl
def qXk:HA:=fun o vs objs K=>match vs,objs with
 | [.s (.i .i64 x0),.s (.i .i8 x1)],[]=>ob (qCD x0 x1) fun y0=>K false (.s (.i .u64 y0)) ([])
 | _,_=>o 92 vs objs K
def qPd (o:Orc):Orc:=qK 92 (qXk o) o
theorem qXn:OQ Tryz.prog qPd:=fun _ ho=>qM ho fun vs objs K r h=>by
 unfold qXk at h
 split at h
 ·skip
  obtain⟨t,h1,h2⟩:=qD h
  refine qX mixed qlr ((qlq _ _).trans h1) (by kernel_rfl) fun v objs' hd=>?_
  unfold qXm at hd;split at hd;(cases hd;exact h2);cases hd
 ·exact ho _ _ _ _ _ h
def qXb:Ctx:=mkC 41 ((qLO qI)) [] qU
theorem qlg:CtxOK Tryz.prog qXb:=mkC_ok ((qPf _ qL))
def qXc:V->List Obj->Option (Int):=fun v objs=>match v,objs with
 | .s (.i .u64 y0),[]=>some (y0)
 | _,_=>none
theorem qlf (x0 x1 x2:Int):fnE qXb Tryz.f93 ([.s (.i .i64 x0),.s (.i .i64 x1),.s (.i .i64 x2)]) ([]) qXc=qCq x0 x1 x2:=by kernel_rfl
def qXa:HA:=fun o vs objs K=>match vs,objs with
 | [.s (.i .i64 x0),.s (.i .i64 x1),.s (.i .i64 x2)],[]=>ob (qCq x0 x1 x2) fun y0=>K false (.s (.i .u64 y0)) ([])
 | _,_=>o 93 vs objs K
def qPT (o:Orc):Orc:=qK 93 (qXa o) o
theorem qXd:OQ Tryz.prog qPT:=fun _ ho=>qM ho fun vs objs K r h=>by
 unfold qXa at h
 split at h
 ·skip
  obtain⟨t,h1,h2⟩:=qD h
  refine qX mixed qlg ((qlf _ _ _).trans h1) (by kernel_rfl) fun v objs' hd=>?_
  unfold qXc at hd;split at hd;(cases hd;exact h2);cases hd
 ·exact ho _ _ _ _ _ h
def qXp:Ctx:=mkC 2 ((qLO qI)) [] qU
theorem qlt:CtxOK Tryz.prog qXp:=mkC_ok ((qPf _ qL))
def qXq:V->List Obj->Option (Int):=fun v objs=>match v,objs with
 | .s (.i .u64 y0),[]=>some (y0)
 | _,_=>none
theorem qls:fnE qXp Tryz.f94 ([]) ([]) qXq=qCs  := by kernel_rfl
def qXo:HA:=fun o vs objs K=>match vs,objs with
 | [],[]=>ob (qCs ) fun y0=>K false (.s (.i .u64 y0)) ([])
 | _,_=>o 94 vs objs K
def qPe (o:Orc):Orc:=qK 94 (qXo o) o
theorem qXr:OQ Tryz.prog qPe:=fun _ ho=>qM ho fun vs objs K r h=>by
 unfold qXo at h
 split at h
 ·skip
  obtain⟨t,h1,h2⟩:=qD h
  refine qX mixed qlt ((qls).trans h1) (by kernel_rfl) fun v objs' hd=>?_
  unfold qXq at hd;split at hd;(cases hd;exact h2);cases hd
 ·exact ho _ _ _ _ _ h
def qPW:Ex->List V->List Obj->Option (Int×LI×LI×Int):=fun e vs objs=>match e,vs,objs with
 | .exit 0,[.s (.ptr 0 0 none 0),.s (.i .u64 y0)],[.cells 28 [.arr .i8 81 y1,.arr .i8 16 y2,.one [.i .i8 y3]]]=>some (y0,y1,y2,y3)
 | _,_,_=>none
def qPU:Ex->List V->List Obj->Option (Int×LI×Int×LI×LI×Int):=fun e vs objs=>match e,vs,objs with
 | .exit 4,[.s (.ptr 0 0 none 0),.s (.i .u64 y0),.agg [.arr .i8 16 y1],.s (.i .i64 y2)],[.cells 28 [.arr .i8 81 y3,.arr .i8 16 y4,.one [.i .i8 y5]]]=>some (y0,y1,y2,y3,y4,y5)
 | _,_,_=>none
def qPY:Ex->List V->List Obj->Option (Int×LI×LI×Int):=fun e vs objs=>match e,vs,objs with
 | .exit 2,[.s (.ptr 0 0 none 0),.s (.i .u64 y0)],[.cells 28 [.arr .i8 81 y1,.arr .i8 16 y2,.one [.i .i8 y3]]]=>some (y0,y1,y2,y3)
 | _,_,_=>none
def qPb:HL:=fun vs objs K=>match vs,objs with
 | [.s (.ptr 0 0 none 0),.s (.i .u64 x0),.agg [.arr .i8 81 x1],.s (.i .i64 x2)],[.cells 28 [.arr .i8 81 x3,.arr .i8 16 x4,.one [.i .i8 x5]]]=>ob (qCT qB x0 x1 x2 x3 x4 x5) fun z=>K (.exit 0) ([.s (.ptr 0 0 none 0),.s (.i .u64 (z.1))]) ([.cells 28 [.arr .i8 81 (z.2.1),.arr .i8 16 (z.2.2.1),.one [.i .i8 (z.2.2.2)]]])
 | _,_=>none
def qPa:HL:=fun vs objs K=>match vs,objs with
 | [.s (.ptr 0 0 none 0),.s (.i .u64 x0),.s (.i .i64 x1),.agg [.arr .i8 16 x2],.s (.i .i64 x3),.agg [.arr .i8 8 x4],.s (.i .i64 x5)],[.cells 28 [.arr .i8 81 x6,.arr .i8 16 x7,.one [.i .i8 x8]]]=>ob (qCr qB x0 x1 x2 x3 x4 x5 x6 x7 x8) fun z=>K (.exit 4) ([.s (.ptr 0 0 none 0),.s (.i .u64 (z.1)),.agg [.arr .i8 16 (z.2.1)],.s (.i .i64 (z.2.2.1))]) ([.cells 28 [.arr .i8 81 (z.2.2.2.1),.arr .i8 16 (z.2.2.2.2.1),.one [.i .i8 (z.2.2.2.2.2)]]])
 | _,_=>none
def qPc:HL:=fun vs objs K=>match vs,objs with
 | [.s (.ptr 0 0 none 0),.s (.i .u64 x0),.agg [.arr .i8 16 x1],.s (.i .i64 x2)],[.cells 28 [.arr .i8 81 x3,.arr .i8 16 x4,.one [.i .i8 x5]]]=>ob (qBw qB x0 x1 x2 x3 x4 x5) fun z=>K (.exit 2) ([.s (.ptr 0 0 none 0),.s (.i .u64 (z.1))]) ([.cells 28 [.arr .i8 81 (z.2.1),.arr .i8 16 (z.2.2.1),.one [.i .i8 (z.2.2.2)]]])
 | _,_=>none
def qll:{R:Type}->Nat->List V->List Obj->(Ex->List V->List Obj->Option R)->Option R:=fun q vs objs K=>bif Nat.beq q 3 then qPb vs objs K else bif Nat.beq q 11 then qPa vs objs K else bif Nat.beq q 8 then qPc vs objs K else none
def qFP:Ctx:=mkC 49 ((qPe (qPT (qPd qI)))) [(3,[1,3,11,12],[1,3]),(8,[1,3,23,24],[1,3]),(11,[1,3,6,23,24,28,29],[1,3,23,24])] qll
theorem qLN:CtxOK Tryz.prog qFP:=mkC_ok ((qXr _ (qXd _ (qXn _ qL))))
def qPX (f:Nat) (x0:Int) (x1:LI) (x2:Int) (x3 x4:LI) (x5:Int):Option (Int×LI×LI×Int):=qf qFP 0 [1,3,11,12] [1,3] (qE Tryz.f53 3) f ([.s (.ptr 0 0 none 0),.s (.i .u64 x0),.agg [.arr .i8 81 x1],.s (.i .i64 x2)]) ([.cells 28 [.arr .i8 81 x3,.arr .i8 16 x4,.one [.i .i8 x5]]]) qPW
theorem qlj (f:Nat) (x0:Int) (x1:LI) (x2:Int) (x3 x4:LI) (x5:Int):qPX (f+1) x0 x1 x2 x3 x4 x5=qDi (qPX f) x0 x1 x2 x3 x4 x5:=by kernel_rfl
theorem qXh:∀ f,qPX f=qCT f
 | 0=>rfl
 | f+1=>by funext x0 x1 x2 x3 x4 x5;rw[qlj,qXh f];rfl
def qPV (f:Nat) (x0 x1:Int) (x2:LI) (x3:Int) (x4:LI) (x5:Int) (x6 x7:LI) (x8:Int):Option (Int×LI×Int×LI×LI×Int):=qf qFP 0 [1,3,6,23,24,28,29] [1,3,23,24] (qE Tryz.f53 11) f ([.s (.ptr 0 0 none 0),.s (.i .u64 x0),.s (.i .i64 x1),.agg [.arr .i8 16 x2],.s (.i .i64 x3),.agg [.arr .i8 8 x4],.s (.i .i64 x5)]) ([.cells 28 [.arr .i8 81 x6,.arr .i8 16 x7,.one [.i .i8 x8]]]) qPU
theorem qli (f:Nat) (x0 x1:Int) (x2:LI) (x3:Int) (x4:LI) (x5:Int) (x6 x7:LI) (x8:Int):qPV (f+1) x0 x1 x2 x3 x4 x5 x6 x7 x8=qDh (qPV f) x0 x1 x2 x3 x4 x5 x6 x7 x8:=by kernel_rfl
theorem qXg:∀ f,qPV f=qCr f
 | 0=>rfl
 | f+1=>by funext x0 x1 x2 x3 x4 x5 x6 x7 x8;rw[qli,qXg f];rfl
def qPZ (f:Nat) (x0:Int) (x1:LI) (x2:Int) (x3 x4:LI) (x5:Int):Option (Int×LI×LI×Int):=qf qFP 0 [1,3,23,24] [1,3] (qE Tryz.f53 8) f ([.s (.ptr 0 0 none 0),.s (.i .u64 x0),.agg [.arr .i8 16 x1],.s (.i .i64 x2)]) ([.cells 28 [.arr .i8 81 x3,.arr .i8 16 x4,.one [.i .i8 x5]]]) qPY
theorem qlk (f:Nat) (x0:Int) (x1:LI) (x2:Int) (x3 x4:LI) (x5:Int):qPZ (f+1) x0 x1 x2 x3 x4 x5=qDj (qPZ f) x0 x1 x2 x3 x4 x5:=by kernel_rfl
theorem qXi:∀ f,qPZ f=qBw f
 | 0=>rfl
 | f+1=>by funext x0 x1 x2 x3 x4 x5;rw[qlk,qXi f];rfl
theorem qlo:qY Tryz.prog qFP 0 (qE Tryz.f53 3):=
 qg mixed qLN (qN.of (l':=[]) (by kernel_rfl) trivial) (q:=3) (kin:=[1,3,11,12]) (kout:=[1,3]) (by kernel_rfl) (by kernel_rfl) fun vs objs K r h=>by
  replace h:qPb vs objs K=some r:=h
  unfold qPb at h
  split at h
  ·skip
   obtain⟨t,h1,h2⟩:=qD h
   rw[<- qXh] at h1
   refine⟨_,qPW,t,qB,h1,fun e vs' objs' hd=>?_⟩
   unfold qPW at hd;split at hd;(cases hd;exact h2);cases hd
  ·cases h
theorem qln:qY Tryz.prog qFP 0 (qE Tryz.f53 11):=
 qg mixed qLN (qN.of (l':=[]) (by kernel_rfl) trivial) (q:=11) (kin:=[1,3,6,23,24,28,29]) (kout:=[1,3,23,24]) (by kernel_rfl) (by kernel_rfl) fun vs objs K r h=>by
  replace h:qPa vs objs K=some r:=h
  unfold qPa at h
  split at h
  ·skip
   obtain⟨t,h1,h2⟩:=qD h
   rw[<- qXg] at h1
   refine⟨_,qPU,t,qB,h1,fun e vs' objs' hd=>?_⟩
   unfold qPU at hd;split at hd;(cases hd;exact h2);cases hd
  ·cases h
theorem qlp:qY Tryz.prog qFP 0 (qE Tryz.f53 8):=
 qg mixed qLN (qN.of (l':=[qE Tryz.f53 11]) (by kernel_rfl) ⟨qln,trivial⟩) (q:=8) (kin:=[1,3,23,24]) (kout:=[1,3]) (by kernel_rfl) (by kernel_rfl) fun vs objs K r h=>by
  replace h:qPc vs objs K=some r:=h
  unfold qPc at h
  split at h
  ·skip
   obtain⟨t,h1,h2⟩:=qD h
   rw[<- qXi] at h1
   refine⟨_,qPY,t,qB,h1,fun e vs' objs' hd=>?_⟩
   unfold qPY at hd;split at hd;(cases hd;exact h2);cases hd
  ·cases h
def qXf:V->List Obj->Option (Int):=fun v objs=>match v,objs with
 | .s (.i .u64 y0),[]=>some (y0)
 | _,_=>none
theorem qlh (x0 x1:LI) (x2:Int):fnE qFP Tryz.f53 ([.agg [.arr .i8 81 x0,.arr .i8 16 x1,.one [.i .i8 x2]]]) ([]) qXf=qES x0 x1 x2:=by kernel_rfl
def qXe:HA:=fun o vs objs K=>match vs,objs with
 | [.agg [.arr .i8 81 x0,.arr .i8 16 x1,.one [.i .i8 x2]]],[]=>ob (qES x0 x1 x2) fun y0=>K false (.s (.i .u64 y0)) ([])
 | _,_=>o 53 vs objs K
def qXj (o:Orc):Orc:=qK 53 (qXe o) o
theorem qlm:OQ Tryz.prog qXj:=fun _ ho=>qM ho fun vs objs K r h=>by
 unfold qXe at h
 split at h
 ·skip
  obtain⟨t,h1,h2⟩:=qD h
  refine q7 mixed qLN (fn:=Tryz.f53) (b:=(Tryz.f53).body.getD .skip) (by kernel_rfl) (by kernel_rfl) (by kernel_rfl) ((qlh _ _ _).trans h1) (m:=0) rfl (qN.of (l':=[qE Tryz.f53 3,qE Tryz.f53 8]) (by kernel_rfl) ⟨qlo,qlp,trivial⟩) fun v objs' hd=>?_
  unfold qXf at hd;split at hd;(cases hd;exact h2);cases hd
 ·exact ho _ _ _ _ _ h
def qWN:Ctx:=mkC 14 ((qXj (qI1 qI))) [] qU
theorem qj7:CtxOK Tryz.prog qWN:=mkC_ok ((qlm _ (qKj _ qL)))
def qWO:V->List Obj->Option (Int×Nat×LI×LI×Int×LL×LL×Nat×LL):=fun v objs=>match v,objs with
 | .s (.ptr 0 0 none 0),[.cells 66 [.one [.ptr 1 0 none 0,.i .u64 y0,.sl 2 0 y1 true]],.cells 72 [.arr .i8 81 y2,.arr .i8 16 y3,.one [.i .i8 y4],.rows [.i .u64,.i .u64] 32 y5,.rows [.i .u64,.i .u64] 2 y6],.sli 98 false (.rows [.i .i64,.i .i64,.i .i64,.b,.i .i8,.i .i8] y7 y8)]=>some (y0,y1,y2,y3,y4,y5,y6,y7,y8)
 | _,_=>none
theorem qj6 (x0 x1:LI) (x2:Int):fnE qWN Tryz.f24 ([.agg [.arr .i8 81 x0,.arr .i8 16 x1,.one [.i .i8 x2]]]) ([]) qWO=qGK x0 x1 x2:=by kernel_rfl
def qWM:HA:=fun o vs objs K=>match vs,objs with
 | [.agg [.arr .i8 81 x0,.arr .i8 16 x1,.one [.i .i8 x2]]],[]=>ob (qGK x0 x1 x2) fun z=>K false (.s (.ptr 0 0 none 0)) ([.cells 66 [.one [.ptr 1 0 none 0,.i .u64 (z.1),.sl 2 0 (z.2.1) true]],.cells 72 [.arr .i8 81 (z.2.2.1),.arr .i8 16 (z.2.2.2.1),.one [.i .i8 (z.2.2.2.2.1)],.rows [.i .u64,.i .u64] 32 (z.2.2.2.2.2.1),.rows [.i .u64,.i .u64] 2 (z.2.2.2.2.2.2.1)],.sli 98 false (.rows [.i .i64,.i .i64,.i .i64,.b,.i .i8,.i .i8] (z.2.2.2.2.2.2.2.1) (z.2.2.2.2.2.2.2.2))])
 | _,_=>o 24 vs objs K
def qOr (o:Orc):Orc:=qK 24 (qWM o) o
theorem qWP:OQ Tryz.prog qOr:=fun _ ho=>qM ho fun vs objs K r h=>by
 unfold qWM at h
 split at h
 ·skip
  obtain⟨t,h1,h2⟩:=qD h
  refine qX mixed qj7 ((qj6 _ _ _).trans h1) (by kernel_rfl) fun v objs' hd=>?_
  unfold qWO at hd;split at hd;(cases hd;exact h2);cases hd
 ·exact ho _ _ _ _ _ h
def qeD:Ctx:=mkC 2 (qI) [] qU
theorem qtB:CtxOK Tryz.prog qeD:=mkC_ok (qL)
def qeE:V->List Obj->Option (Int×Int):=fun v objs=>match v,objs with
 | .agg [.one [.i .u64 y0,.i .u64 y1]],[]=>some (y0,y1)
 | _,_=>none
theorem qtA:fnE qeD Tryz.f97 ([]) ([]) qeE=qGm  := by kernel_rfl
def qeC:HA:=fun o vs objs K=>match vs,objs with
 | [],[]=>ob (qGm ) fun z=>K false (.agg [.one [.i .u64 (z.1),.i .u64 (z.2)]]) ([])
 | _,_=>o 97 vs objs K
def qJ3 (o:Orc):Orc:=qK 97 (qeC o) o
theorem qMq:OQ Tryz.prog qJ3:=fun _ ho=>qM ho fun vs objs K r h=>by
 unfold qeC at h
 split at h
 ·skip
  obtain⟨t,h1,h2⟩:=qD h
  refine qX mixed qtB ((qtA).trans h1) (by kernel_rfl) fun v objs' hd=>?_
  unfold qeE at hd;split at hd;(cases hd;exact h2);cases hd
 ·exact ho _ _ _ _ _ h
def qSw:Ex->List V->List Obj->Option (Nat×Int×Int×Nat×LI):=fun e vs objs=>match e,vs,objs with
 | .exit 0,[.s (.ptr 0 0 none 0),.s (.sl 1 0 y0 true)],[.cells 68 [.one [.i .u64 y1,.i .u64 y2]],.sli 3 false (.arr .i64 y3 y4)]=>some (y0,y1,y2,y3,y4)
 | _,_,_=>none
def qSy:Ex->List V->List Obj->Option (Nat×Nat×LI):=fun e vs objs=>match e,vs,objs with
 | .exit 2,[.s (.sl 0 0 y0 true)],[.sli 3 false (.arr .i64 y1 y2)]=>some (y0,y1,y2)
 | _,_,_=>none
def qS0:HL:=fun vs objs K=>match vs,objs with
 | [.s (.ptr 0 0 none 0),.s (.sl 1 0 x0 true)],[.cells 68 [.one [.i .u64 x1,.i .u64 x2]],.sli 3 false (.arr .i64 x3 x4)]=>ob (qIi qB x0 x1 x2 x3 x4) fun z=>K (.exit 0) ([.s (.ptr 0 0 none 0),.s (.sl 1 0 (z.1) true)]) ([.cells 68 [.one [.i .u64 (z.2.1),.i .u64 (z.2.2.1)]],.sli 3 false (.arr .i64 (z.2.2.2.1) (z.2.2.2.2))])
 | _,_=>none
def qS1:HL:=fun vs objs K=>match vs,objs with
 | [.s (.ptr 0 0 none 0),.s (.sl 1 0 x0 true)],[.cells 68 [.one [.i .u64 x1,.i .u64 x2]],.sli 3 false (.arr .i64 x3 x4)]=>ob (qIj qB x0 x1 x2 x3 x4) fun z=>K (.exit 2) ([.s (.sl 0 0 (z.1) true)]) ([.sli 3 false (.arr .i64 (z.2.1) (z.2.2))])
 | _,_=>none
def qtj:{R:Type}->Nat->List V->List Obj->(Ex->List V->List Obj->Option R)->Option R:=fun q vs objs K=>bif Nat.beq q 2 then qS0 vs objs K else bif Nat.beq q 5 then qS1 vs objs K else none
def qIh:Ctx:=mkC 38 ((qNz qI)) [(2,[1,3],[1,3]),(5,[1,3],[3])] qtj
theorem qSv:CtxOK Tryz.prog qIh:=mkC_ok ((qUg _ qL))
def qSx (f:Nat) (x0:Nat) (x1 x2:Int) (x3:Nat) (x4:LI):Option (Nat×Int×Int×Nat×LI):=qf qIh 0 [1,3] [1,3] (qE Tryz.f129 2) f ([.s (.ptr 0 0 none 0),.s (.sl 1 0 x0 true)]) ([.cells 68 [.one [.i .u64 x1,.i .u64 x2]],.sli 3 false (.arr .i64 x3 x4)]) qSw
theorem qth (f:Nat) (x0:Nat) (x1 x2:Int) (x3:Nat) (x4:LI):qSx (f+1) x0 x1 x2 x3 x4=qMz (qSx f) x0 x1 x2 x3 x4:=by kernel_rfl
theorem qex:∀ f,qSx f=qIi f
 | 0=>rfl
 | f+1=>by funext x0 x1 x2 x3 x4;rw[qth,qex f];rfl
def qSz (f:Nat) (x0:Nat) (x1 x2:Int) (x3:Nat) (x4:LI):Option (Nat×Nat×LI):=qf qIh 0 [1,3] [3] (qE Tryz.f129 5) f ([.s (.ptr 0 0 none 0),.s (.sl 1 0 x0 true)]) ([.cells 68 [.one [.i .u64 x1,.i .u64 x2]],.sli 3 false (.arr .i64 x3 x4)]) qSy
theorem qti (f:Nat) (x0:Nat) (x1 x2:Int) (x3:Nat) (x4:LI):qSz (f+1) x0 x1 x2 x3 x4=qM0 (qSz f) x0 x1 x2 x3 x4:=by kernel_rfl
theorem qey:∀ f,qSz f=qIj f
 | 0=>rfl
 | f+1=>by funext x0 x1 x2 x3 x4;rw[qti,qey f];rfl
theorem qtk:qY Tryz.prog qIh 0 (qE Tryz.f129 2):=
 qg mixed qSv (qN.of (l':=[]) (by kernel_rfl) trivial) (q:=2) (kin:=[1,3]) (kout:=[1,3]) (by kernel_rfl) (by kernel_rfl) fun vs objs K r h=>by
  replace h:qS0 vs objs K=some r:=h
  unfold qS0 at h
  split at h
  ·skip
   obtain⟨t,h1,h2⟩:=qD h
   rw[<- qex] at h1
   refine⟨_,qSw,t,qB,h1,fun e vs' objs' hd=>?_⟩
   unfold qSw at hd;split at hd;(cases hd;exact h2);cases hd
  ·cases h
theorem qtl:qY Tryz.prog qIh 0 (qE Tryz.f129 5):=
 qg mixed qSv (qN.of (l':=[]) (by kernel_rfl) trivial) (q:=5) (kin:=[1,3]) (kout:=[3]) (by kernel_rfl) (by kernel_rfl) fun vs objs K r h=>by
  replace h:qS1 vs objs K=some r:=h
  unfold qS1 at h
  split at h
  ·skip
   obtain⟨t,h1,h2⟩:=qD h
   rw[<- qey] at h1
   refine⟨_,qSy,t,qB,h1,fun e vs' objs' hd=>?_⟩
   unfold qSy at hd;split at hd;(cases hd;exact h2);cases hd
  ·cases h
def qew:V->List Obj->Option (Nat×Nat×LI):=fun v objs=>match v,objs with
 | .s (.sl 0 0 y0 true),[.sli 3 false (.arr .i64 y1 y2)]=>some (y0,y1,y2)
 | _,_=>none
theorem qtg (x0 x1:Int):fnE qIh Tryz.f129 ([.agg [.one [.i .u64 x0,.i .u64 x1]]]) ([]) qew=qEl x0 x1:=by kernel_rfl
def qev:HA:=fun o vs objs K=>match vs,objs with
 | [.agg [.one [.i .u64 x0,.i .u64 x1]]],[]=>ob (qEl x0 x1) fun z=>K false (.s (.sl 0 0 (z.1) true)) ([.sli 3 false (.arr .i64 (z.2.1) (z.2.2))])
 | _,_=>o 129 vs objs K
def qJ6 (o:Orc):Orc:=qK 129 (qev o) o
theorem qM1:OQ Tryz.prog qJ6:=fun _ ho=>qM ho fun vs objs K r h=>by
 unfold qev at h
 split at h
 ·skip
  obtain⟨t,h1,h2⟩:=qD h
  refine q7 mixed qSv (fn:=Tryz.f129) (b:=(Tryz.f129).body.getD .skip) (by kernel_rfl) (by kernel_rfl) (by kernel_rfl) ((qtg _ _).trans h1) (m:=0) rfl (qN.of (l':=[qE Tryz.f129 2,qE Tryz.f129 5]) (by kernel_rfl) ⟨qtk,qtl,trivial⟩) fun v objs' hd=>?_
  unfold qew at hd;split at hd;(cases hd;exact h2);cases hd
 ·exact ho _ _ _ _ _ h
def qSr:Ex->List V->List Obj->Option (Nat×LI×Int×Int×Int×Int):=fun e vs objs=>match e,vs,objs with
 | .exit 0,[.s (.ptr 1 0 none 0),.s (.ptr 2 0 none 0)],[.sli 3 true (.arr .i64 y0 y1),.cells 68 [.one [.i .u64 y2,.i .u64 y3]],.cells 68 [.one [.i .u64 y4,.i .u64 y5]]]=>some (y0,y1,y2,y3,y4,y5)
 | _,_,_=>none
def qSt:HL:=fun vs objs K=>match vs,objs with
 | [.s (.ptr 1 0 none 0),.s (.ptr 2 0 none 0),.s (.sl 0 0 x0 true),.s (.i .i64 x1),.s (.i .i64 x2)],[.sli 3 true (.arr .i64 x3 x4),.cells 68 [.one [.i .u64 x5,.i .u64 x6]],.cells 68 [.one [.i .u64 x7,.i .u64 x8]]]=>ob (qFy qB x0 x1 x2 x3 x4 x5 x6 x7 x8) fun z=>K (.exit 0) ([.s (.ptr 1 0 none 0),.s (.ptr 2 0 none 0)]) ([.sli 3 true (.arr .i64 (z.1) (z.2.1)),.cells 68 [.one [.i .u64 (z.2.2.1),.i .u64 (z.2.2.2.1)]],.cells 68 [.one [.i .u64 (z.2.2.2.2.1),.i .u64 (z.2.2.2.2.2)]]])
 | _,_=>none
def qtZ:{R:Type}->Nat->List V->List Obj->(Ex->List V->List Obj->Option R)->Option R:=fun q vs objs K=>bif Nat.beq q 3 then qSt vs objs K else none
def qMx:Ctx:=mkC 17 ((qEm qI)) [(3,[2,3,6,7,8],[2,3])] qtZ
theorem qel:CtxOK Tryz.prog qMx:=mkC_ok ((qF0 _ qL))
def qSs (f:Nat) (x0:Nat) (x1 x2:Int) (x3:Nat) (x4:LI) (x5 x6:Int) (x7 x8:Int):Option (Nat×LI×Int×Int×Int×Int):=qf qMx 1 [2,3,6,7,8] [2,3] (qE Tryz.f148 3) f ([.s (.ptr 1 0 none 0),.s (.ptr 2 0 none 0),.s (.sl 0 0 x0 true),.s (.i .i64 x1),.s (.i .i64 x2)]) ([.sli 3 true (.arr .i64 x3 x4),.cells 68 [.one [.i .u64 x5,.i .u64 x6]],.cells 68 [.one [.i .u64 x7,.i .u64 x8]]]) qSr
theorem qtY (f:Nat) (x0:Nat) (x1 x2:Int) (x3:Nat) (x4:LI) (x5 x6:Int) (x7 x8:Int):qSs (f+1) x0 x1 x2 x3 x4 x5 x6 x7 x8=qIf (qSs f) x0 x1 x2 x3 x4 x5 x6 x7 x8:=by kernel_rfl
theorem qen:∀ f,qSs f=qFy f
 | 0=>rfl
 | f+1=>by funext x0 x1 x2 x3 x4 x5 x6 x7 x8;rw[qtY,qen f];rfl
theorem qtb:qY Tryz.prog qMx 1 (qE Tryz.f148 3):=
 qg mixed qel (qN.of (l':=[]) (by kernel_rfl) trivial) (q:=3) (kin:=[2,3,6,7,8]) (kout:=[2,3]) (by kernel_rfl) (by kernel_rfl) fun vs objs K r h=>by
  replace h:qSt vs objs K=some r:=h
  unfold qSt at h
  split at h
  ·skip
   obtain⟨t,h1,h2⟩:=qD h
   rw[<- qen] at h1
   refine⟨_,qSr,t,qB,h1,fun e vs' objs' hd=>?_⟩
   unfold qSr at hd;split at hd;(cases hd;exact h2);cases hd
  ·cases h
def qem:V->List Obj->Option (Int×Int):=fun v objs=>match v,objs with
 | .agg [.one [.i .u64 y0,.i .u64 y1]],[]=>some (y0,y1)
 | _,_=>none
theorem qtX (x0 x1:Nat) (x2:LI):fnE qMx Tryz.f148 ([.s (.sl 0 0 x0 true)]) ([.sli 3 true (.arr .i64 x1 x2)]) (qAG 1 qem)=qIe x0 x1 x2:=by kernel_rfl
def qek:HA:=fun o vs objs K=>match vs,List.map Obj.toRO objs with
 | [.s (.sl 0 0 x0 true)],[.sli 3 true (.arr .i64 x1 x2)]=>ob (qIe x0 x1 x2) fun z=>K true (.agg [.one [.i .u64 (z.1),.i .u64 (z.2)]]) ([])
 | _,_=>o 148 vs objs K
def qeo (o:Orc):Orc:=qK 148 (qek o) o
theorem qta:OQ Tryz.prog qeo:=fun _ ho=>qM ho fun vs objs K r h=>by
 unfold qek at h
 split at h
 ·skip
  have hq:List.map Obj.toRO objs=_:=(by rename_i hq;first | exact hq | assumption)
  obtain⟨t,h1,h2⟩:=qD h
  refine qAc mixed qel (m:=1) (fn:=Tryz.f148) (b:=(Tryz.f148).body.getD .skip) (by kernel_rfl) (by kernel_rfl) (by kernel_rfl) hq (by kernel_rfl) (by kernel_rfl) (qN.of (l':=[qE Tryz.f148 3]) (by kernel_rfl) ⟨qtb,trivial⟩) ((qtX _ _ _).trans h1) fun v objs' hd=>?_
  unfold qem at hd;split at hd;(cases hd;exact h2);cases hd
 ·exact ho _ _ _ _ _ h
def qQ3:Ex->List V->List Obj->Option ((Int×Int)⊕(Int×Int)):=fun e vs objs=>match e,vs,objs with
 | .ret,[.s (.ptr 0 0 none 0)],[.cells 68 [.one [.i .u64 y0,.i .u64 y1]]]=>some (.inl (y0,y1))
 | .exit 0,[.s (.ptr 0 0 none 0)],[.cells 68 [.one [.i .u64 y0,.i .u64 y1]]]=>some (.inr (y0,y1))
 | _,_,_=>none
def qQ6:HL:=fun vs objs K=>match vs,objs with
 | [.s (.i .i64 x0),.s (.i .i64 x1),.s (.ptr 0 0 none 0),.s (.sl 1 0 x2 true),.s (.i .i64 x3),.s (.i .i64 x4)],[.cells 68 [.one [.i .u64 x5,.i .u64 x6]],.sli 164 false (.rows [.i .i64,.i .i64] x7 x8)]=>ob (qFe qB x0 x1 x2 x3 x4 x5 x6 x7 x8) fun t0=>sw t0 (fun z=>K (.ret) ([.s (.ptr 0 0 none 0)]) ([.cells 68 [.one [.i .u64 (z.1),.i .u64 (z.2)]]])) (fun z=>K (.exit 0) ([.s (.ptr 0 0 none 0)]) ([.cells 68 [.one [.i .u64 (z.1),.i .u64 (z.2)]]]))
 | _,_=>none
def qp3:{R:Type}->Nat->List V->List Obj->(Ex->List V->List Obj->Option R)->Option R:=fun q vs objs K=>bif Nat.beq q 2 then qQ6 vs objs K else none
def qMM:Ctx:=mkC 30 ((qJ7 (qGr (qRE (qeo (qQ7 qI)))))) [(2,[0,1,4,10,11,12],[4])] qp3
theorem qa3:CtxOK Tryz.prog qMM:=mkC_ok ((qM2 _ (qIc _ (qbJ _ (qta _ (qbA _ qL))))))
def qQ4 (f:Nat) (x0 x1:Int) (x2:Nat) (x3 x4:Int) (x5 x6:Int) (x7:Nat) (x8:LL):Option ((Int×Int)⊕(Int×Int)):=qf qMM 0 [0,1,4,10,11,12] [4] (qE Tryz.f125 2) f ([.s (.i .i64 x0),.s (.i .i64 x1),.s (.ptr 0 0 none 0),.s (.sl 1 0 x2 true),.s (.i .i64 x3),.s (.i .i64 x4)]) ([.cells 68 [.one [.i .u64 x5,.i .u64 x6]],.sli 164 false (.rows [.i .i64,.i .i64] x7 x8)]) qQ3
theorem qp2 (f:Nat) (x0 x1:Int) (x2:Nat) (x3 x4:Int) (x5 x6:Int) (x7:Nat) (x8:LL):qQ4 (f+1) x0 x1 x2 x3 x4 x5 x6 x7 x8=qH5 (qQ4 f) x0 x1 x2 x3 x4 x5 x6 x7 x8:=by kernel_rfl
theorem qa5:∀ f,qQ4 f=qFe f
 | 0=>rfl
 | f+1=>by funext x0 x1 x2 x3 x4 x5 x6 x7 x8;rw[qp2,qa5 f];rfl
theorem qp4:qY Tryz.prog qMM 0 (qE Tryz.f125 2):=
 qg mixed qa3 (qN.of (l':=[]) (by kernel_rfl) trivial) (q:=2) (kin:=[0,1,4,10,11,12]) (kout:=[4]) (by kernel_rfl) (by kernel_rfl) fun vs objs K r h=>by
  replace h:qQ6 vs objs K=some r:=h
  unfold qQ6 at h
  split at h
  ·skip
   obtain⟨t,h1,h2⟩:=qD h
   rw[<- qa5] at h1
   refine⟨_,qQ3,t,qB,h1,fun e vs' objs' hd=>?_⟩
   unfold qQ3 at hd
   split at hd
   ·skip
    cases hd
    exact h2
   ·skip
    cases hd
    exact h2
   ·cases hd
  ·cases h
def qa4:V->List Obj->Option (Int×Int):=fun v objs=>match v,objs with
 | .agg [.one [.i .u64 y0,.i .u64 y1]],[]=>some (y0,y1)
 | _,_=>none
theorem qp1 (x0 x1:Int):fnE qMM Tryz.f125 ([.s (.i .i64 x0),.s (.i .i64 x1)]) ([]) qa4=qH4 x0 x1:=by kernel_rfl
def qa2:HA:=fun o vs objs K=>match vs,objs with
 | [.s (.i .i64 x0),.s (.i .i64 x1)],[]=>ob (qH4 x0 x1) fun z=>K false (.agg [.one [.i .u64 (z.1),.i .u64 (z.2)]]) ([])
 | _,_=>o 125 vs objs K
def qQ5 (o:Orc):Orc:=qK 125 (qa2 o) o
theorem qa6:OQ Tryz.prog qQ5:=fun _ ho=>qM ho fun vs objs K r h=>by
 unfold qa2 at h
 split at h
 ·skip
  obtain⟨t,h1,h2⟩:=qD h
  refine q7 mixed qa3 (fn:=Tryz.f125) (b:=(Tryz.f125).body.getD .skip) (by kernel_rfl) (by kernel_rfl) (by kernel_rfl) ((qp1 _ _).trans h1) (m:=0) rfl (qN.of (l':=[qE Tryz.f125 2]) (by kernel_rfl) ⟨qp4,trivial⟩) fun v objs' hd=>?_
  unfold qa4 at hd;split at hd;(cases hd;exact h2);cases hd
 ·exact ho _ _ _ _ _ h
def qU9:Ctx:=mkC 18 (qI) [] qU
theorem qid:CtxOK Tryz.prog qU9:=mkC_ok (qL)
def qVA:V->List Obj->Option (Int×Int):=fun v objs=>match v,objs with
 | .agg [.one [.i .u64 y0,.i .u64 y1]],[]=>some (y0,y1)
 | _,_=>none
theorem qic (x0:Int) (x1 x2:LI) (x3:Int) (x4 x5:LL):fnE qU9 Tryz.f128 ([.s (.ptr 0 0 none 0),.s (.i .i64 x0)]) ([.rcells 72 [.arr .i8 81 x1,.arr .i8 16 x2,.one [.i .i8 x3],.rows [.i .u64,.i .u64] 32 x4,.rows [.i .u64,.i .u64] 2 x5]]) (qAG 1 qVA)=qGG x0 x1 x2 x3 x4 x5:=by kernel_rfl
def qU8:HA:=fun o vs objs K=>match vs,List.map Obj.toRO objs with
 | [.s (.ptr 0 0 none 0),.s (.i .i64 x0)],[.rcells 72 [.arr .i8 81 x1,.arr .i8 16 x2,.one [.i .i8 x3],.rows [.i .u64,.i .u64] 32 x4,.rows [.i .u64,.i .u64] 2 x5]]=>ob (qGG x0 x1 x2 x3 x4 x5) fun z=>K true (.agg [.one [.i .u64 (z.1),.i .u64 (z.2)]]) ([])
 | _,_=>o 128 vs objs K
def qOI (o:Orc):Orc:=qK 128 (qU8 o) o
theorem qVB:OQ Tryz.prog qOI:=fun _ ho=>qM ho fun vs objs K r h=>by
 unfold qU8 at h
 split at h
 ·skip
  have hq:List.map Obj.toRO objs=_:=(by rename_i hq;first | exact hq | assumption)
  obtain⟨t,h1,h2⟩:=qD h
  refine qAc mixed qid (m:=1) (fn:=Tryz.f128) (b:=(Tryz.f128).body.getD .skip) (by kernel_rfl) (by kernel_rfl) (by kernel_rfl) hq (by kernel_rfl) (by kernel_rfl) (qN.of (l':=[]) (by kernel_rfl) trivial) ((qic _ _ _ _ _ _).trans h1) fun v objs' hd=>?_
  unfold qVA at hd;split at hd;(cases hd;exact h2);cases hd
 ·exact ho _ _ _ _ _ h
def qUi:Ctx:=mkC 18 (qI) [] qU
theorem qiD:CtxOK Tryz.prog qUi:=mkC_ok (qL)
def qUj:V->List Obj->Option (Int):=fun v objs=>match v,objs with
 | .s (.i .i8 y0),[]=>some (y0)
 | _,_=>none
theorem qiC (x0:Int) (x1 x2:LI) (x3:Int) (x4 x5:LL):fnE qUi Tryz.f56 ([.s (.ptr 0 0 none 0),.s (.i .i64 x0)]) ([.rcells 72 [.arr .i8 81 x1,.arr .i8 16 x2,.one [.i .i8 x3],.rows [.i .u64,.i .u64] 32 x4,.rows [.i .u64,.i .u64] 2 x5]]) (qAG 1 qUj)=qAg x0 x1 x2 x3 x4 x5:=by kernel_rfl
def qUh:HA:=fun o vs objs K=>match vs,List.map Obj.toRO objs with
 | [.s (.ptr 0 0 none 0),.s (.i .i64 x0)],[.rcells 72 [.arr .i8 81 x1,.arr .i8 16 x2,.one [.i .i8 x3],.rows [.i .u64,.i .u64] 32 x4,.rows [.i .u64,.i .u64] 2 x5]]=>ob (qAg x0 x1 x2 x3 x4 x5) fun y0=>K true (.s (.i .i8 y0)) ([])
 | _,_=>o 56 vs objs K
def qGD (o:Orc):Orc:=qK 56 (qUh o) o
theorem qHB:OQ Tryz.prog qGD:=fun _ ho=>qM ho fun vs objs K r h=>by
 unfold qUh at h
 split at h
 ·skip
  have hq:List.map Obj.toRO objs=_:=(by rename_i hq;first | exact hq | assumption)
  obtain⟨t,h1,h2⟩:=qD h
  refine qAc mixed qiD (m:=1) (fn:=Tryz.f56) (b:=(Tryz.f56).body.getD .skip) (by kernel_rfl) (by kernel_rfl) (by kernel_rfl) hq (by kernel_rfl) (by kernel_rfl) (qN.of (l':=[]) (by kernel_rfl) trivial) ((qiC _ _ _ _ _ _).trans h1) fun v objs' hd=>?_
  unfold qUj at hd;split at hd;(cases hd;exact h2);cases hd
 ·exact ho _ _ _ _ _ h
def qNo:Ex->List V->List Obj->Option (Int×Int×Nat×Int×Int×LI×LI×Int×LL×LL×List (LI×LI)×Nat×LI):=fun e vs objs=>match e,vs,objs with
 | .exit 2,[.s (.ptr 0 0 none 0),.s (.i .i64 y0),.s (.mp 1),.s (.i .i64 y1),.s (.sl 2 0 y2 true),.s (.i .i64 y3),.s (.i .i64 y4)],[.rcells 72 [.arr .i8 81 y5,.arr .i8 16 y6,.one [.i .i8 y7],.rows [.i .u64,.i .u64] 32 y8,.rows [.i .u64,.i .u64] 2 y9],.map false true [.i .i64] [.i .u64,.i .u64] y10,.sli 3 false (.arr .i64 y11 y12)]=>some (y0,y1,y2,y3,y4,y5,y6,y7,y8,y9,y10,y11,y12)
 | _,_,_=>none
def qNm:Ex->List V->List Obj->Option (LI×LI×Int×LL×LL×List (LI×LI)):=fun e vs objs=>match e,vs,objs with
 | .exit 0,[.s (.mp 1)],[.rcells 72 [.arr .i8 81 y0,.arr .i8 16 y1,.one [.i .i8 y2],.rows [.i .u64,.i .u64] 32 y3,.rows [.i .u64,.i .u64] 2 y4],.map false true [.i .i64] [.i .u64,.i .u64] y5]=>some (y0,y1,y2,y3,y4,y5)
 | _,_,_=>none
def qNr:HL:=fun vs objs K=>match vs,objs with
 | [.s (.ptr 0 0 none 0),.s (.i .i64 x0),.s (.mp 1),.s (.i .i64 x1),.s (.sl 2 0 x2 true),.s (.i .i64 x3),.s (.i .i64 x4),.s (.sl 3 0 x5 true),.s (.i .i64 x6),.s (.i .i64 x7)],[.rcells 72 [.arr .i8 81 x8,.arr .i8 16 x9,.one [.i .i8 x10],.rows [.i .u64,.i .u64] 32 x11,.rows [.i .u64,.i .u64] 2 x12],.map false true [.i .i64] [.i .u64,.i .u64] x13,.sli 3 false (.arr .i64 x14 x15),.sli 3 false (.arr .i64 x16 x17)]=>ob (qE1 qB x0 x1 x2 x3 x4 x5 x6 x7 x8 x9 x10 x11 x12 x13 x14 x15 x16 x17) fun z=>K (.exit 2) ([.s (.ptr 0 0 none 0),.s (.i .i64 (z.1)),.s (.mp 1),.s (.i .i64 (z.2.1)),.s (.sl 2 0 (z.2.2.1) true),.s (.i .i64 (z.2.2.2.1)),.s (.i .i64 (z.2.2.2.2.1))]) ([.rcells 72 [.arr .i8 81 (z.2.2.2.2.2.1),.arr .i8 16 (z.2.2.2.2.2.2.1),.one [.i .i8 (z.2.2.2.2.2.2.2.1)],.rows [.i .u64,.i .u64] 32 (z.2.2.2.2.2.2.2.2.1),.rows [.i .u64,.i .u64] 2 (z.2.2.2.2.2.2.2.2.2.1)],.map false true [.i .i64] [.i .u64,.i .u64] (z.2.2.2.2.2.2.2.2.2.2.1),.sli 3 false (.arr .i64 (z.2.2.2.2.2.2.2.2.2.2.2.1) (z.2.2.2.2.2.2.2.2.2.2.2.2))])
 | _,_=>none
def qNq:HL:=fun vs objs K=>match vs,objs with
 | [.s (.ptr 0 0 none 0),.s (.i .i64 x0),.s (.mp 1),.s (.i .i64 x1),.s (.sl 2 0 x2 true),.s (.i .i64 x3),.s (.i .i64 x4)],[.rcells 72 [.arr .i8 81 x5,.arr .i8 16 x6,.one [.i .i8 x7],.rows [.i .u64,.i .u64] 32 x8,.rows [.i .u64,.i .u64] 2 x9],.map false true [.i .i64] [.i .u64,.i .u64] x10,.sli 3 false (.arr .i64 x11 x12)]=>ob (qE0 qB x0 x1 x2 x3 x4 x5 x6 x7 x8 x9 x10 x11 x12) fun z=>K (.exit 0) ([.s (.mp 1)]) ([.rcells 72 [.arr .i8 81 (z.1),.arr .i8 16 (z.2.1),.one [.i .i8 (z.2.2.1)],.rows [.i .u64,.i .u64] 32 (z.2.2.2.1),.rows [.i .u64,.i .u64] 2 (z.2.2.2.2.1)],.map false true [.i .i64] [.i .u64,.i .u64] (z.2.2.2.2.2)])
 | _,_=>none
def qhl:{R:Type}->Nat->List V->List Obj->(Ex->List V->List Obj->Option R)->Option R:=fun q vs objs K=>bif Nat.beq q 9 then qNr vs objs K else bif Nat.beq q 6 then qNq vs objs K else none
def qG9:Ctx:=mkC 89 ((qEm (qGr (qMO (qJ7 (qGD (qMt (qIb (qOI (qMr (qFw (qHG (qQ5 (qJ6 (qGF (qKh qI)))))))))))))))) [(6,[0,1,5,6,21,22,23],[5]),(9,[0,1,5,6,21,22,23,32,33,34],[0,1,5,6,21,22,23])] qhl
theorem qNl:CtxOK Tryz.prog qG9:=mkC_ok ((qF0 _ (qIc _ (qRA _ (qM2 _ (qHB _ (qSl _ (qJ4 _ (qVB _ (qSj _ (qGn _ (qI2 _ (qa6 _ (qM1 _ (qHE _ (qOE _ qL))))))))))))))))
def qNp (f:Nat) (x0 x1:Int) (x2:Nat) (x3 x4:Int) (x5:Nat) (x6 x7:Int) (x8 x9:LI) (x10:Int) (x11 x12:LL) (x13:List (LI×LI)) (x14:Nat) (x15:LI) (x16:Nat) (x17:LI):Option (Int×Int×Nat×Int×Int×LI×LI×Int×LL×LL×List (LI×LI)×Nat×LI):=qf qG9 1 [0,1,5,6,21,22,23,32,33,34] [0,1,5,6,21,22,23] (qE Tryz.f124 9) f ([.s (.ptr 0 0 none 0),.s (.i .i64 x0),.s (.mp 1),.s (.i .i64 x1),.s (.sl 2 0 x2 true),.s (.i .i64 x3),.s (.i .i64 x4),.s (.sl 3 0 x5 true),.s (.i .i64 x6),.s (.i .i64 x7)]) ([.rcells 72 [.arr .i8 81 x8,.arr .i8 16 x9,.one [.i .i8 x10],.rows [.i .u64,.i .u64] 32 x11,.rows [.i .u64,.i .u64] 2 x12],.map false true [.i .i64] [.i .u64,.i .u64] x13,.sli 3 false (.arr .i64 x14 x15),.sli 3 false (.arr .i64 x16 x17)]) qNo
theorem qhk (f:Nat) (x0 x1:Int) (x2:Nat) (x3 x4:Int) (x5:Nat) (x6 x7:Int) (x8 x9:LI) (x10:Int) (x11 x12:LL) (x13:List (LI×LI)) (x14:Nat) (x15:LI) (x16:Nat) (x17:LI):qNp (f+1) x0 x1 x2 x3 x4 x5 x6 x7 x8 x9 x10 x11 x12 x13 x14 x15 x16 x17=qGB (qNp f) x0 x1 x2 x3 x4 x5 x6 x7 x8 x9 x10 x11 x12 x13 x14 x15 x16 x17:=by kernel_rfl
theorem qUU:∀ f,qNp f=qE1 f
 | 0=>rfl
 | f+1=>by funext x0 x1 x2 x3 x4 x5 x6 x7 x8 x9 x10 x11 x12 x13 x14 x15 x16 x17;rw[qhk,qUU f];rfl
def qNn (f:Nat) (x0 x1:Int) (x2:Nat) (x3 x4:Int) (x5 x6:LI) (x7:Int) (x8 x9:LL) (x10:List (LI×LI)) (x11:Nat) (x12:LI):Option (LI×LI×Int×LL×LL×List (LI×LI)):=qf qG9 1 [0,1,5,6,21,22,23] [5] (qE Tryz.f124 6) f ([.s (.ptr 0 0 none 0),.s (.i .i64 x0),.s (.mp 1),.s (.i .i64 x1),.s (.sl 2 0 x2 true),.s (.i .i64 x3),.s (.i .i64 x4)]) ([.rcells 72 [.arr .i8 81 x5,.arr .i8 16 x6,.one [.i .i8 x7],.rows [.i .u64,.i .u64] 32 x8,.rows [.i .u64,.i .u64] 2 x9],.map false true [.i .i64] [.i .u64,.i .u64] x10,.sli 3 false (.arr .i64 x11 x12)]) qNm
theorem qhj (f:Nat) (x0 x1:Int) (x2:Nat) (x3 x4:Int) (x5 x6:LI) (x7:Int) (x8 x9:LL) (x10:List (LI×LI)) (x11:Nat) (x12:LI):qNn (f+1) x0 x1 x2 x3 x4 x5 x6 x7 x8 x9 x10 x11 x12=qHA (qNn f) x0 x1 x2 x3 x4 x5 x6 x7 x8 x9 x10 x11 x12:=by kernel_rfl
theorem qUT:∀ f,qNn f=qE0 f
 | 0=>rfl
 | f+1=>by funext x0 x1 x2 x3 x4 x5 x6 x7 x8 x9 x10 x11 x12;rw[qhj,qUT f];rfl
theorem qho:qY Tryz.prog qG9 1 (qE Tryz.f124 9):=
 qg mixed qNl (qN.of (l':=[]) (by kernel_rfl) trivial) (q:=9) (kin:=[0,1,5,6,21,22,23,32,33,34]) (kout:=[0,1,5,6,21,22,23]) (by kernel_rfl) (by kernel_rfl) fun vs objs K r h=>by
  replace h:qNr vs objs K=some r:=h
  unfold qNr at h
  split at h
  ·skip
   obtain⟨t,h1,h2⟩:=qD h
   rw[<- qUU] at h1
   refine⟨_,qNo,t,qB,h1,fun e vs' objs' hd=>?_⟩
   unfold qNo at hd;split at hd;(cases hd;exact h2);cases hd
  ·cases h
theorem qhn:qY Tryz.prog qG9 1 (qE Tryz.f124 6):=
 qg mixed qNl (qN.of (l':=[qE Tryz.f124 9]) (by kernel_rfl) ⟨qho,trivial⟩) (q:=6) (kin:=[0,1,5,6,21,22,23]) (kout:=[5]) (by kernel_rfl) (by kernel_rfl) fun vs objs K r h=>by
  replace h:qNq vs objs K=some r:=h
  unfold qNq at h
  split at h
  ·skip
   obtain⟨t,h1,h2⟩:=qD h
   rw[<- qUT] at h1
   refine⟨_,qNm,t,qB,h1,fun e vs' objs' hd=>?_⟩
   unfold qNm at hd;split at hd;(cases hd;exact h2);cases hd
  ·cases h
def qUS:V->List Obj->Option (List (LI×LI)):=fun v objs=>match v,objs with
 | .s (.mp 1),[.map false true [.i .i64] [.i .u64,.i .u64] y0]=>some (y0)
 | _,_=>none
theorem qhi (x0:Int) (x1 x2:LI) (x3:Int) (x4 x5:LL):fnE qG9 Tryz.f124 ([.s (.ptr 0 0 none 0),.s (.i .i64 x0)]) ([.rcells 72 [.arr .i8 81 x1,.arr .i8 16 x2,.one [.i .i8 x3],.rows [.i .u64,.i .u64] 32 x4,.rows [.i .u64,.i .u64] 2 x5]]) (qAG 1 qUS)=qG8 x0 x1 x2 x3 x4 x5:=by kernel_rfl
def qUR:HA:=fun o vs objs K=>match vs,List.map Obj.toRO objs with
 | [.s (.ptr 0 0 none 0),.s (.i .i64 x0)],[.rcells 72 [.arr .i8 81 x1,.arr .i8 16 x2,.one [.i .i8 x3],.rows [.i .u64,.i .u64] 32 x4,.rows [.i .u64,.i .u64] 2 x5]]=>ob (qG8 x0 x1 x2 x3 x4 x5) fun y0=>K true (.s (.mp 1)) ([.map false true [.i .i64] [.i .u64,.i .u64] y0])
 | _,_=>o 124 vs objs K
def qUV (o:Orc):Orc:=qK 124 (qUR o) o
theorem qhm:OQ Tryz.prog qUV:=fun _ ho=>qM ho fun vs objs K r h=>by
 unfold qUR at h
 split at h
 ·skip
  have hq:List.map Obj.toRO objs=_:=(by rename_i hq;first | exact hq | assumption)
  obtain⟨t,h1,h2⟩:=qD h
  refine qAc mixed qNl (m:=1) (fn:=Tryz.f124) (b:=(Tryz.f124).body.getD .skip) (by kernel_rfl) (by kernel_rfl) (by kernel_rfl) hq (by kernel_rfl) (by kernel_rfl) (qN.of (l':=[qE Tryz.f124 6]) (by kernel_rfl) ⟨qhn,trivial⟩) ((qhi _ _ _ _ _ _).trans h1) fun v objs' hd=>?_
  unfold qUS at hd;split at hd;(cases hd;exact h2);cases hd
 ·exact ho _ _ _ _ _ h
def qYR:Ctx:=mkC 44 ((qGs (qQ5 (qMt (qMr (qKX (qUV (qJ3 (qKh qI))))))))) [] qU
theorem qmW:CtxOK Tryz.prog qYR:=mkC_ok ((qIg _ (qa6 _ (qSl _ (qSj _ (qNe _ (qhm _ (qMq _ (qOE _ qL)))))))))
def qYS:V->List Obj->Option (Int×Int×Int×Int×Bool×List (LI×LI)):=fun v objs=>match v,objs with
 | .agg [.one [.ptr 0 0 none 0,.i .i64 y0,.i .i64 y1,.i .u64 y2,.i .u64 y3,.mp 1,.b y4]],[.map false true [.i .i64] [.i .u64,.i .u64] y5]=>some (y0,y1,y2,y3,y4,y5)
 | _,_=>none
theorem qmV (x0 x1:LI) (x2:Int) (x3 x4:LL):fnE qYR Tryz.f95 ([.s (.ptr 0 0 none 0)]) ([.rcells 72 [.arr .i8 81 x0,.arr .i8 16 x1,.one [.i .i8 x2],.rows [.i .u64,.i .u64] 32 x3,.rows [.i .u64,.i .u64] 2 x4]]) (qAG 1 qYS)=qHp x0 x1 x2 x3 x4:=by kernel_rfl
def qYQ:HA:=fun o vs objs K=>match vs,List.map Obj.toRO objs with
 | [.s (.ptr 0 0 none 0)],[.rcells 72 [.arr .i8 81 x0,.arr .i8 16 x1,.one [.i .i8 x2],.rows [.i .u64,.i .u64] 32 x3,.rows [.i .u64,.i .u64] 2 x4]]=>ob (qHp x0 x1 x2 x3 x4) fun z=>K true (.agg [.one [.ptr 0 0 none 0,.i .i64 (z.1),.i .i64 (z.2.1),.i .u64 (z.2.2.1),.i .u64 (z.2.2.2.1),.mp 1,.b (z.2.2.2.2.1)]]) ([.map false true [.i .i64] [.i .u64,.i .u64] (z.2.2.2.2.2)])
 | _,_=>o 95 vs objs K
def qP7 (o:Orc):Orc:=qK 95 (qYQ o) o
theorem qYT:OQ Tryz.prog qP7:=fun _ ho=>qM ho fun vs objs K r h=>by
 unfold qYQ at h
 split at h
 ·skip
  have hq:List.map Obj.toRO objs=_:=(by rename_i hq;first | exact hq | assumption)
  obtain⟨t,h1,h2⟩:=qD h
  refine qAc mixed qmW (m:=1) (fn:=Tryz.f95) (b:=(Tryz.f95).body.getD .skip) (by kernel_rfl) (by kernel_rfl) (by kernel_rfl) hq (by kernel_rfl) (by kernel_rfl) (qN.of (l':=[]) (by kernel_rfl) trivial) ((qmV _ _ _ _ _).trans h1) fun v objs' hd=>?_
  unfold qYS at hd;split at hd;(cases hd;exact h2);cases hd
 ·exact ho _ _ _ _ _ h
def qam:Ctx:=mkC 13 (qI) [] qU
theorem qpZ:CtxOK Tryz.prog qam:=mkC_ok (qL)
def qan:V->List Obj->Option (Int):=fun v objs=>match v,objs with
 | .s (.i .i64 y0),[]=>some (y0)
 | _,_=>none
theorem qpY (x0:Int):fnE qam Tryz.f59 ([.s (.i .i64 x0)]) ([]) qan=qCx x0:=by kernel_rfl
def qal:HA:=fun o vs objs K=>match vs,objs with
 | [.s (.i .i64 x0)],[]=>ob (qCx x0) fun y0=>K false (.s (.i .i64 y0)) ([])
 | _,_=>o 59 vs objs K
def qJg (o:Orc):Orc:=qK 59 (qal o) o
theorem qME:OQ Tryz.prog qJg:=fun _ ho=>qM ho fun vs objs K r h=>by
 unfold qal at h
 split at h
 ·skip
  obtain⟨t,h1,h2⟩:=qD h
  refine qX mixed qpZ ((qpY _).trans h1) (by kernel_rfl) fun v objs' hd=>?_
  unfold qan at hd;split at hd;(cases hd;exact h2);cases hd
 ·exact ho _ _ _ _ _ h
def qTI:Ex->List V->List Obj->Option (Int×Int×Int×Int):=fun e vs objs=>match e,vs,objs with
 | .exit 0,[.s (.ptr 0 0 none 0),.s (.ptr 1 0 none 0)],[.cells 68 [.one [.i .u64 y0,.i .u64 y1]],.cells 68 [.one [.i .u64 y2,.i .u64 y3]]]=>some (y0,y1,y2,y3)
 | _,_,_=>none
def qTK:HL:=fun vs objs K=>match vs,objs with
 | [.s (.i .i64 x0),.s (.ptr 0 0 none 0),.s (.ptr 1 0 none 0),.s (.i .i64 x1)],[.cells 68 [.one [.i .u64 x2,.i .u64 x3]],.cells 68 [.one [.i .u64 x4,.i .u64 x5]]]=>ob (qNC qB x0 x1 x2 x3 x4 x5) fun z=>K (.exit 0) ([.s (.ptr 0 0 none 0),.s (.ptr 1 0 none 0)]) ([.cells 68 [.one [.i .u64 (z.1),.i .u64 (z.2.1)]],.cells 68 [.one [.i .u64 (z.2.2.1),.i .u64 (z.2.2.2)]]])
 | _,_=>none
def quf:{R:Type}->Nat->List V->List Obj->(Ex->List V->List Obj->Option R)->Option R:=fun q vs objs K=>bif Nat.beq q 3 then qTK vs objs K else none
def qNB:Ctx:=mkC 23 ((qEm (qTE qI))) [(3,[0,2,3,6],[2,3])] quf
theorem qfi:CtxOK Tryz.prog qNB:=mkC_ok ((qF0 _ (qfb _ qL)))
def qTJ (f:Nat) (x0 x1:Int) (x2 x3:Int) (x4 x5:Int):Option (Int×Int×Int×Int):=qf qNB 0 [0,2,3,6] [2,3] (qE Tryz.f152 3) f ([.s (.i .i64 x0),.s (.ptr 0 0 none 0),.s (.ptr 1 0 none 0),.s (.i .i64 x1)]) ([.cells 68 [.one [.i .u64 x2,.i .u64 x3]],.cells 68 [.one [.i .u64 x4,.i .u64 x5]]]) qTI
theorem que (f:Nat) (x0 x1:Int) (x2 x3:Int) (x4 x5:Int):qTJ (f+1) x0 x1 x2 x3 x4 x5=qfl (qTJ f) x0 x1 x2 x3 x4 x5:=by kernel_rfl
theorem qfk:∀ f,qTJ f=qNC f
 | 0=>rfl
 | f+1=>by funext x0 x1 x2 x3 x4 x5;rw[que,qfk f];rfl
theorem quh:qY Tryz.prog qNB 0 (qE Tryz.f152 3):=
 qg mixed qfi (qN.of (l':=[]) (by kernel_rfl) trivial) (q:=3) (kin:=[0,2,3,6]) (kout:=[2,3]) (by kernel_rfl) (by kernel_rfl) fun vs objs K r h=>by
  replace h:qTK vs objs K=some r:=h
  unfold qTK at h
  split at h
  ·skip
   obtain⟨t,h1,h2⟩:=qD h
   rw[<- qfk] at h1
   refine⟨_,qTI,t,qB,h1,fun e vs' objs' hd=>?_⟩
   unfold qTI at hd;split at hd;(cases hd;exact h2);cases hd
  ·cases h
def qfj:V->List Obj->Option (Int×Int):=fun v objs=>match v,objs with
 | .agg [.one [.i .u64 y0,.i .u64 y1]],[]=>some (y0,y1)
 | _,_=>none
theorem qud (x0:Int):fnE qNB Tryz.f152 ([.s (.i .i64 x0)]) ([]) qfj=qKB x0:=by kernel_rfl
def qfh:HA:=fun o vs objs K=>match vs,objs with
 | [.s (.i .i64 x0)],[]=>ob (qKB x0) fun z=>K false (.agg [.one [.i .u64 (z.1),.i .u64 (z.2)]]) ([])
 | _,_=>o 152 vs objs K
def qfm (o:Orc):Orc:=qK 152 (qfh o) o
theorem qug:OQ Tryz.prog qfm:=fun _ ho=>qM ho fun vs objs K r h=>by
 unfold qfh at h
 split at h
 ·skip
  obtain⟨t,h1,h2⟩:=qD h
  refine q7 mixed qfi (fn:=Tryz.f152) (b:=(Tryz.f152).body.getD .skip) (by kernel_rfl) (by kernel_rfl) (by kernel_rfl) ((qud _).trans h1) (m:=0) rfl (qN.of (l':=[qE Tryz.f152 3]) (by kernel_rfl) ⟨quh,trivial⟩) fun v objs' hd=>?_
  unfold qfj at hd;split at hd;(cases hd;exact h2);cases hd
 ·exact ho _ _ _ _ _ h
def qXC:Ctx:=mkC 27 ((qM9 (qGr (qfm (qDo (qJg (qCv qI))))))) [] qU
theorem qlC:CtxOK Tryz.prog qXC:=mkC_ok ((qTA _ (qIc _ (qug _ (qEa _ (qME _ (qDF _ qL)))))))
def qXD:V->List Obj->Option (Bool×Bool):=fun v objs=>match v,objs with
 | .tup [W.s (.b y0),W.s (.b y1)],[]=>some (y0,y1)
 | _,_=>none
theorem qlB (x0 x1 x2:Int):fnE qXC Tryz.f132 ([.s (.i .i8 x0),.s (.i .i64 x1),.s (.i .i64 x2)]) ([]) qXD=qJN x0 x1 x2:=by kernel_rfl
def qXB:HA:=fun o vs objs K=>match vs,objs with
 | [.s (.i .i8 x0),.s (.i .i64 x1),.s (.i .i64 x2)],[]=>ob (qJN x0 x1 x2) fun z=>K false (.tup [W.s (.b (z.1)),W.s (.b (z.2))]) ([])
 | _,_=>o 132 vs objs K
def qXE (o:Orc):Orc:=qK 132 (qXB o) o
theorem qlD:OQ Tryz.prog qXE:=fun _ ho=>qM ho fun vs objs K r h=>by
 unfold qXB at h
 split at h
 ·skip
  obtain⟨t,h1,h2⟩:=qD h
  refine qX mixed qlC ((qlB _ _ _).trans h1) (by kernel_rfl) fun v objs' hd=>?_
  unfold qXD at hd;split at hd;(cases hd;exact h2);cases hd
 ·exact ho _ _ _ _ _ h
def qO6:Ex->List V->List Obj->Option (Nat×Int×Nat×Int×Int×LI×LI×Int×LL×LL×Int×Int×Nat×LL×Int×Int×Nat×LI):=fun e vs objs=>match e,vs,objs with
 | .exit 2,[.s (.ptr 0 0 none 0),.s (.ptr 1 0 none 0),.s (.sl 2 0 y0 true),.s (.i .i64 y1),.s (.ptr 3 0 none 0),.s (.sl 4 0 y2 true),.s (.i .i64 y3),.s (.i .i64 y4)],[.rcells 72 [.arr .i8 81 y5,.arr .i8 16 y6,.one [.i .i8 y7],.rows [.i .u64,.i .u64] 32 y8,.rows [.i .u64,.i .u64] 2 y9],.cells 68 [.one [.i .u64 y10,.i .u64 y11]],.sli 37 false (.rows [.i .i64,.i .i64,.i .i64,.b] y12 y13),.cells 68 [.one [.i .u64 y14,.i .u64 y15]],.sli 3 false (.arr .i64 y16 y17)]=>some (y0,y1,y2,y3,y4,y5,y6,y7,y8,y9,y10,y11,y12,y13,y14,y15,y16,y17)
 | _,_,_=>none
def qO4:Ex->List V->List Obj->Option (Nat×LI×LI×Int×LL×LL×Nat×LL):=fun e vs objs=>match e,vs,objs with
 | .exit 0,[.s (.sl 1 0 y0 true)],[.rcells 72 [.arr .i8 81 y1,.arr .i8 16 y2,.one [.i .i8 y3],.rows [.i .u64,.i .u64] 32 y4,.rows [.i .u64,.i .u64] 2 y5],.sli 37 false (.rows [.i .i64,.i .i64,.i .i64,.b] y6 y7)]=>some (y0,y1,y2,y3,y4,y5,y6,y7)
 | _,_,_=>none
def qPA:HL:=fun vs objs K=>match vs,objs with
 | [.s (.ptr 0 0 none 0),.s (.ptr 1 0 none 0),.s (.sl 2 0 x0 true),.s (.i .i64 x1),.s (.ptr 3 0 none 0),.s (.i .i64 x2),.s (.i .i8 x3),.s (.sl 4 0 x4 true),.s (.i .i64 x5),.s (.i .i64 x6),.s (.sl 5 0 x7 true),.s (.i .i64 x8),.s (.i .i64 x9)],[.rcells 72 [.arr .i8 81 x10,.arr .i8 16 x11,.one [.i .i8 x12],.rows [.i .u64,.i .u64] 32 x13,.rows [.i .u64,.i .u64] 2 x14],.cells 68 [.one [.i .u64 x15,.i .u64 x16]],.sli 37 false (.rows [.i .i64,.i .i64,.i .i64,.b] x17 x18),.cells 68 [.one [.i .u64 x19,.i .u64 x20]],.sli 3 false (.arr .i64 x21 x22),.sli 3 false (.arr .i64 x23 x24)]=>ob (qFH qB x0 x1 x2 x3 x4 x5 x6 x7 x8 x9 x10 x11 x12 x13 x14 x15 x16 x17 x18 x19 x20 x21 x22 x23 x24) fun z=>K (.exit 2) ([.s (.ptr 0 0 none 0),.s (.ptr 1 0 none 0),.s (.sl 2 0 (z.1) true),.s (.i .i64 (z.2.1)),.s (.ptr 3 0 none 0),.s (.sl 4 0 (z.2.2.1) true),.s (.i .i64 (z.2.2.2.1)),.s (.i .i64 (z.2.2.2.2.1))]) ([.rcells 72 [.arr .i8 81 (z.2.2.2.2.2.1),.arr .i8 16 (z.2.2.2.2.2.2.1),.one [.i .i8 (z.2.2.2.2.2.2.2.1)],.rows [.i .u64,.i .u64] 32 (z.2.2.2.2.2.2.2.2.1),.rows [.i .u64,.i .u64] 2 (z.2.2.2.2.2.2.2.2.2.1)],.cells 68 [.one [.i .u64 (z.2.2.2.2.2.2.2.2.2.2.1),.i .u64 (z.2.2.2.2.2.2.2.2.2.2.2.1)]],.sli 37 false (.rows [.i .i64,.i .i64,.i .i64,.b] (z.2.2.2.2.2.2.2.2.2.2.2.2.1) (z.2.2.2.2.2.2.2.2.2.2.2.2.2.1)),.cells 68 [.one [.i .u64 (z.2.2.2.2.2.2.2.2.2.2.2.2.2.2.1),.i .u64 (z.2.2.2.2.2.2.2.2.2.2.2.2.2.2.2.1)]],.sli 3 false (.arr .i64 (z.2.2.2.2.2.2.2.2.2.2.2.2.2.2.2.2.1) (z.2.2.2.2.2.2.2.2.2.2.2.2.2.2.2.2.2))])
 | _,_=>none
def qO9:HL:=fun vs objs K=>match vs,objs with
 | [.s (.ptr 0 0 none 0),.s (.ptr 1 0 none 0),.s (.sl 2 0 x0 true),.s (.i .i64 x1),.s (.ptr 3 0 none 0),.s (.sl 4 0 x2 true),.s (.i .i64 x3),.s (.i .i64 x4)],[.rcells 72 [.arr .i8 81 x5,.arr .i8 16 x6,.one [.i .i8 x7],.rows [.i .u64,.i .u64] 32 x8,.rows [.i .u64,.i .u64] 2 x9],.cells 68 [.one [.i .u64 x10,.i .u64 x11]],.sli 37 false (.rows [.i .i64,.i .i64,.i .i64,.b] x12 x13),.cells 68 [.one [.i .u64 x14,.i .u64 x15]],.sli 3 false (.arr .i64 x16 x17)]=>ob (qFG qB x0 x1 x2 x3 x4 x5 x6 x7 x8 x9 x10 x11 x12 x13 x14 x15 x16 x17) fun z=>K (.exit 0) ([.s (.sl 1 0 (z.1) true)]) ([.rcells 72 [.arr .i8 81 (z.2.1),.arr .i8 16 (z.2.2.1),.one [.i .i8 (z.2.2.2.1)],.rows [.i .u64,.i .u64] 32 (z.2.2.2.2.1),.rows [.i .u64,.i .u64] 2 (z.2.2.2.2.2.1)],.sli 37 false (.rows [.i .i64,.i .i64,.i .i64,.b] (z.2.2.2.2.2.2.1) (z.2.2.2.2.2.2.2))])
 | _,_=>none
def qkw:{R:Type}->Nat->List V->List Obj->(Ex->List V->List Obj->Option R)->Option R:=fun q vs objs K=>bif Nat.beq q 9 then qPA vs objs K else bif Nat.beq q 5 then qO9 vs objs K else none
def qHW:Ctx:=mkC 82 ((qXE (qFw (qMw (qMO (qHG (qGD (qJ6 (qOI (qGs (qGF qI))))))))))) [(5,[0,3,5,6,7,29,30,31],[5]),(9,[0,3,5,6,7,9,10,29,30,31,51,52,53],[0,3,5,6,7,29,30,31])] qkw
theorem qO3:CtxOK Tryz.prog qHW:=mkC_ok ((qlD _ (qGn _ (qSq _ (qRA _ (qI2 _ (qHB _ (qM1 _ (qVB _ (qIg _ (qHE _ qL)))))))))))
def qO7 (f:Nat) (x0:Nat) (x1 x2 x3:Int) (x4:Nat) (x5 x6:Int) (x7:Nat) (x8 x9:Int) (x10 x11:LI) (x12:Int) (x13 x14:LL) (x15 x16:Int) (x17:Nat) (x18:LL) (x19 x20:Int) (x21:Nat) (x22:LI) (x23:Nat) (x24:LI):Option (Nat×Int×Nat×Int×Int×LI×LI×Int×LL×LL×Int×Int×Nat×LL×Int×Int×Nat×LI):=qf qHW 1 [0,3,5,6,7,9,10,29,30,31,51,52,53] [0,3,5,6,7,29,30,31] (qE Tryz.f96 9) f ([.s (.ptr 0 0 none 0),.s (.ptr 1 0 none 0),.s (.sl 2 0 x0 true),.s (.i .i64 x1),.s (.ptr 3 0 none 0),.s (.i .i64 x2),.s (.i .i8 x3),.s (.sl 4 0 x4 true),.s (.i .i64 x5),.s (.i .i64 x6),.s (.sl 5 0 x7 true),.s (.i .i64 x8),.s (.i .i64 x9)]) ([.rcells 72 [.arr .i8 81 x10,.arr .i8 16 x11,.one [.i .i8 x12],.rows [.i .u64,.i .u64] 32 x13,.rows [.i .u64,.i .u64] 2 x14],.cells 68 [.one [.i .u64 x15,.i .u64 x16]],.sli 37 false (.rows [.i .i64,.i .i64,.i .i64,.b] x17 x18),.cells 68 [.one [.i .u64 x19,.i .u64 x20]],.sli 3 false (.arr .i64 x21 x22),.sli 3 false (.arr .i64 x23 x24)]) qO6
theorem qkv (f:Nat) (x0:Nat) (x1 x2 x3:Int) (x4:Nat) (x5 x6:Int) (x7:Nat) (x8 x9:Int) (x10 x11:LI) (x12:Int) (x13 x14:LL) (x15 x16:Int) (x17:Nat) (x18:LL) (x19 x20:Int) (x21:Nat) (x22:LI) (x23:Nat) (x24:LI):qO7 (f+1) x0 x1 x2 x3 x4 x5 x6 x7 x8 x9 x10 x11 x12 x13 x14 x15 x16 x17 x18 x19 x20 x21 x22 x23 x24=qHY (qO7 f) x0 x1 x2 x3 x4 x5 x6 x7 x8 x9 x10 x11 x12 x13 x14 x15 x16 x17 x18 x19 x20 x21 x22 x23 x24:=by kernel_rfl
theorem qWz:∀ f,qO7 f=qFH f
 | 0=>rfl
 | f+1=>by funext x0 x1 x2 x3 x4 x5 x6 x7 x8 x9 x10 x11 x12 x13 x14 x15 x16 x17 x18 x19 x20 x21 x22 x23 x24;rw[qkv,qWz f];rfl
def qO5 (f:Nat) (x0:Nat) (x1:Int) (x2:Nat) (x3 x4:Int) (x5 x6:LI) (x7:Int) (x8 x9:LL) (x10 x11:Int) (x12:Nat) (x13:LL) (x14 x15:Int) (x16:Nat) (x17:LI):Option (Nat×LI×LI×Int×LL×LL×Nat×LL):=qf qHW 1 [0,3,5,6,7,29,30,31] [5] (qE Tryz.f96 5) f ([.s (.ptr 0 0 none 0),.s (.ptr 1 0 none 0),.s (.sl 2 0 x0 true),.s (.i .i64 x1),.s (.ptr 3 0 none 0),.s (.sl 4 0 x2 true),.s (.i .i64 x3),.s (.i .i64 x4)]) ([.rcells 72 [.arr .i8 81 x5,.arr .i8 16 x6,.one [.i .i8 x7],.rows [.i .u64,.i .u64] 32 x8,.rows [.i .u64,.i .u64] 2 x9],.cells 68 [.one [.i .u64 x10,.i .u64 x11]],.sli 37 false (.rows [.i .i64,.i .i64,.i .i64,.b] x12 x13),.cells 68 [.one [.i .u64 x14,.i .u64 x15]],.sli 3 false (.arr .i64 x16 x17)]) qO4
theorem qku (f:Nat) (x0:Nat) (x1:Int) (x2:Nat) (x3 x4:Int) (x5 x6:LI) (x7:Int) (x8 x9:LL) (x10 x11:Int) (x12:Nat) (x13:LL) (x14 x15:Int) (x16:Nat) (x17:LI):qO5 (f+1) x0 x1 x2 x3 x4 x5 x6 x7 x8 x9 x10 x11 x12 x13 x14 x15 x16 x17=qHX (qO5 f) x0 x1 x2 x3 x4 x5 x6 x7 x8 x9 x10 x11 x12 x13 x14 x15 x16 x17:=by kernel_rfl
theorem qWy:∀ f,qO5 f=qFG f
 | 0=>rfl
 | f+1=>by funext x0 x1 x2 x3 x4 x5 x6 x7 x8 x9 x10 x11 x12 x13 x14 x15 x16 x17;rw[qku,qWy f];rfl
theorem qky:qY Tryz.prog qHW 1 (qE Tryz.f96 9):=
 qg mixed qO3 (qN.of (l':=[]) (by kernel_rfl) trivial) (q:=9) (kin:=[0,3,5,6,7,9,10,29,30,31,51,52,53]) (kout:=[0,3,5,6,7,29,30,31]) (by kernel_rfl) (by kernel_rfl) fun vs objs K r h=>by
  replace h:qPA vs objs K=some r:=h
  unfold qPA at h
  split at h
  ·skip
   obtain⟨t,h1,h2⟩:=qD h
   rw[<- qWz] at h1
   refine⟨_,qO6,t,qB,h1,fun e vs' objs' hd=>?_⟩
   unfold qO6 at hd;split at hd;(cases hd;exact h2);cases hd
  ·cases h
theorem qkx:qY Tryz.prog qHW 1 (qE Tryz.f96 5):=
 qg mixed qO3 (qN.of (l':=[qE Tryz.f96 9]) (by kernel_rfl) ⟨qky,trivial⟩) (q:=5) (kin:=[0,3,5,6,7,29,30,31]) (kout:=[5]) (by kernel_rfl) (by kernel_rfl) fun vs objs K r h=>by
  replace h:qO9 vs objs K=some r:=h
  unfold qO9 at h
  split at h
  ·skip
   obtain⟨t,h1,h2⟩:=qD h
   rw[<- qWy] at h1
   refine⟨_,qO4,t,qB,h1,fun e vs' objs' hd=>?_⟩
   unfold qO4 at hd;split at hd;(cases hd;exact h2);cases hd
  ·cases h
def qWx:V->List Obj->Option (Nat×Nat×LL):=fun v objs=>match v,objs with
 | .s (.sl 1 0 y0 true),[.sli 37 false (.rows [.i .i64,.i .i64,.i .i64,.b] y1 y2)]=>some (y0,y1,y2)
 | _,_=>none
theorem qkt (x0 x1:Int) (x2 x3:LI) (x4:Int) (x5 x6:LL):fnE qHW Tryz.f96 ([.s (.ptr 0 0 none 0),.agg [.one [.i .u64 x0,.i .u64 x1]]]) ([.rcells 72 [.arr .i8 81 x2,.arr .i8 16 x3,.one [.i .i8 x4],.rows [.i .u64,.i .u64] 32 x5,.rows [.i .u64,.i .u64] 2 x6]]) (qAG 1 qWx)=qHV x0 x1 x2 x3 x4 x5 x6:=by kernel_rfl
def qWw:HA:=fun o vs objs K=>match vs,List.map Obj.toRO objs with
 | [.s (.ptr 0 0 none 0),.agg [.one [.i .u64 x0,.i .u64 x1]]],[.rcells 72 [.arr .i8 81 x2,.arr .i8 16 x3,.one [.i .i8 x4],.rows [.i .u64,.i .u64] 32 x5,.rows [.i .u64,.i .u64] 2 x6]]=>ob (qHV x0 x1 x2 x3 x4 x5 x6) fun z=>K true (.s (.sl 1 0 (z.1) true)) ([.sli 37 false (.rows [.i .i64,.i .i64,.i .i64,.b] (z.2.1) (z.2.2))])
 | _,_=>o 96 vs objs K
def qO8 (o:Orc):Orc:=qK 96 (qWw o) o
theorem qW0:OQ Tryz.prog qO8:=fun _ ho=>qM ho fun vs objs K r h=>by
 unfold qWw at h
 split at h
 ·skip
  have hq:List.map Obj.toRO objs=_:=(by rename_i hq;first | exact hq | assumption)
  obtain⟨t,h1,h2⟩:=qD h
  refine qAc mixed qO3 (m:=1) (fn:=Tryz.f96) (b:=(Tryz.f96).body.getD .skip) (by kernel_rfl) (by kernel_rfl) (by kernel_rfl) hq (by kernel_rfl) (by kernel_rfl) (qN.of (l':=[qE Tryz.f96 5]) (by kernel_rfl) ⟨qkx,trivial⟩) ((qkt _ _ _ _ _ _ _).trans h1) fun v objs' hd=>?_
  unfold qWx at hd;split at hd;(cases hd;exact h2);cases hd
 ·exact ho _ _ _ _ _ h
def qYV:Ctx:=mkC 49 ((qGr (qIb (qNj (qJ7 (qHG qI)))))) [] qU
theorem qmY:CtxOK Tryz.prog qYV:=mkC_ok ((qIc _ (qJ4 _ (qUQ _ (qM2 _ (qI2 _ qL))))))
def qYW:V->List Obj->Option (Bool×LI×LI×Int×LL×LL×List (LI×LI)):=fun v objs=>match v,objs with
 | .s (.b y0),[.cells 72 [.arr .i8 81 y1,.arr .i8 16 y2,.one [.i .i8 y3],.rows [.i .u64,.i .u64] 32 y4,.rows [.i .u64,.i .u64] 2 y5],.map false true [.i .i64] [.i .u64,.i .u64] y6]=>some (y0,y1,y2,y3,y4,y5,y6)
 | _,_=>none
theorem qmX (x0 x1:Int) (x2 x3:Int) (x4:Bool) (x5 x6 x7:Int) (x8:Bool) (x9 x10:LI) (x11:Int) (x12 x13:LL) (x14:List (LI×LI)):fnE qYV Tryz.f98 ([.agg [.one [.ptr 0 0 none 0,.i .i64 x0,.i .i64 x1,.i .u64 x2,.i .u64 x3,.mp 1,.b x4]],.agg [.one [.i .i64 x5,.i .i64 x6,.i .i64 x7,.b x8]]]) ([.cells 72 [.arr .i8 81 x9,.arr .i8 16 x10,.one [.i .i8 x11],.rows [.i .u64,.i .u64] 32 x12,.rows [.i .u64,.i .u64] 2 x13],.map false true [.i .i64] [.i .u64,.i .u64] x14]) qYW=qHq x0 x1 x2 x3 x4 x5 x6 x7 x8 x9 x10 x11 x12 x13 x14:=by kernel_rfl
def qYU:HA:=fun o vs objs K=>match vs,objs with
 | [.agg [.one [.ptr 0 0 none 0,.i .i64 x0,.i .i64 x1,.i .u64 x2,.i .u64 x3,.mp 1,.b x4]],.agg [.one [.i .i64 x5,.i .i64 x6,.i .i64 x7,.b x8]]],[.cells 72 [.arr .i8 81 x9,.arr .i8 16 x10,.one [.i .i8 x11],.rows [.i .u64,.i .u64] 32 x12,.rows [.i .u64,.i .u64] 2 x13],.map false true [.i .i64] [.i .u64,.i .u64] x14]=>ob (qHq x0 x1 x2 x3 x4 x5 x6 x7 x8 x9 x10 x11 x12 x13 x14) fun z=>K false (.s (.b (z.1))) ([.cells 72 [.arr .i8 81 (z.2.1),.arr .i8 16 (z.2.2.1),.one [.i .i8 (z.2.2.2.1)],.rows [.i .u64,.i .u64] 32 (z.2.2.2.2.1),.rows [.i .u64,.i .u64] 2 (z.2.2.2.2.2.1)],.map false true [.i .i64] [.i .u64,.i .u64] (z.2.2.2.2.2.2)])
 | _,_=>o 98 vs objs K
def qP8 (o:Orc):Orc:=qK 98 (qYU o) o
theorem qYX:OQ Tryz.prog qP8:=fun _ ho=>qM ho fun vs objs K r h=>by
 unfold qYU at h
 split at h
 ·skip
  obtain⟨t,h1,h2⟩:=qD h
  refine qX mixed qmY ((qmX _ _ _ _ _ _ _ _ _ _ _ _ _ _ _).trans h1) (by kernel_rfl) fun v objs' hd=>?_
  unfold qYW at hd;split at hd;(cases hd;exact h2);cases hd
 ·exact ho _ _ _ _ _ h
def qUw:Ctx:=mkC 31 (qI) [] qU
theorem qiT:CtxOK Tryz.prog qUw:=mkC_ok (qL)
def qUx:V->List Obj->Option (Int):=fun v objs=>match v,objs with
 | .s (.i .i64 y0),[]=>some (y0)
 | _,_=>none
theorem qiS (x0 x1:Int) (x2 x3:LI) (x4:Int) (x5 x6:LL):fnE qUw Tryz.f101 ([.s (.ptr 0 0 none 0),.s (.i .i64 x0),.s (.i .i64 x1)]) ([.rcells 72 [.arr .i8 81 x2,.arr .i8 16 x3,.one [.i .i8 x4],.rows [.i .u64,.i .u64] 32 x5,.rows [.i .u64,.i .u64] 2 x6]]) (qAG 1 qUx)=qCi x0 x1 x2 x3 x4 x5 x6:=by kernel_rfl
def qUv:HA:=fun o vs objs K=>match vs,List.map Obj.toRO objs with
 | [.s (.ptr 0 0 none 0),.s (.i .i64 x0),.s (.i .i64 x1)],[.rcells 72 [.arr .i8 81 x2,.arr .i8 16 x3,.one [.i .i8 x4],.rows [.i .u64,.i .u64] 32 x5,.rows [.i .u64,.i .u64] 2 x6]]=>ob (qCi x0 x1 x2 x3 x4 x5 x6) fun y0=>K true (.s (.i .i64 y0)) ([])
 | _,_=>o 101 vs objs K
def qKg (o:Orc):Orc:=qK 101 (qUv o) o
theorem qOD:OQ Tryz.prog qKg:=fun _ ho=>qM ho fun vs objs K r h=>by
 unfold qUv at h
 split at h
 ·skip
  have hq:List.map Obj.toRO objs=_:=(by rename_i hq;first | exact hq | assumption)
  obtain⟨t,h1,h2⟩:=qD h
  refine qAc mixed qiT (m:=1) (fn:=Tryz.f101) (b:=(Tryz.f101).body.getD .skip) (by kernel_rfl) (by kernel_rfl) (by kernel_rfl) hq (by kernel_rfl) (by kernel_rfl) (qN.of (l':=[]) (by kernel_rfl) trivial) ((qiS _ _ _ _ _ _ _).trans h1) fun v objs' hd=>?_
  unfold qUx at hd;split at hd;(cases hd;exact h2);cases hd
 ·exact ho _ _ _ _ _ h
def qeh:Ctx:=mkC 6 ((qMw (qJ3 qI))) [] qU
theorem qtV:CtxOK Tryz.prog qeh:=mkC_ok ((qSq _ (qMq _ qL)))
def qei:V->List Obj->Option (Int×Int):=fun v objs=>match v,objs with
 | .agg [.one [.i .u64 y0,.i .u64 y1]],[]=>some (y0,y1)
 | _,_=>none
theorem qtU (x0 x1:Int):fnE qeh Tryz.f153 ([.agg [.one [.i .u64 x0,.i .u64 x1]]]) ([]) qei=qJ5 x0 x1:=by kernel_rfl
def qeg:HA:=fun o vs objs K=>match vs,objs with
 | [.agg [.one [.i .u64 x0,.i .u64 x1]]],[]=>ob (qJ5 x0 x1) fun z=>K false (.agg [.one [.i .u64 (z.1),.i .u64 (z.2)]]) ([])
 | _,_=>o 153 vs objs K
def qej (o:Orc):Orc:=qK 153 (qeg o) o
theorem qtW:OQ Tryz.prog qej:=fun _ ho=>qM ho fun vs objs K r h=>by
 unfold qeg at h
 split at h
 ·skip
  obtain⟨t,h1,h2⟩:=qD h
  refine qX mixed qtV ((qtU _ _).trans h1) (by kernel_rfl) fun v objs' hd=>?_
  unfold qei at hd;split at hd;(cases hd;exact h2);cases hd
 ·exact ho _ _ _ _ _ h
end
end Go.Kk.KkLN
