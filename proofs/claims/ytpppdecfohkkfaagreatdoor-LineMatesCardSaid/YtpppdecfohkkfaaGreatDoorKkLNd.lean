/- Printed by a tool of this project (KkGen): the program's functions come to the plain ones. -/
import Derived.Test.YtpppdecfohkkfaaGreatDoorKkLNc
namespace Go.Kk.KkLN
noncomputable section
open Go.Proofs Go.Kk.Pl
set_option maxRecDepth 100000
set_option maxHeartbeats 4000000
def qgJ:Ctx:=mkC 8 (qI) [] qU
theorem qvB:CtxOK Tryz.prog qgJ:=mkC_ok (qL)
def qgK:V->List Obj->Option (Int):=fun v objs=>match v,objs with
 | .s (.i .i64 y0),[]=>some (y0)
 | _,_=>none
theorem qvA (x0:ByteArray) (x1:Int):fnE qgJ Tryz.f155 ([.s (.str x0),.s (.i .u8 x1)]) ([]) qgK=qTd x0 x1:=by kernel_rfl
def qgI:HA:=fun o vs objs K=>match vs,objs with
 | [.s (.str x0),.s (.i .u8 x1)],[]=>ob (qTd x0 x1) fun y0=>K false (.s (.i .i64 y0)) ([])
 | _,_=>o 155 vs objs K
def qgL (o:Orc):Orc:=qK 155 (qgI o) o
theorem qvC:OQ Tryz.prog qgL:=fun _ ho=>qM ho fun vs objs K r h=>by
 unfold qgI at h
 split at h
 ·skip
  obtain⟨t,h1,h2⟩:=qD h
  refine qX mixed qvB ((qvA _ _).trans h1) (by kernel_rfl) fun v objs' hd=>?_
  unfold qgK at hd;split at hd;(cases hd;exact h2);cases hd
 ·exact ho _ _ _ _ _ h
def qTe:Ctx:=mkC 143 ((qgL qI)) [(15,[0,1,5,6,7,8,9,10],[4])] qU
theorem qgN:CtxOK Tryz.prog qTe:=mkC_ok ((qvC _ qL))
theorem qvF:qY Tryz.prog qTe 0 (qE Tryz.f141 15):=
 qg mixed qgN (qN.of (l':=[]) (by kernel_rfl) trivial) (q:=15) (kin:=[0,1,5,6,7,8,9,10]) (kout:=[4]) (by kernel_rfl) (by kernel_rfl) fun vs objs K r h=>by
  replace h:none=some r:=h
  cases h
def qgO:V->List Obj->Option (Int):=fun v objs=>match v,objs with
 | .s (.i .i64 y0),[]=>some (y0)
 | _,_=>none
theorem qvD (x0 x1:ByteArray):fnE qTe Tryz.f141 ([.s (.str x0),.s (.str x1)]) ([]) qgO=qTc x0 x1:=by kernel_rfl
def qgM:HA:=fun o vs objs K=>match vs,objs with
 | [.s (.str x0),.s (.str x1)],[]=>ob (qTc x0 x1) fun y0=>K false (.s (.i .i64 y0)) ([])
 | _,_=>o 141 vs objs K
def qgP (o:Orc):Orc:=qK 141 (qgM o) o
theorem qvE:OQ Tryz.prog qgP:=fun _ ho=>qM ho fun vs objs K r h=>by
 unfold qgM at h
 split at h
 ·skip
  obtain⟨t,h1,h2⟩:=qD h
  refine q7 mixed qgN (fn:=Tryz.f141) (b:=(Tryz.f141).body.getD .skip) (by kernel_rfl) (by kernel_rfl) (by kernel_rfl) ((qvD _ _).trans h1) (m:=0) rfl (qN.of (l':=[qE Tryz.f141 15]) (by kernel_rfl) ⟨qvF,trivial⟩) fun v objs' hd=>?_
  unfold qgO at hd;split at hd;(cases hd;exact h2);cases hd
 ·exact ho _ _ _ _ _ h
def qfw:Ctx:=mkC 8 ((qgP qI)) [] qU
theorem qut:CtxOK Tryz.prog qfw:=mkC_ok ((qvE _ qL))
def qfx:V->List Obj->Option (Int):=fun v objs=>match v,objs with
 | .s (.i .i64 y0),[]=>some (y0)
 | _,_=>none
theorem qus (x0 x1:ByteArray):fnE qfw Tryz.f110 ([.s (.str x0),.s (.str x1)]) ([]) qfx=qNG x0 x1:=by kernel_rfl
def qfv:HA:=fun o vs objs K=>match vs,objs with
 | [.s (.str x0),.s (.str x1)],[]=>ob (qNG x0 x1) fun y0=>K false (.s (.i .i64 y0)) ([])
 | _,_=>o 110 vs objs K
def qTS (o:Orc):Orc:=qK 110 (qfv o) o
theorem qfy:OQ Tryz.prog qTS:=fun _ ho=>qM ho fun vs objs K r h=>by
 unfold qfv at h
 split at h
 ·skip
  obtain⟨t,h1,h2⟩:=qD h
  refine qX mixed qut ((qus _ _).trans h1) (by kernel_rfl) fun v objs' hd=>?_
  unfold qfx at hd;split at hd;(cases hd;exact h2);cases hd
 ·exact ho _ _ _ _ _ h
def qTP:Ex->List V->List Obj->Option (Int):=fun e vs objs=>match e,vs,objs with
 | .ret,[.s (.i .i64 y0)],[]=>some (y0)
 | _,_,_=>none
def qTR:HL:=fun vs objs K=>match vs,objs with
 | [.s (.str x0),.s (.str x1),.s (.i .i64 x2)],[]=>ob (qNF qB x0 x1 x2) fun y0=>K (.ret) ([.s (.i .i64 y0)]) ([])
 | _,_=>none
def qup:{R:Type}->Nat->List V->List Obj->(Ex->List V->List Obj->Option R)->Option R:=fun q vs objs K=>bif Nat.beq q 6 then qTR vs objs K else none
def qNE:Ctx:=mkC 34 ((qTS (qTu qI))) [(6,[0,1,5],[4])] qup
theorem qfq:CtxOK Tryz.prog qNE:=mkC_ok ((qfy _ (qgm _ qL)))
def qTQ (f:Nat) (x0 x1:ByteArray) (x2:Int):Option (Int):=qf qNE 0 [0,1,5] [4] (qE Tryz.f109 6) f ([.s (.str x0),.s (.str x1),.s (.i .i64 x2)]) ([]) qTP
theorem qun (f:Nat) (x0 x1:ByteArray) (x2:Int):qTQ (f+1) x0 x1 x2=qft (qTQ f) x0 x1 x2:=by kernel_rfl
theorem qfs:∀ f,qTQ f=qNF f
 | 0=>rfl
 | f+1=>by funext x0 x1 x2;rw[qun,qfs f];rfl
theorem qur:qY Tryz.prog qNE 0 (qE Tryz.f109 6):=
 qg mixed qfq (qN.of (l':=[]) (by kernel_rfl) trivial) (q:=6) (kin:=[0,1,5]) (kout:=[4]) (by kernel_rfl) (by kernel_rfl) fun vs objs K r h=>by
  replace h:qTR vs objs K=some r:=h
  unfold qTR at h
  split at h
  ·skip
   obtain⟨t,h1,h2⟩:=qD h
   rw[<- qfs] at h1
   refine⟨_,qTP,t,qB,h1,fun e vs' objs' hd=>?_⟩
   unfold qTP at hd;split at hd;(cases hd;exact h2);cases hd
  ·cases h
def qfr:V->List Obj->Option (Int):=fun v objs=>match v,objs with
 | .s (.i .i64 y0),[]=>some (y0)
 | _,_=>none
theorem qum (x0 x1:ByteArray):fnE qNE Tryz.f109 ([.s (.str x0),.s (.str x1)]) ([]) qfr=qTO x0 x1:=by kernel_rfl
def qfp:HA:=fun o vs objs K=>match vs,objs with
 | [.s (.str x0),.s (.str x1)],[]=>ob (qTO x0 x1) fun y0=>K false (.s (.i .i64 y0)) ([])
 | _,_=>o 109 vs objs K
def qfu (o:Orc):Orc:=qK 109 (qfp o) o
theorem quq:OQ Tryz.prog qfu:=fun _ ho=>qM ho fun vs objs K r h=>by
 unfold qfp at h
 split at h
 ·skip
  obtain⟨t,h1,h2⟩:=qD h
  refine q7 mixed qfq (fn:=Tryz.f109) (b:=(Tryz.f109).body.getD .skip) (by kernel_rfl) (by kernel_rfl) (by kernel_rfl) ((qum _ _).trans h1) (m:=0) rfl (qN.of (l':=[qE Tryz.f109 6]) (by kernel_rfl) ⟨qur,trivial⟩) fun v objs' hd=>?_
  unfold qfr at hd;split at hd;(cases hd;exact h2);cases hd
 ·exact ho _ _ _ _ _ h
def qTZ:Ex->List V->List Obj->Option (ByteArray×Nat×Int×Nat×LL):=fun e vs objs=>match e,vs,objs with
 | .exit 0,[.s (.str y0),.s (.sl 0 0 y1 true),.s (.i .i64 y2)],[.sli 9 false (.rows [CK.s] y3 y4)]=>some (y0,y1,y2,y3,y4)
 | _,_,_=>none
def qTb:HL:=fun vs objs K=>match vs,objs with
 | [.s (.str x0),.s (.str x1),.s (.i .i64 x2),.s (.i .i64 x3),.s (.sl 0 0 x4 true),.s (.i .i64 x5)],[.sli 9 false (.rows [CK.s] x6 x7)]=>ob (qKD qB x0 x1 x2 x3 x4 x5 x6 x7) fun z=>K (.exit 0) ([.s (.str (z.1)),.s (.sl 0 0 (z.2.1) true),.s (.i .i64 (z.2.2.1))]) ([.sli 9 false (.rows [CK.s] (z.2.2.2.1) (z.2.2.2.2))])
 | _,_=>none
def qu7:{R:Type}->Nat->List V->List Obj->(Ex->List V->List Obj->Option R)->Option R:=fun q vs objs K=>bif Nat.beq q 11 then qTb vs objs K else none
def qNI:Ctx:=mkC 66 ((qTS (qfu (qgB qI)))) [(11,[0,1,2,3,9,10],[0,9,10])] qu7
theorem qgD:CtxOK Tryz.prog qNI:=mkC_ok ((qfy _ (quq _ (qu3 _ qL))))
def qTa (f:Nat) (x0 x1:ByteArray) (x2 x3:Int) (x4:Nat) (x5:Int) (x6:Nat) (x7:LL):Option (ByteArray×Nat×Int×Nat×LL):=qf qNI 0 [0,1,2,3,9,10] [0,9,10] (qE Tryz.f79 11) f ([.s (.str x0),.s (.str x1),.s (.i .i64 x2),.s (.i .i64 x3),.s (.sl 0 0 x4 true),.s (.i .i64 x5)]) ([.sli 9 false (.rows [CK.s] x6 x7)]) qTZ
theorem qu6 (f:Nat) (x0 x1:ByteArray) (x2 x3:Int) (x4:Nat) (x5:Int) (x6:Nat) (x7:LL):qTa (f+1) x0 x1 x2 x3 x4 x5 x6 x7=qgG (qTa f) x0 x1 x2 x3 x4 x5 x6 x7:=by kernel_rfl
theorem qgF:∀ f,qTa f=qKD f
 | 0=>rfl
 | f+1=>by funext x0 x1 x2 x3 x4 x5 x6 x7;rw[qu6,qgF f];rfl
theorem qu9:qY Tryz.prog qNI 0 (qE Tryz.f79 11):=
 qg mixed qgD (qN.of (l':=[]) (by kernel_rfl) trivial) (q:=11) (kin:=[0,1,2,3,9,10]) (kout:=[0,9,10]) (by kernel_rfl) (by kernel_rfl) fun vs objs K r h=>by
  replace h:qTb vs objs K=some r:=h
  unfold qTb at h
  split at h
  ·skip
   obtain⟨t,h1,h2⟩:=qD h
   rw[<- qgF] at h1
   refine⟨_,qTZ,t,qB,h1,fun e vs' objs' hd=>?_⟩
   unfold qTZ at hd;split at hd;(cases hd;exact h2);cases hd
  ·cases h
def qgE:V->List Obj->Option (Nat×Nat×LL):=fun v objs=>match v,objs with
 | .s (.sl 0 0 y0 true),[.sli 9 false (.rows [CK.s] y1 y2)]=>some (y0,y1,y2)
 | _,_=>none
theorem qu5 (x0 x1:ByteArray) (x2 x3:Int):fnE qNI Tryz.f79 ([.s (.str x0),.s (.str x1),.s (.i .i64 x2),.s (.i .i64 x3)]) ([]) qgE=qTY x0 x1 x2 x3:=by kernel_rfl
def qgC:HA:=fun o vs objs K=>match vs,objs with
 | [.s (.str x0),.s (.str x1),.s (.i .i64 x2),.s (.i .i64 x3)],[]=>ob (qTY x0 x1 x2 x3) fun z=>K false (.s (.sl 0 0 (z.1) true)) ([.sli 9 false (.rows [CK.s] (z.2.1) (z.2.2))])
 | _,_=>o 79 vs objs K
def qgH (o:Orc):Orc:=qK 79 (qgC o) o
theorem qu8:OQ Tryz.prog qgH:=fun _ ho=>qM ho fun vs objs K r h=>by
 unfold qgC at h
 split at h
 ·skip
  obtain⟨t,h1,h2⟩:=qD h
  refine q7 mixed qgD (fn:=Tryz.f79) (b:=(Tryz.f79).body.getD .skip) (by kernel_rfl) (by kernel_rfl) (by kernel_rfl) ((qu5 _ _ _ _).trans h1) (m:=0) rfl (qN.of (l':=[qE Tryz.f79 11]) (by kernel_rfl) ⟨qu9,trivial⟩) fun v objs' hd=>?_
  unfold qgE at hd;split at hd;(cases hd;exact h2);cases hd
 ·exact ho _ _ _ _ _ h
def qf3:Ctx:=mkC 8 ((qgH qI)) [] qU
theorem quy:CtxOK Tryz.prog qf3:=mkC_ok ((qu8 _ qL))
def qf4:V->List Obj->Option (Nat×Nat×LL):=fun v objs=>match v,objs with
 | .s (.sl 0 0 y0 true),[.sli 9 false (.rows [CK.s] y1 y2)]=>some (y0,y1,y2)
 | _,_=>none
theorem qux (x0 x1:ByteArray):fnE qf3 Tryz.f36 ([.s (.str x0),.s (.str x1)]) ([]) qf4=qTT x0 x1:=by kernel_rfl
def qf2:HA:=fun o vs objs K=>match vs,objs with
 | [.s (.str x0),.s (.str x1)],[]=>ob (qTT x0 x1) fun z=>K false (.s (.sl 0 0 (z.1) true)) ([.sli 9 false (.rows [CK.s] (z.2.1) (z.2.2))])
 | _,_=>o 36 vs objs K
def qf5 (o:Orc):Orc:=qK 36 (qf2 o) o
theorem quz:OQ Tryz.prog qf5:=fun _ ho=>qM ho fun vs objs K r h=>by
 unfold qf2 at h
 split at h
 ·skip
  obtain⟨t,h1,h2⟩:=qD h
  refine qX mixed quy ((qux _ _).trans h1) (by kernel_rfl) fun v objs' hd=>?_
  unfold qf4 at hd;split at hd;(cases hd;exact h2);cases hd
 ·exact ho _ _ _ _ _ h
def qQu:Ex->List V->List Obj->Option ((Int)⊕(Unit)):=fun e vs objs=>match e,vs,objs with
 | .ret,[.s (.i .i8 y0)],[]=>some (.inl (y0))
 | .exit 0,[.s .bad],[]=>some (.inr ())
 | _,_,_=>none
def qQw:HL:=fun vs objs K=>match vs,objs with
 | [.s (.i .i32 x0),.s (.b x1),.s (.i .i64 x2),.s (S.it 0)],[Obj.iter x3 x4]=>ob (qH0 qB x0 x1 x2 x3 x4) fun t0=>sw t0 (fun y0=>K (.ret) ([.s (.i .i8 y0)]) ([])) (fun _=>K (.exit 0) ([.s .bad]) ([]))
 | _,_=>none
def qpO:{R:Type}->Nat->List V->List Obj->(Ex->List V->List Obj->Option R)->Option R:=fun q vs objs K=>bif Nat.beq q 6 then qQw vs objs K else none
def qMB:Ctx:=mkC 34 ((qDn (qJg qI))) [(6,[0,1,5,16],[4])] qpO
theorem qaW:CtxOK Tryz.prog qMB:=mkC_ok ((qEZ _ (qME _ qL)))
def qQv (f:Nat) (x0:Int) (x1:Bool) (x2:Int) (x3:ByteArray) (x4:Nat):Option ((Int)⊕(Unit)):=qf qMB 0 [0,1,5,16] [4] (qE Tryz.f80 6) f ([.s (.i .i32 x0),.s (.b x1),.s (.i .i64 x2),.s (S.it 0)]) ([Obj.iter x3 x4]) qQu
theorem qpN (f:Nat) (x0:Int) (x1:Bool) (x2:Int) (x3:ByteArray) (x4:Nat):qQv (f+1) x0 x1 x2 x3 x4=qaZ (qQv f) x0 x1 x2 x3 x4:=by kernel_rfl
theorem qaY:∀ f,qQv f=qH0 f
 | 0=>rfl
 | f+1=>by funext x0 x1 x2 x3 x4;rw[qpN,qaY f];rfl
theorem qpQ:qY Tryz.prog qMB 0 (qE Tryz.f80 6):=
 qg mixed qaW (qN.of (l':=[]) (by kernel_rfl) trivial) (q:=6) (kin:=[0,1,5,16]) (kout:=[4]) (by kernel_rfl) (by kernel_rfl) fun vs objs K r h=>by
  replace h:qQw vs objs K=some r:=h
  unfold qQw at h
  split at h
  ·skip
   obtain⟨t,h1,h2⟩:=qD h
   rw[<- qaY] at h1
   refine⟨_,qQu,t,qB,h1,fun e vs' objs' hd=>?_⟩
   unfold qQu at hd
   split at hd
   ·skip
    cases hd
    exact h2
   ·skip
    cases hd
    exact h2
   ·cases hd
  ·cases h
def qaX:V->List Obj->Option (Int):=fun v objs=>match v,objs with
 | .s (.i .i8 y0),[]=>some (y0)
 | _,_=>none
theorem qpM (x0:Int) (x1:Bool):fnE qMB Tryz.f80 ([.s (.i .i32 x0),.s (.b x1)]) ([]) qaX=qJf x0 x1:=by kernel_rfl
def qaV:HA:=fun o vs objs K=>match vs,objs with
 | [.s (.i .i32 x0),.s (.b x1)],[]=>ob (qJf x0 x1) fun y0=>K false (.s (.i .i8 y0)) ([])
 | _,_=>o 80 vs objs K
def qaa (o:Orc):Orc:=qK 80 (qaV o) o
theorem qpP:OQ Tryz.prog qaa:=fun _ ho=>qM ho fun vs objs K r h=>by
 unfold qaV at h
 split at h
 ·skip
  obtain⟨t,h1,h2⟩:=qD h
  refine q7 mixed qaW (fn:=Tryz.f80) (b:=(Tryz.f80).body.getD .skip) (by kernel_rfl) (by kernel_rfl) (by kernel_rfl) ((qpM _ _).trans h1) (m:=0) rfl (qN.of (l':=[qE Tryz.f80 6]) (by kernel_rfl) ⟨qpQ,trivial⟩) fun v objs' hd=>?_
  unfold qaX at hd;split at hd;(cases hd;exact h2);cases hd
 ·exact ho _ _ _ _ _ h
def qZu:Ctx:=mkC 17 ((set_Squareo qI)) [] qU
theorem qns:CtxOK Tryz.prog qZu:=mkC_ok ((set_Squareo_ok _ qL))
def qZv:V->List Obj->Option (Int×Bool):=fun v objs=>match v,objs with
 | .tup [W.s (.i .i64 y0),W.s (.b y1)],[]=>some (y0,y1)
 | _,_=>none
theorem qnr (x0 x1:Int):fnE qZu Tryz.f81 ([.s (.i .i32 x0),.s (.i .i32 x1)]) ([]) qZv=qEY x0 x1:=by kernel_rfl
def qZt:HA:=fun o vs objs K=>match vs,objs with
 | [.s (.i .i32 x0),.s (.i .i32 x1)],[]=>ob (qEY x0 x1) fun z=>K false (.tup [W.s (.i .i64 (z.1)),W.s (.b (z.2))]) ([])
 | _,_=>o 81 vs objs K
def qZw (o:Orc):Orc:=qK 81 (qZt o) o
theorem qnt:OQ Tryz.prog qZw:=fun _ ho=>qM ho fun vs objs K r h=>by
 unfold qZt at h
 split at h
 ·skip
  obtain⟨t,h1,h2⟩:=qD h
  refine qX mixed qns ((qnr _ _).trans h1) (by kernel_rfl) fun v objs' hd=>?_
  unfold qZv at hd;split at hd;(cases hd;exact h2);cases hd
 ·exact ho _ _ _ _ _ h
def qQc:Ex->List V->List Obj->Option (Nat×Int×Int×Int×Bool×Nat×LI):=fun e vs objs=>match e,vs,objs with
 | .exit 0,[.s (.ptr 0 0 none 0),.s (.sl 1 0 y0 true)],[.cells 37 [.one [.i .i64 y1,.i .i64 y2,.i .i64 y3,.b y4]],.sli 21 false (.arr .i32 y5 y6)]=>some (y0,y1,y2,y3,y4,y5,y6)
 | _,_,_=>none
def qQe:HL:=fun vs objs K=>match vs,objs with
 | [.s (.ptr 0 0 none 0),.s (.sl 1 0 x0 true),.s (S.it 2)],[.cells 37 [.one [.i .i64 x1,.i .i64 x2,.i .i64 x3,.b x4]],.sli 21 false (.arr .i32 x5 x6),Obj.iter x7 x8]=>ob (qEX qB x0 x1 x2 x3 x4 x5 x6 x7 x8) fun z=>K (.exit 0) ([.s (.ptr 0 0 none 0),.s (.sl 1 0 (z.1) true)]) ([.cells 37 [.one [.i .i64 (z.2.1),.i .i64 (z.2.2.1),.i .i64 (z.2.2.2.1),.b (z.2.2.2.2.1)]],.sli 21 false (.arr .i32 (z.2.2.2.2.2.1) (z.2.2.2.2.2.2))])
 | _,_=>none
def qni:{R:Type}->Nat->List V->List Obj->(Ex->List V->List Obj->Option R)->Option R:=fun q vs objs K=>bif Nat.beq q 3 then qQe vs objs K else none
def qLt:Ctx:=mkC 127 ((qDo (qZw (qaa qI)))) [(3,[2,4,16],[2,4])] qni
theorem qZh:CtxOK Tryz.prog qLt:=mkC_ok ((qEa _ (qnt _ (qpP _ qL))))
def qQd (f:Nat) (x0:Nat) (x1 x2 x3:Int) (x4:Bool) (x5:Nat) (x6:LI) (x7:ByteArray) (x8:Nat):Option (Nat×Int×Int×Int×Bool×Nat×LI):=qf qLt 0 [2,4,16] [2,4] (qE Tryz.f37 3) f ([.s (.ptr 0 0 none 0),.s (.sl 1 0 x0 true),.s (S.it 2)]) ([.cells 37 [.one [.i .i64 x1,.i .i64 x2,.i .i64 x3,.b x4]],.sli 21 false (.arr .i32 x5 x6),Obj.iter x7 x8]) qQc
theorem qnh (f:Nat) (x0:Nat) (x1 x2 x3:Int) (x4:Bool) (x5:Nat) (x6:LI) (x7:ByteArray) (x8:Nat):qQd (f+1) x0 x1 x2 x3 x4 x5 x6 x7 x8=qHv (qQd f) x0 x1 x2 x3 x4 x5 x6 x7 x8:=by kernel_rfl
theorem qZj:∀ f,qQd f=qEX f
 | 0=>rfl
 | f+1=>by funext x0 x1 x2 x3 x4 x5 x6 x7 x8;rw[qnh,qZj f];rfl
theorem qnk:qY Tryz.prog qLt 0 (qE Tryz.f37 3):=
 qg mixed qZh (qN.of (l':=[]) (by kernel_rfl) trivial) (q:=3) (kin:=[2,4,16]) (kout:=[2,4]) (by kernel_rfl) (by kernel_rfl) fun vs objs K r h=>by
  replace h:qQe vs objs K=some r:=h
  unfold qQe at h
  split at h
  ·skip
   obtain⟨t,h1,h2⟩:=qD h
   rw[<- qZj] at h1
   refine⟨_,qQc,t,qB,h1,fun e vs' objs' hd=>?_⟩
   unfold qQc at hd;split at hd;(cases hd;exact h2);cases hd
  ·cases h
def qZi:V->List Obj->Option (Int×Int×Int×Bool×Int):=fun v objs=>match v,objs with
 | .tup [W.agg [.one [.i .i64 y0,.i .i64 y1,.i .i64 y2,.b y3]],W.s (.i .i64 y4)],[]=>some (y0,y1,y2,y3,y4)
 | _,_=>none
theorem qng (x0:ByteArray):fnE qLt Tryz.f37 ([.s (.str x0)]) ([]) qZi=qFY x0:=by kernel_rfl
def qZg:HA:=fun o vs objs K=>match vs,objs with
 | [.s (.str x0)],[]=>ob (qFY x0) fun z=>K false (.tup [W.agg [.one [.i .i64 (z.1),.i .i64 (z.2.1),.i .i64 (z.2.2.1),.b (z.2.2.2.1)]],W.s (.i .i64 (z.2.2.2.2))]) ([])
 | _,_=>o 37 vs objs K
def qZk (o:Orc):Orc:=qK 37 (qZg o) o
theorem qnj:OQ Tryz.prog qZk:=fun _ ho=>qM ho fun vs objs K r h=>by
 unfold qZg at h
 split at h
 ·skip
  obtain⟨t,h1,h2⟩:=qD h
  refine q7 mixed qZh (fn:=Tryz.f37) (b:=(Tryz.f37).body.getD .skip) (by kernel_rfl) (by kernel_rfl) (by kernel_rfl) ((qng _).trans h1) (m:=0) rfl (qN.of (l':=[qE Tryz.f37 3]) (by kernel_rfl) ⟨qnk,trivial⟩) fun v objs' hd=>?_
  unfold qZi at hd;split at hd;(cases hd;exact h2);cases hd
 ·exact ho _ _ _ _ _ h
def qQG:Ex->List V->List Obj->Option ((Nat×Int×Int×Nat×Nat×LL×Nat×LL)⊕(Nat×Nat×LL)):=fun e vs objs=>match e,vs,objs with
 | .ret,[.s (.sl 0 0 y0 true),.s (.i .i64 y1),.s (.i .i64 y2),.s (.sl 1 0 y3 true)],[.sli 37 false (.rows [.i .i64,.i .i64,.i .i64,.b] y4 y5),.sli 37 false (.rows [.i .i64,.i .i64,.i .i64,.b] y6 y7)]=>some (.inl (y0,y1,y2,y3,y4,y5,y6,y7))
 | .exit 0,[.s .bad,.s .bad,.s .bad,.s (.sl 0 0 y0 true)],[.sli 37 false (.rows [.i .i64,.i .i64,.i .i64,.b] y1 y2)]=>some (.inr (y0,y1,y2))
 | _,_,_=>none
def qQI:HL:=fun vs objs K=>match vs,objs with
 | [.s (.sl 0 0 x0 true),.s (.sl 1 0 x1 true),.s (.i .i64 x2),.s (.i .i64 x3)],[.sli 37 false (.rows [.i .i64,.i .i64,.i .i64,.b] x4 x5),.sli 9 false (.rows [CK.s] x6 x7)]=>ob (qLa qB x0 x1 x2 x3 x4 x5 x6 x7) fun t0=>sw t0 (fun z=>K (.ret) ([.s (.sl 0 0 (z.1) true),.s (.i .i64 (z.2.1)),.s (.i .i64 (z.2.2.1)),.s (.sl 1 0 (z.2.2.2.1) true)]) ([.sli 37 false (.rows [.i .i64,.i .i64,.i .i64,.b] (z.2.2.2.2.1) (z.2.2.2.2.2.1)),.sli 37 false (.rows [.i .i64,.i .i64,.i .i64,.b] (z.2.2.2.2.2.2.1) (z.2.2.2.2.2.2.2))])) (fun z=>K (.exit 0) ([.s .bad,.s .bad,.s .bad,.s (.sl 0 0 (z.1) true)]) ([.sli 37 false (.rows [.i .i64,.i .i64,.i .i64,.b] (z.2.1) (z.2.2))]))
 | _,_=>none
def qmo:{R:Type}->Nat->List V->List Obj->(Ex->List V->List Obj->Option R)->Option R:=fun q vs objs K=>bif Nat.beq q 5 then qQI vs objs K else none
def qLZ:Ctx:=mkC 37 ((qZk (qf5 qI))) [(5,[5,13,14,15],[2,3,4,5])] qmo
theorem qYl:CtxOK Tryz.prog qLZ:=mkC_ok ((qnj _ (quz _ qL)))
def qQH (f:Nat) (x0 x1:Nat) (x2 x3:Int) (x4:Nat) (x5:LL) (x6:Nat) (x7:LL):Option ((Nat×Int×Int×Nat×Nat×LL×Nat×LL)⊕(Nat×Nat×LL)):=qf qLZ 0 [5,13,14,15] [2,3,4,5] (qE Tryz.f15 5) f ([.s (.sl 0 0 x0 true),.s (.sl 1 0 x1 true),.s (.i .i64 x2),.s (.i .i64 x3)]) ([.sli 37 false (.rows [.i .i64,.i .i64,.i .i64,.b] x4 x5),.sli 9 false (.rows [CK.s] x6 x7)]) qQG
theorem qmn (f:Nat) (x0 x1:Nat) (x2 x3:Int) (x4:Nat) (x5:LL) (x6:Nat) (x7:LL):qQH (f+1) x0 x1 x2 x3 x4 x5 x6 x7=qYo (qQH f) x0 x1 x2 x3 x4 x5 x6 x7:=by kernel_rfl
theorem qYn:∀ f,qQH f=qLa f
 | 0=>rfl
 | f+1=>by funext x0 x1 x2 x3 x4 x5 x6 x7;rw[qmn,qYn f];rfl
theorem qmq:qY Tryz.prog qLZ 0 (qE Tryz.f15 5):=
 qg mixed qYl (qN.of (l':=[]) (by kernel_rfl) trivial) (q:=5) (kin:=[5,13,14,15]) (kout:=[2,3,4,5]) (by kernel_rfl) (by kernel_rfl) fun vs objs K r h=>by
  replace h:qQI vs objs K=some r:=h
  unfold qQI at h
  split at h
  ·skip
   obtain⟨t,h1,h2⟩:=qD h
   rw[<- qYn] at h1
   refine⟨_,qQG,t,qB,h1,fun e vs' objs' hd=>?_⟩
   unfold qQG at hd
   split at hd
   ·skip
    cases hd
    exact h2
   ·skip
    cases hd
    exact h2
   ·cases hd
  ·cases h
def qYm:V->List Obj->Option (Nat×Int×Int×Nat×LL):=fun v objs=>match v,objs with
 | .tup [W.s (.sl 0 0 y0 true),W.s (.i .i64 y1),W.s (.i .i64 y2)],[.sli 37 false (.rows [.i .i64,.i .i64,.i .i64,.b] y3 y4)]=>some (y0,y1,y2,y3,y4)
 | _,_=>none
theorem qmm (x0:ByteArray):fnE qLZ Tryz.f15 ([.s (.str x0)]) ([]) qYm=qQF x0:=by kernel_rfl
def qYk:HA:=fun o vs objs K=>match vs,objs with
 | [.s (.str x0)],[]=>ob (qQF x0) fun z=>K false (.tup [W.s (.sl 0 0 (z.1) true),W.s (.i .i64 (z.2.1)),W.s (.i .i64 (z.2.2.1))]) ([.sli 37 false (.rows [.i .i64,.i .i64,.i .i64,.b] (z.2.2.2.1) (z.2.2.2.2))])
 | _,_=>o 15 vs objs K
def qYp (o:Orc):Orc:=qK 15 (qYk o) o
theorem qmp:OQ Tryz.prog qYp:=fun _ ho=>qM ho fun vs objs K r h=>by
 unfold qYk at h
 split at h
 ·skip
  obtain⟨t,h1,h2⟩:=qD h
  refine q7 mixed qYl (fn:=Tryz.f15) (b:=(Tryz.f15).body.getD .skip) (by kernel_rfl) (by kernel_rfl) (by kernel_rfl) ((qmm _).trans h1) (m:=0) rfl (qN.of (l':=[qE Tryz.f15 5]) (by kernel_rfl) ⟨qmq,trivial⟩) fun v objs' hd=>?_
  unfold qYm at hd;split at hd;(cases hd;exact h2);cases hd
 ·exact ho _ _ _ _ _ h
def qaP:Ctx:=mkC 25 ((qDo (qMC (qCv qI)))) [] qU
theorem qpI:CtxOK Tryz.prog qaP:=mkC_ok ((qEa _ (qQx _ (qDF _ qL))))
def qaQ:V->List Obj->Option (ByteArray):=fun v objs=>match v,objs with
 | .s (.str y0),[]=>some (y0)
 | _,_=>none
theorem qpH (x0:Int):fnE qaP Tryz.f74 ([.s (.i .i8 x0)]) ([]) qaQ=qMA x0:=by kernel_rfl
def qaO:HA:=fun o vs objs K=>match vs,objs with
 | [.s (.i .i8 x0)],[]=>ob (qMA x0) fun y0=>K false (.s (.str y0)) ([])
 | _,_=>o 74 vs objs K
def qaR (o:Orc):Orc:=qK 74 (qaO o) o
theorem qpJ:OQ Tryz.prog qaR:=fun _ ho=>qM ho fun vs objs K r h=>by
 unfold qaO at h
 split at h
 ·skip
  obtain⟨t,h1,h2⟩:=qD h
  refine qX mixed qpI ((qpH _).trans h1) (by kernel_rfl) fun v objs' hd=>?_
  unfold qaQ at hd;split at hd;(cases hd;exact h2);cases hd
 ·exact ho _ _ _ _ _ h
def qZm:Ctx:=mkC 19 ((qMy (qMs qI))) [] qU
theorem qnm:CtxOK Tryz.prog qZm:=mkC_ok ((qSu _ (qSk _ qL)))
def qZn:V->List Obj->Option (ByteArray):=fun v objs=>match v,objs with
 | .s (.str y0),[]=>some (y0)
 | _,_=>none
theorem qnl (x0:Int):fnE qZm Tryz.f75 ([.s (.i .i64 x0)]) ([]) qZn=qFZ x0:=by kernel_rfl
def qZl:HA:=fun o vs objs K=>match vs,objs with
 | [.s (.i .i64 x0)],[]=>ob (qFZ x0) fun y0=>K false (.s (.str y0)) ([])
 | _,_=>o 75 vs objs K
def qZo (o:Orc):Orc:=qK 75 (qZl o) o
theorem qnn:OQ Tryz.prog qZo:=fun _ ho=>qM ho fun vs objs K r h=>by
 unfold qZl at h
 split at h
 ·skip
  obtain⟨t,h1,h2⟩:=qD h
  refine qX mixed qnm ((qnl _).trans h1) (by kernel_rfl) fun v objs' hd=>?_
  unfold qZn at hd;split at hd;(cases hd;exact h2);cases hd
 ·exact ho _ _ _ _ _ h
def qZq:Ctx:=mkC 38 ((qZo (qaR (qDn (qQb qI))))) [] qU
theorem qnp:CtxOK Tryz.prog qZq:=mkC_ok ((qnn _ (qpJ _ (qEZ _ (qZf _ qL)))))
def qZr:V->List Obj->Option (ByteArray):=fun v objs=>match v,objs with
 | .s (.str y0),[]=>some (y0)
 | _,_=>none
theorem qno (x0 x1 x2:Int) (x3:Bool):fnE qZq Tryz.f34 ([.agg [.one [.i .i64 x0,.i .i64 x1,.i .i64 x2,.b x3]]]) ([]) qZr=qHw x0 x1 x2 x3:=by kernel_rfl
def qZp:HA:=fun o vs objs K=>match vs,objs with
 | [.agg [.one [.i .i64 x0,.i .i64 x1,.i .i64 x2,.b x3]]],[]=>ob (qHw x0 x1 x2 x3) fun y0=>K false (.s (.str y0)) ([])
 | _,_=>o 34 vs objs K
def qZs (o:Orc):Orc:=qK 34 (qZp o) o
theorem qnq:OQ Tryz.prog qZs:=fun _ ho=>qM ho fun vs objs K r h=>by
 unfold qZp at h
 split at h
 ·skip
  obtain⟨t,h1,h2⟩:=qD h
  refine qX mixed qnp ((qno _ _ _ _).trans h1) (by kernel_rfl) fun v objs' hd=>?_
  unfold qZr at hd;split at hd;(cases hd;exact h2);cases hd
 ·exact ho _ _ _ _ _ h
def quv:Ctx:=mkC 75 (qI) [] qU
theorem qv2:CtxOK Tryz.prog quv:=mkC_ok (qL)
def qf0:V->List Obj->Option (ByteArray):=fun v objs=>match v,objs with
 | .s (.str y0),[]=>some (y0)
 | _,_=>none
theorem quu (x0:Nat) (x1:ByteArray) (x2:Nat) (x3:LL):qKK 35 ([.s (.sl 0 0 x0 true),.s (.str x1)]) ([.sli 9 true (.rows [CK.s] x2 x3)]) (qAG 1 qf0)=strings_Join x0 x1 x2 x3:=by kernel_rfl
def qfz:HA:=fun o vs objs K=>match vs,List.map Obj.toRO objs with
 | [.s (.sl 0 0 x0 true),.s (.str x1)],[.sli 9 true (.rows [CK.s] x2 x3)]=>ob (strings_Join x0 x1 x2 x3) fun y0=>K true (.s (.str y0)) ([])
 | _,_=>o 35 vs objs K
def qf1 (o:Orc):Orc:=qK 35 (qfz o) o
theorem quw:OQ Tryz.prog qf1:=fun _ ho=>qM ho fun vs objs K r h=>by
 unfold qfz at h
 split at h
 ·skip
  have hq:List.map Obj.toRO objs=_:=(by rename_i hq;first | exact hq | assumption)
  obtain⟨t,h1,h2⟩:=qD h
  refine qvT told_ok (f:=35) (by rfl) (m:=1) hq (by kernel_rfl) (by kernel_rfl) ((quu _ _ _ _).trans h1) fun v objs' hd=>?_
  unfold qf0 at hd;split at hd;(cases hd;exact h2);cases hd
 ·exact ho _ _ _ _ _ h
def qQR:Ex->List V->List Obj->Option (Nat×Nat×LL×Nat×LL):=fun e vs objs=>match e,vs,objs with
 | .exit 0,[.s (.sl 1 0 y0 true)],[.sli 37 true (.rows [.i .i64,.i .i64,.i .i64,.b] y1 y2),.sli 9 false (.rows [CK.s] y3 y4)]=>some (y0,y1,y2,y3,y4)
 | _,_,_=>none
def qQT:HL:=fun vs objs K=>match vs,objs with
 | [.s (.sl 1 0 x0 true),.s (.sl 0 0 x1 true),.s (.i .i64 x2),.s (.i .i64 x3)],[.sli 37 true (.rows [.i .i64,.i .i64,.i .i64,.b] x4 x5),.sli 9 false (.rows [CK.s] x6 x7)]=>ob (qLg qB x0 x1 x2 x3 x4 x5 x6 x7) fun z=>K (.exit 0) ([.s (.sl 1 0 (z.1) true)]) ([.sli 37 true (.rows [.i .i64,.i .i64,.i .i64,.b] (z.2.1) (z.2.2.1)),.sli 9 false (.rows [CK.s] (z.2.2.2.1) (z.2.2.2.2))])
 | _,_=>none
def qm3:{R:Type}->Nat->List V->List Obj->(Ex->List V->List Obj->Option R)->Option R:=fun q vs objs K=>bif Nat.beq q 3 then qQT vs objs K else none
def qLf:Ctx:=mkC 20 ((qf1 (qZs qI))) [(3,[3,6,7,8],[3])] qm3
theorem qY2:CtxOK Tryz.prog qLf:=mkC_ok ((quw _ (qnq _ qL)))
def qQS (f:Nat) (x0 x1:Nat) (x2 x3:Int) (x4:Nat) (x5:LL) (x6:Nat) (x7:LL):Option (Nat×Nat×LL×Nat×LL):=qf qLf 1 [3,6,7,8] [3] (qE Tryz.f14 3) f ([.s (.sl 1 0 x0 true),.s (.sl 0 0 x1 true),.s (.i .i64 x2),.s (.i .i64 x3)]) ([.sli 37 true (.rows [.i .i64,.i .i64,.i .i64,.b] x4 x5),.sli 9 false (.rows [CK.s] x6 x7)]) qQR
theorem qm2 (f:Nat) (x0 x1:Nat) (x2 x3:Int) (x4:Nat) (x5:LL) (x6:Nat) (x7:LL):qQS (f+1) x0 x1 x2 x3 x4 x5 x6 x7=qY5 (qQS f) x0 x1 x2 x3 x4 x5 x6 x7:=by kernel_rfl
theorem qY4:∀ f,qQS f=qLg f
 | 0=>rfl
 | f+1=>by funext x0 x1 x2 x3 x4 x5 x6 x7;rw[qm2,qY4 f];rfl
theorem qm5:qY Tryz.prog qLf 1 (qE Tryz.f14 3):=
 qg mixed qY2 (qN.of (l':=[]) (by kernel_rfl) trivial) (q:=3) (kin:=[3,6,7,8]) (kout:=[3]) (by kernel_rfl) (by kernel_rfl) fun vs objs K r h=>by
  replace h:qQT vs objs K=some r:=h
  unfold qQT at h
  split at h
  ·skip
   obtain⟨t,h1,h2⟩:=qD h
   rw[<- qY4] at h1
   refine⟨_,qQR,t,qB,h1,fun e vs' objs' hd=>?_⟩
   unfold qQR at hd;split at hd;(cases hd;exact h2);cases hd
  ·cases h
def qY3:V->List Obj->Option (ByteArray):=fun v objs=>match v,objs with
 | .s (.str y0),[]=>some (y0)
 | _,_=>none
theorem qm1 (x0 x1:Nat) (x2:LL):fnE qLf Tryz.f14 ([.s (.sl 0 0 x0 true)]) ([.sli 37 true (.rows [.i .i64,.i .i64,.i .i64,.b] x1 x2)]) (qAG 1 qY3)=qQQ x0 x1 x2:=by kernel_rfl
def qY1:HA:=fun o vs objs K=>match vs,List.map Obj.toRO objs with
 | [.s (.sl 0 0 x0 true)],[.sli 37 true (.rows [.i .i64,.i .i64,.i .i64,.b] x1 x2)]=>ob (qQQ x0 x1 x2) fun y0=>K true (.s (.str y0)) ([])
 | _,_=>o 14 vs objs K
def qY6 (o:Orc):Orc:=qK 14 (qY1 o) o
theorem qm4:OQ Tryz.prog qY6:=fun _ ho=>qM ho fun vs objs K r h=>by
 unfold qY1 at h
 split at h
 ·skip
  have hq:List.map Obj.toRO objs=_:=(by rename_i hq;first | exact hq | assumption)
  obtain⟨t,h1,h2⟩:=qD h
  refine qAc mixed qY2 (m:=1) (fn:=Tryz.f14) (b:=(Tryz.f14).body.getD .skip) (by kernel_rfl) (by kernel_rfl) (by kernel_rfl) hq (by kernel_rfl) (by kernel_rfl) (qN.of (l':=[qE Tryz.f14 3]) (by kernel_rfl) ⟨qm5,trivial⟩) ((qm1 _ _ _).trans h1) fun v objs' hd=>?_
  unfold qY3 at hd;split at hd;(cases hd;exact h2);cases hd
 ·exact ho _ _ _ _ _ h
def qX8:Ctx:=mkC 46 ((qY6 (qYp (qY0 (qVP qI))))) [] qU
theorem qX9:CtxOK Tryz.prog qX8:=mkC_ok ((qm4 _ (qmp _ (qmz _ (qin _ qL)))))
def qPo:V->List Obj->Option (Bool):=fun v objs=>match v,objs with
 | .s (.b y0),[]=>some (y0)
 | _,_=>none
theorem qX6:fnE qX8 Tryz.f8 ([]) ([]) qPo=qJS  := by kernel_rfl
def qX7:HA:=fun o vs objs K=>match vs,objs with
 | [],[]=>ob (qJS ) fun y0=>K false (.s (.b y0)) ([])
 | _,_=>o 8 vs objs K
def qYA (o:Orc):Orc:=qK 8 (qX7 o) o
theorem qv1 {vs:List V} {objs:List Obj} {R:Type} {K:Bool->V->List Obj->Option R} {r:R} (hv:vs=[]) (ho:objs=[]) (h:ob (qJS ) (fun y0=>K false (.s (.b y0)) ([]))=some r):
  ∃ p v objs',K p v objs'=some r /\ qDR Tryz.prog 8 vs objs p v objs':=by
 subst hv
 subst ho
 obtain⟨t,h1,h2⟩:=qD h
 refine qX mixed qX9 ((qX6).trans h1) (by kernel_rfl) fun v objs' hd=>?_
 unfold qPo at hd;split at hd;(cases hd;exact h2);cases hd
theorem qmD:OQ Tryz.prog qYA:=fun _ ho=>qM ho fun vs objs K r h=>by
 unfold qX7 at h
 split at h
 ·skip
  obtain⟨t,h1,h2⟩:=qD h
  refine qX mixed qX9 ((qX6).trans h1) (by kernel_rfl) fun v objs' hd=>?_
  unfold qPo at hd;split at hd;(cases hd;exact h2);cases hd
 ·exact ho _ _ _ _ _ h
def qQK:Ex->List V->List Obj->Option ((Nat×Nat×Int×Int×Nat×LL×LI×LI×Int×Int×Nat×LI×LI×Int×LL×LL×Nat×LL)⊕(Nat×Nat×Nat×LL×LI×LI×Int×Int×Nat×LI×LI×Int×LL×LL×Nat×LL)):=fun e vs objs=>match e,vs,objs with
 | .ret,[.s (.sl 0 y0 y1 false),.s (.i .i64 y2),.s (.ptr 1 0 none 0),.s (.i .i64 y3),.s (.ptr 2 0 none 0)],[.sli 37 true (.rows [.i .i64,.i .i64,.i .i64,.b] y4 y5),.cells 28 [.arr .i8 81 y6,.arr .i8 16 y7,.one [.i .i8 y8]],.cells 66 [.one [.ptr 3 0 none 0,.i .u64 y9,.sl 4 0 y10 true]],.cells 72 [.arr .i8 81 y11,.arr .i8 16 y12,.one [.i .i8 y13],.rows [.i .u64,.i .u64] 32 y14,.rows [.i .u64,.i .u64] 2 y15],.sli 98 false (.rows [.i .i64,.i .i64,.i .i64,.b,.i .i8,.i .i8] y16 y17)]=>some (.inl (y0,y1,y2,y3,y4,y5,y6,y7,y8,y9,y10,y11,y12,y13,y14,y15,y16,y17))
 | .exit 0,[.s (.sl 0 y0 y1 false),.s .bad,.s (.ptr 1 0 none 0),.s .bad,.s (.ptr 2 0 none 0)],[.sli 37 true (.rows [.i .i64,.i .i64,.i .i64,.b] y2 y3),.cells 28 [.arr .i8 81 y4,.arr .i8 16 y5,.one [.i .i8 y6]],.cells 66 [.one [.ptr 3 0 none 0,.i .u64 y7,.sl 4 0 y8 true]],.cells 72 [.arr .i8 81 y9,.arr .i8 16 y10,.one [.i .i8 y11],.rows [.i .u64,.i .u64] 32 y12,.rows [.i .u64,.i .u64] 2 y13],.sli 98 false (.rows [.i .i64,.i .i64,.i .i64,.b,.i .i8,.i .i8] y14 y15)]=>some (.inr (y0,y1,y2,y3,y4,y5,y6,y7,y8,y9,y10,y11,y12,y13,y14,y15))
 | _,_,_=>none
def qQM:HL:=fun vs objs K=>match vs,objs with
 | [.s (.sl 0 x0 x1 false),.s (.ptr 1 0 none 0),.s (.ptr 2 0 none 0),.s (.sl 0 x2 x3 false),.s (.i .i64 x4),.s (.i .i64 x5)],[.sli 37 true (.rows [.i .i64,.i .i64,.i .i64,.b] x6 x7),.cells 28 [.arr .i8 81 x8,.arr .i8 16 x9,.one [.i .i8 x10]],.cells 66 [.one [.ptr 3 0 none 0,.i .u64 x11,.sl 4 0 x12 true]],.cells 72 [.arr .i8 81 x13,.arr .i8 16 x14,.one [.i .i8 x15],.rows [.i .u64,.i .u64] 32 x16,.rows [.i .u64,.i .u64] 2 x17],.sli 98 false (.rows [.i .i64,.i .i64,.i .i64,.b,.i .i8,.i .i8] x18 x19)]=>ob (qDC qB x0 x1 x2 x3 x4 x5 x6 x7 x8 x9 x10 x11 x12 x13 x14 x15 x16 x17 x18 x19) fun t0=>sw t0 (fun z=>K (.ret) ([.s (.sl 0 (z.1) (z.2.1) false),.s (.i .i64 (z.2.2.1)),.s (.ptr 1 0 none 0),.s (.i .i64 (z.2.2.2.1)),.s (.ptr 2 0 none 0)]) ([.sli 37 true (.rows [.i .i64,.i .i64,.i .i64,.b] (z.2.2.2.2.1) (z.2.2.2.2.2.1)),.cells 28 [.arr .i8 81 (z.2.2.2.2.2.2.1),.arr .i8 16 (z.2.2.2.2.2.2.2.1),.one [.i .i8 (z.2.2.2.2.2.2.2.2.1)]],.cells 66 [.one [.ptr 3 0 none 0,.i .u64 (z.2.2.2.2.2.2.2.2.2.1),.sl 4 0 (z.2.2.2.2.2.2.2.2.2.2.1) true]],.cells 72 [.arr .i8 81 (z.2.2.2.2.2.2.2.2.2.2.2.1),.arr .i8 16 (z.2.2.2.2.2.2.2.2.2.2.2.2.1),.one [.i .i8 (z.2.2.2.2.2.2.2.2.2.2.2.2.2.1)],.rows [.i .u64,.i .u64] 32 (z.2.2.2.2.2.2.2.2.2.2.2.2.2.2.1),.rows [.i .u64,.i .u64] 2 (z.2.2.2.2.2.2.2.2.2.2.2.2.2.2.2.1)],.sli 98 false (.rows [.i .i64,.i .i64,.i .i64,.b,.i .i8,.i .i8] (z.2.2.2.2.2.2.2.2.2.2.2.2.2.2.2.2.1) (z.2.2.2.2.2.2.2.2.2.2.2.2.2.2.2.2.2))])) (fun z=>K (.exit 0) ([.s (.sl 0 (z.1) (z.2.1) false),.s .bad,.s (.ptr 1 0 none 0),.s .bad,.s (.ptr 2 0 none 0)]) ([.sli 37 true (.rows [.i .i64,.i .i64,.i .i64,.b] (z.2.2.1) (z.2.2.2.1)),.cells 28 [.arr .i8 81 (z.2.2.2.2.1),.arr .i8 16 (z.2.2.2.2.2.1),.one [.i .i8 (z.2.2.2.2.2.2.1)]],.cells 66 [.one [.ptr 3 0 none 0,.i .u64 (z.2.2.2.2.2.2.2.1),.sl 4 0 (z.2.2.2.2.2.2.2.2.1) true]],.cells 72 [.arr .i8 81 (z.2.2.2.2.2.2.2.2.2.1),.arr .i8 16 (z.2.2.2.2.2.2.2.2.2.2.1),.one [.i .i8 (z.2.2.2.2.2.2.2.2.2.2.2.1)],.rows [.i .u64,.i .u64] 32 (z.2.2.2.2.2.2.2.2.2.2.2.2.1),.rows [.i .u64,.i .u64] 2 (z.2.2.2.2.2.2.2.2.2.2.2.2.2.1)],.sli 98 false (.rows [.i .i64,.i .i64,.i .i64,.b,.i .i8,.i .i8] (z.2.2.2.2.2.2.2.2.2.2.2.2.2.2.1) (z.2.2.2.2.2.2.2.2.2.2.2.2.2.2.2))]))
 | _,_=>none
def qmu:{R:Type}->Nat->List V->List Obj->(Ex->List V->List Obj->Option R)->Option R:=fun q vs objs K=>bif Nat.beq q 6 then qQM vs objs K else none
def qLb:Ctx:=mkC 54 ((qOq (qP2 (qOr (qNf qI))))) [(6,[1,5,8,19,20,21],[1,4,5,6,8])] qmu
theorem qYr:CtxOK Tryz.prog qLb:=mkC_ok ((qV9 _ (qYK _ (qWP _ (qUI _ qL)))))
def qQL (f:Nat) (x0 x1:Nat) (x2 x3:Nat) (x4 x5:Int) (x6:Nat) (x7:LL) (x8 x9:LI) (x10 x11:Int) (x12:Nat) (x13 x14:LI) (x15:Int) (x16 x17:LL) (x18:Nat) (x19:LL):Option ((Nat×Nat×Int×Int×Nat×LL×LI×LI×Int×Int×Nat×LI×LI×Int×LL×LL×Nat×LL)⊕(Nat×Nat×Nat×LL×LI×LI×Int×Int×Nat×LI×LI×Int×LL×LL×Nat×LL)):=qf qLb 1 [1,5,8,19,20,21] [1,4,5,6,8] (qE Tryz.f9 6) f ([.s (.sl 0 x0 x1 false),.s (.ptr 1 0 none 0),.s (.ptr 2 0 none 0),.s (.sl 0 x2 x3 false),.s (.i .i64 x4),.s (.i .i64 x5)]) ([.sli 37 true (.rows [.i .i64,.i .i64,.i .i64,.b] x6 x7),.cells 28 [.arr .i8 81 x8,.arr .i8 16 x9,.one [.i .i8 x10]],.cells 66 [.one [.ptr 3 0 none 0,.i .u64 x11,.sl 4 0 x12 true]],.cells 72 [.arr .i8 81 x13,.arr .i8 16 x14,.one [.i .i8 x15],.rows [.i .u64,.i .u64] 32 x16,.rows [.i .u64,.i .u64] 2 x17],.sli 98 false (.rows [.i .i64,.i .i64,.i .i64,.b,.i .i8,.i .i8] x18 x19)]) qQK
theorem qmt (f:Nat) (x0 x1:Nat) (x2 x3:Nat) (x4 x5:Int) (x6:Nat) (x7:LL) (x8 x9:LI) (x10 x11:Int) (x12:Nat) (x13 x14:LI) (x15:Int) (x16 x17:LL) (x18:Nat) (x19:LL):qQL (f+1) x0 x1 x2 x3 x4 x5 x6 x7 x8 x9 x10 x11 x12 x13 x14 x15 x16 x17 x18 x19=qLc (qQL f) x0 x1 x2 x3 x4 x5 x6 x7 x8 x9 x10 x11 x12 x13 x14 x15 x16 x17 x18 x19:=by kernel_rfl
theorem qYt:∀ f,qQL f=qDC f
 | 0=>rfl
 | f+1=>by funext x0 x1 x2 x3 x4 x5 x6 x7 x8 x9 x10 x11 x12 x13 x14 x15 x16 x17 x18 x19;rw[qmt,qYt f];rfl
theorem qmw:qY Tryz.prog qLb 1 (qE Tryz.f9 6):=
 qg mixed qYr (qN.of (l':=[]) (by kernel_rfl) trivial) (q:=6) (kin:=[1,5,8,19,20,21]) (kout:=[1,4,5,6,8]) (by kernel_rfl) (by kernel_rfl) fun vs objs K r h=>by
  replace h:qQM vs objs K=some r:=h
  unfold qQM at h
  split at h
  ·skip
   obtain⟨t,h1,h2⟩:=qD h
   rw[<- qYt] at h1
   refine⟨_,qQK,t,qB,h1,fun e vs' objs' hd=>?_⟩
   unfold qQK at hd
   split at hd
   ·skip
    cases hd
    exact h2
   ·skip
    cases hd
    exact h2
   ·cases hd
  ·cases h
def qYs:V->List Obj->Option (Int×LI×LI×Int×Int):=fun v objs=>match v,objs with
 | .tup [W.s (.i .i64 y0),W.agg [.arr .i8 81 y1,.arr .i8 16 y2,.one [.i .i8 y3]],W.s (.i .i64 y4)],[]=>some (y0,y1,y2,y3,y4)
 | _,_=>none
theorem qms (x0 x1:LI) (x2:Int) (x3 x4 x5:Nat) (x6:LL):fnE qLb Tryz.f9 ([.agg [.arr .i8 81 x0,.arr .i8 16 x1,.one [.i .i8 x2]],.s (.sl 0 x3 x4 false)]) ([.sli 37 true (.rows [.i .i64,.i .i64,.i .i64,.b] x5 x6)]) (qAG 1 qYs)=qGT x0 x1 x2 x3 x4 x5 x6:=by kernel_rfl
def qYq:HA:=fun o vs objs K=>match vs,List.map Obj.toRO objs with
 | [.agg [.arr .i8 81 x0,.arr .i8 16 x1,.one [.i .i8 x2]],.s (.sl 0 x3 x4 false)],[.sli 37 true (.rows [.i .i64,.i .i64,.i .i64,.b] x5 x6)]=>ob (qGT x0 x1 x2 x3 x4 x5 x6) fun z=>K true (.tup [W.s (.i .i64 (z.1)),W.agg [.arr .i8 81 (z.2.1),.arr .i8 16 (z.2.2.1),.one [.i .i8 (z.2.2.2.1)]],W.s (.i .i64 (z.2.2.2.2))]) ([])
 | _,_=>o 9 vs objs K
def qYu (o:Orc):Orc:=qK 9 (qYq o) o
theorem qmv:OQ Tryz.prog qYu:=fun _ ho=>qM ho fun vs objs K r h=>by
 unfold qYq at h
 split at h
 ·skip
  have hq:List.map Obj.toRO objs=_:=(by rename_i hq;first | exact hq | assumption)
  obtain⟨t,h1,h2⟩:=qD h
  refine qAc mixed qYr (m:=1) (fn:=Tryz.f9) (b:=(Tryz.f9).body.getD .skip) (by kernel_rfl) (by kernel_rfl) (by kernel_rfl) hq (by kernel_rfl) (by kernel_rfl) (qN.of (l':=[qE Tryz.f9 6]) (by kernel_rfl) ⟨qmw,trivial⟩) ((qms _ _ _ _ _ _ _).trans h1) fun v objs' hd=>?_
  unfold qYs at hd;split at hd;(cases hd;exact h2);cases hd
 ·exact ho _ _ _ _ _ h
def qbP:Ctx:=mkC 23 (qI) [] qU
theorem qqL:CtxOK Tryz.prog qbP:=mkC_ok (qL)
def qbQ:V->List Obj->Option (Int):=fun v objs=>match v,objs with
 | .s (.i .i64 y0),[]=>some (y0)
 | _,_=>none
theorem qqK (x0:Int):fnE qbP Tryz.f31 ([.s (.i .i64 x0)]) ([]) qbQ=qAU x0:=by kernel_rfl
def qbO:HA:=fun o vs objs K=>match vs,objs with
 | [.s (.i .i64 x0)],[]=>ob (qAU x0) fun y0=>K false (.s (.i .i64 y0)) ([])
 | _,_=>o 31 vs objs K
def qDH (o:Orc):Orc:=qK 31 (qbO o) o
theorem qDs:OQ Tryz.prog qDH:=fun _ ho=>qM ho fun vs objs K r h=>by
 unfold qbO at h
 split at h
 ·skip
  obtain⟨t,h1,h2⟩:=qD h
  refine qX mixed qqL ((qqK _).trans h1) (by kernel_rfl) fun v objs' hd=>?_
  unfold qbQ at hd;split at hd;(cases hd;exact h2);cases hd
 ·exact ho _ _ _ _ _ h
def qRp:Ex->List V->List Obj->Option (Int):=fun e vs objs=>match e,vs,objs with
 | .exit 0,[.s (.i .i64 y0)],[]=>some (y0)
 | _,_,_=>none
def qRs:HL:=fun vs objs K=>match vs,objs with
 | [.s (.i .i64 x0),.s (.i .i64 x1),.s (.ptr 0 0 none 0),.s (.i .i64 x2),.s (.i .i64 x3)],[.cells 28 [.arr .i8 81 x4,.arr .i8 16 x5,.one [.i .i8 x6]]]=>ob (qCY qB x0 x1 x2 x3 x4 x5 x6) fun y0=>K (.exit 0) ([.s (.i .i64 y0)]) ([])
 | _,_=>none
def qrI:{R:Type}->Nat->List V->List Obj->(Ex->List V->List Obj->Option R)->Option R:=fun q vs objs K=>bif Nat.beq q 3 then qRs vs objs K else none
def qMY:Ctx:=mkC 26 (qI) [(3,[1,2,3,7,8],[7])] qrI
theorem qcU:CtxOK Tryz.prog qMY:=mkC_ok (qL)
def qRq (f:Nat) (x0 x1:Int) (x2 x3:Int) (x4 x5:LI) (x6:Int):Option (Int):=qf qMY 0 [1,2,3,7,8] [7] (qE Tryz.f67 3) f ([.s (.i .i64 x0),.s (.i .i64 x1),.s (.ptr 0 0 none 0),.s (.i .i64 x2),.s (.i .i64 x3)]) ([.cells 28 [.arr .i8 81 x4,.arr .i8 16 x5,.one [.i .i8 x6]]]) qRp
theorem qrH (f:Nat) (x0 x1:Int) (x2 x3:Int) (x4 x5:LI) (x6:Int):qRq (f+1) x0 x1 x2 x3 x4 x5 x6=qD0 (qRq f) x0 x1 x2 x3 x4 x5 x6:=by kernel_rfl
theorem qcW:∀ f,qRq f=qCY f
 | 0=>rfl
 | f+1=>by funext x0 x1 x2 x3 x4 x5 x6;rw[qrH,qcW f];rfl
theorem qrJ:qY Tryz.prog qMY 0 (qE Tryz.f67 3):=
 qg mixed qcU (qN.of (l':=[]) (by kernel_rfl) trivial) (q:=3) (kin:=[1,2,3,7,8]) (kout:=[7]) (by kernel_rfl) (by kernel_rfl) fun vs objs K r h=>by
  replace h:qRs vs objs K=some r:=h
  unfold qRs at h
  split at h
  ·skip
   obtain⟨t,h1,h2⟩:=qD h
   rw[<- qcW] at h1
   refine⟨_,qRp,t,qB,h1,fun e vs' objs' hd=>?_⟩
   unfold qRp at hd;split at hd;(cases hd;exact h2);cases hd
  ·cases h
def qcV:V->List Obj->Option (Int):=fun v objs=>match v,objs with
 | .s (.i .i64 y0),[]=>some (y0)
 | _,_=>none
theorem qrG (x0 x1:LI) (x2 x3 x4:Int):fnE qMY Tryz.f67 ([.agg [.arr .i8 81 x0,.arr .i8 16 x1,.one [.i .i8 x2]],.s (.i .i64 x3),.s (.i .i64 x4)]) ([]) qcV=qDz x0 x1 x2 x3 x4:=by kernel_rfl
def qcT:HA:=fun o vs objs K=>match vs,objs with
 | [.agg [.arr .i8 81 x0,.arr .i8 16 x1,.one [.i .i8 x2]],.s (.i .i64 x3),.s (.i .i64 x4)],[]=>ob (qDz x0 x1 x2 x3 x4) fun y0=>K false (.s (.i .i64 y0)) ([])
 | _,_=>o 67 vs objs K
def qMZ (o:Orc):Orc:=qK 67 (qcT o) o
theorem qRr:OQ Tryz.prog qMZ:=fun _ ho=>qM ho fun vs objs K r h=>by
 unfold qcT at h
 split at h
 ·skip
  obtain⟨t,h1,h2⟩:=qD h
  refine q7 mixed qcU (fn:=Tryz.f67) (b:=(Tryz.f67).body.getD .skip) (by kernel_rfl) (by kernel_rfl) (by kernel_rfl) ((qrG _ _ _ _ _).trans h1) (m:=0) rfl (qN.of (l':=[qE Tryz.f67 3]) (by kernel_rfl) ⟨qrJ,trivial⟩) fun v objs' hd=>?_
  unfold qcV at hd;split at hd;(cases hd;exact h2);cases hd
 ·exact ho _ _ _ _ _ h
def qRx:Ex->List V->List Obj->Option (Int):=fun e vs objs=>match e,vs,objs with
 | .exit 0,[.s (.i .i64 y0)],[]=>some (y0)
 | _,_,_=>none
def qRz:HL:=fun vs objs K=>match vs,objs with
 | [.s (.i .i64 x0),.s (.ptr 0 0 none 0),.s (.i .i64 x1),.s (.i .i64 x2)],[.cells 28 [.arr .i8 81 x3,.arr .i8 16 x4,.one [.i .i8 x5]]]=>ob (qCZ qB x0 x1 x2 x3 x4 x5) fun y0=>K (.exit 0) ([.s (.i .i64 y0)]) ([])
 | _,_=>none
def qrQ:{R:Type}->Nat->List V->List Obj->(Ex->List V->List Obj->Option R)->Option R:=fun q vs objs K=>bif Nat.beq q 3 then qRz vs objs K else none
def qMc:Ctx:=mkC 18 ((qMZ qI)) [(3,[1,2,5,6],[5])] qrQ
theorem qcc:CtxOK Tryz.prog qMc:=mkC_ok ((qRr _ qL))
def qRy (f:Nat) (x0 x1 x2:Int) (x3 x4:LI) (x5:Int):Option (Int):=qf qMc 0 [1,2,5,6] [5] (qE Tryz.f63 3) f ([.s (.i .i64 x0),.s (.ptr 0 0 none 0),.s (.i .i64 x1),.s (.i .i64 x2)]) ([.cells 28 [.arr .i8 81 x3,.arr .i8 16 x4,.one [.i .i8 x5]]]) qRx
theorem qrP (f:Nat) (x0 x1 x2:Int) (x3 x4:LI) (x5:Int):qRy (f+1) x0 x1 x2 x3 x4 x5=qD1 (qRy f) x0 x1 x2 x3 x4 x5:=by kernel_rfl
theorem qce:∀ f,qRy f=qCZ f
 | 0=>rfl
 | f+1=>by funext x0 x1 x2 x3 x4 x5;rw[qrP,qce f];rfl
theorem qrS:qY Tryz.prog qMc 0 (qE Tryz.f63 3):=
 qg mixed qcc (qN.of (l':=[]) (by kernel_rfl) trivial) (q:=3) (kin:=[1,2,5,6]) (kout:=[5]) (by kernel_rfl) (by kernel_rfl) fun vs objs K r h=>by
  replace h:qRz vs objs K=some r:=h
  unfold qRz at h
  split at h
  ·skip
   obtain⟨t,h1,h2⟩:=qD h
   rw[<- qce] at h1
   refine⟨_,qRx,t,qB,h1,fun e vs' objs' hd=>?_⟩
   unfold qRx at hd;split at hd;(cases hd;exact h2);cases hd
  ·cases h
def qcd:V->List Obj->Option (Int):=fun v objs=>match v,objs with
 | .s (.i .i64 y0),[]=>some (y0)
 | _,_=>none
theorem qrO (x0 x1:LI) (x2 x3:Int):fnE qMc Tryz.f63 ([.agg [.arr .i8 81 x0,.arr .i8 16 x1,.one [.i .i8 x2]],.s (.i .i64 x3)]) ([]) qcd=qCH x0 x1 x2 x3:=by kernel_rfl
def qcb:HA:=fun o vs objs K=>match vs,objs with
 | [.agg [.arr .i8 81 x0,.arr .i8 16 x1,.one [.i .i8 x2]],.s (.i .i64 x3)],[]=>ob (qCH x0 x1 x2 x3) fun y0=>K false (.s (.i .i64 y0)) ([])
 | _,_=>o 63 vs objs K
def qcf (o:Orc):Orc:=qK 63 (qcb o) o
theorem qrR:OQ Tryz.prog qcf:=fun _ ho=>qM ho fun vs objs K r h=>by
 unfold qcb at h
 split at h
 ·skip
  obtain⟨t,h1,h2⟩:=qD h
  refine q7 mixed qcc (fn:=Tryz.f63) (b:=(Tryz.f63).body.getD .skip) (by kernel_rfl) (by kernel_rfl) (by kernel_rfl) ((qrO _ _ _ _).trans h1) (m:=0) rfl (qN.of (l':=[qE Tryz.f63 3]) (by kernel_rfl) ⟨qrS,trivial⟩) fun v objs' hd=>?_
  unfold qcd at hd;split at hd;(cases hd;exact h2);cases hd
 ·exact ho _ _ _ _ _ h
def qbS:Ctx:=mkC 18 (qI) [] qU
theorem qqN:CtxOK Tryz.prog qbS:=mkC_ok (qL)
def qbT:V->List Obj->Option (Int):=fun v objs=>match v,objs with
 | .s (.i .i64 y0),[]=>some (y0)
 | _,_=>none
theorem qqM (x0:Int):fnE qbS Tryz.f30 ([.s (.i .i64 x0)]) ([]) qbT=qH9 x0:=by kernel_rfl
def qbR:HA:=fun o vs objs K=>match vs,objs with
 | [.s (.i .i64 x0)],[]=>ob (qH9 x0) fun y0=>K false (.s (.i .i64 y0)) ([])
 | _,_=>o 30 vs objs K
def qRI (o:Orc):Orc:=qK 30 (qbR o) o
theorem qbU:OQ Tryz.prog qRI:=fun _ ho=>qM ho fun vs objs K r h=>by
 unfold qbR at h
 split at h
 ·skip
  obtain⟨t,h1,h2⟩:=qD h
  refine qX mixed qqN ((qqM _).trans h1) (by kernel_rfl) fun v objs' hd=>?_
  unfold qbT at hd;split at hd;(cases hd;exact h2);cases hd
 ·exact ho _ _ _ _ _ h
def qRm:Ex->List V->List Obj->Option (Int×Int×LI×LI×Int):=fun e vs objs=>match e,vs,objs with
 | .exit 0,[.s (.i .i64 y0),.s (.ptr 0 0 none 0),.s (.i .i64 y1)],[.cells 28 [.arr .i8 81 y2,.arr .i8 16 y3,.one [.i .i8 y4]]]=>some (y0,y1,y2,y3,y4)
 | _,_,_=>none
def qRo:HL:=fun vs objs K=>match vs,objs with
 | [.s (.i .i64 x0),.s (.ptr 0 0 none 0),.s (.i .i64 x1),.s (.i .i64 x2)],[.cells 28 [.arr .i8 81 x3,.arr .i8 16 x4,.one [.i .i8 x5]]]=>ob (qFn qB x0 x1 x2 x3 x4 x5) fun z=>K (.exit 0) ([.s (.i .i64 (z.1)),.s (.ptr 0 0 none 0),.s (.i .i64 (z.2.1))]) ([.cells 28 [.arr .i8 81 (z.2.2.1),.arr .i8 16 (z.2.2.2.1),.one [.i .i8 (z.2.2.2.2)]]])
 | _,_=>none
def qrD:{R:Type}->Nat->List V->List Obj->(Ex->List V->List Obj->Option R)->Option R:=fun q vs objs K=>bif Nat.beq q 3 then qRo vs objs K else none
def qMX:Ctx:=mkC 37 ((qRI (qDH qI))) [(3,[1,2,5,6],[1,2,5])] qrD
theorem qcP:CtxOK Tryz.prog qMX:=mkC_ok ((qbU _ (qDs _ qL)))
def qRn (f:Nat) (x0 x1 x2:Int) (x3 x4:LI) (x5:Int):Option (Int×Int×LI×LI×Int):=qf qMX 0 [1,2,5,6] [1,2,5] (qE Tryz.f64 3) f ([.s (.i .i64 x0),.s (.ptr 0 0 none 0),.s (.i .i64 x1),.s (.i .i64 x2)]) ([.cells 28 [.arr .i8 81 x3,.arr .i8 16 x4,.one [.i .i8 x5]]]) qRm
theorem qrC (f:Nat) (x0 x1 x2:Int) (x3 x4:LI) (x5:Int):qRn (f+1) x0 x1 x2 x3 x4 x5=qIE (qRn f) x0 x1 x2 x3 x4 x5:=by kernel_rfl
theorem qcR:∀ f,qRn f=qFn f
 | 0=>rfl
 | f+1=>by funext x0 x1 x2 x3 x4 x5;rw[qrC,qcR f];rfl
theorem qrF:qY Tryz.prog qMX 0 (qE Tryz.f64 3):=
 qg mixed qcP (qN.of (l':=[]) (by kernel_rfl) trivial) (q:=3) (kin:=[1,2,5,6]) (kout:=[1,2,5]) (by kernel_rfl) (by kernel_rfl) fun vs objs K r h=>by
  replace h:qRo vs objs K=some r:=h
  unfold qRo at h
  split at h
  ·skip
   obtain⟨t,h1,h2⟩:=qD h
   rw[<- qcR] at h1
   refine⟨_,qRm,t,qB,h1,fun e vs' objs' hd=>?_⟩
   unfold qRm at hd;split at hd;(cases hd;exact h2);cases hd
  ·cases h
def qcQ:V->List Obj->Option (Int):=fun v objs=>match v,objs with
 | .s (.i .i64 y0),[]=>some (y0)
 | _,_=>none
theorem qrB (x0 x1:LI) (x2 x3:Int):fnE qMX Tryz.f64 ([.agg [.arr .i8 81 x0,.arr .i8 16 x1,.one [.i .i8 x2]],.s (.i .i64 x3)]) ([]) qcQ=qJm x0 x1 x2 x3:=by kernel_rfl
def qcO:HA:=fun o vs objs K=>match vs,objs with
 | [.agg [.arr .i8 81 x0,.arr .i8 16 x1,.one [.i .i8 x2]],.s (.i .i64 x3)],[]=>ob (qJm x0 x1 x2 x3) fun y0=>K false (.s (.i .i64 y0)) ([])
 | _,_=>o 64 vs objs K
def qcS (o:Orc):Orc:=qK 64 (qcO o) o
theorem qrE:OQ Tryz.prog qcS:=fun _ ho=>qM ho fun vs objs K r h=>by
 unfold qcO at h
 split at h
 ·skip
  obtain⟨t,h1,h2⟩:=qD h
  refine q7 mixed qcP (fn:=Tryz.f64) (b:=(Tryz.f64).body.getD .skip) (by kernel_rfl) (by kernel_rfl) (by kernel_rfl) ((qrB _ _ _ _).trans h1) (m:=0) rfl (qN.of (l':=[qE Tryz.f64 3]) (by kernel_rfl) ⟨qrF,trivial⟩) fun v objs' hd=>?_
  unfold qcQ at hd;split at hd;(cases hd;exact h2);cases hd
 ·exact ho _ _ _ _ _ h
def qbZ:Ctx:=mkC 15 (qI) [] qU
theorem qqR:CtxOK Tryz.prog qbZ:=mkC_ok (qL)
def qba:V->List Obj->Option (Int):=fun v objs=>match v,objs with
 | .s (.i .i64 y0),[]=>some (y0)
 | _,_=>none
theorem qqQ (x0:Int):fnE qbZ Tryz.f65 ([.s (.i .i64 x0)]) ([]) qba=qJj x0:=by kernel_rfl
def qbY:HA:=fun o vs objs K=>match vs,objs with
 | [.s (.i .i64 x0)],[]=>ob (qJj x0) fun y0=>K false (.s (.i .i64 y0)) ([])
 | _,_=>o 65 vs objs K
def qbb (o:Orc):Orc:=qK 65 (qbY o) o
theorem qqS:OQ Tryz.prog qbb:=fun _ ho=>qM ho fun vs objs K r h=>by
 unfold qbY at h
 split at h
 ·skip
  obtain⟨t,h1,h2⟩:=qD h
  refine qX mixed qqR ((qqQ _).trans h1) (by kernel_rfl) fun v objs' hd=>?_
  unfold qba at hd;split at hd;(cases hd;exact h2);cases hd
 ·exact ho _ _ _ _ _ h
def qbW:Ctx:=mkC 8 ((qDH qI)) [] qU
theorem qqP:CtxOK Tryz.prog qbW:=mkC_ok ((qDs _ qL))
def qbX:V->List Obj->Option (Int):=fun v objs=>match v,objs with
 | .s (.i .i64 y0),[]=>some (y0)
 | _,_=>none
theorem qqO (x0:Int):fnE qbW Tryz.f46 ([.s (.i .i64 x0)]) ([]) qbX=qBA x0:=by kernel_rfl
def qbV:HA:=fun o vs objs K=>match vs,objs with
 | [.s (.i .i64 x0)],[]=>ob (qBA x0) fun y0=>K false (.s (.i .i64 y0)) ([])
 | _,_=>o 46 vs objs K
def qFh (o:Orc):Orc:=qK 46 (qbV o) o
theorem qGg:OQ Tryz.prog qFh:=fun _ ho=>qM ho fun vs objs K r h=>by
 unfold qbV at h
 split at h
 ·skip
  obtain⟨t,h1,h2⟩:=qD h
  refine qX mixed qqP ((qqO _).trans h1) (by kernel_rfl) fun v objs' hd=>?_
  unfold qbX at hd;split at hd;(cases hd;exact h2);cases hd
 ·exact ho _ _ _ _ _ h
def qbj:Ctx:=mkC 26 (qI) [] qU
theorem qqY:CtxOK Tryz.prog qbj:=mkC_ok (qL)
def qbk:V->List Obj->Option (Int):=fun v objs=>match v,objs with
 | .s (.i .i64 y0),[]=>some (y0)
 | _,_=>none
theorem qqX (x0 x1:Int):fnE qbj Tryz.f102 ([.s (.i .i64 x0),.s (.i .i64 x1)]) ([]) qbk=qDJ x0 x1:=by kernel_rfl
def qbi:HA:=fun o vs objs K=>match vs,objs with
 | [.s (.i .i64 x0),.s (.i .i64 x1)],[]=>ob (qDJ x0 x1) fun y0=>K false (.s (.i .i64 y0)) ([])
 | _,_=>o 102 vs objs K
def qRL (o:Orc):Orc:=qK 102 (qbi o) o
theorem qbl:OQ Tryz.prog qRL:=fun _ ho=>qM ho fun vs objs K r h=>by
 unfold qbi at h
 split at h
 ·skip
  obtain⟨t,h1,h2⟩:=qD h
  refine qX mixed qqY ((qqX _ _).trans h1) (by kernel_rfl) fun v objs' hd=>?_
  unfold qbk at hd;split at hd;(cases hd;exact h2);cases hd
 ·exact ho _ _ _ _ _ h
def qbg:Ctx:=mkC 35 ((qDH (qRL (qFh qI)))) [] qU
theorem qqW:CtxOK Tryz.prog qbg:=mkC_ok ((qDs _ (qbl _ (qGg _ qL))))
def qbh:V->List Obj->Option (Bool):=fun v objs=>match v,objs with
 | .s (.b y0),[]=>some (y0)
 | _,_=>none
theorem qqV (x0 x1:Int):fnE qbg Tryz.f66 ([.s (.i .i64 x0),.s (.i .i64 x1)]) ([]) qbh=qDI x0 x1:=by kernel_rfl
def qbf:HA:=fun o vs objs K=>match vs,objs with
 | [.s (.i .i64 x0),.s (.i .i64 x1)],[]=>ob (qDI x0 x1) fun y0=>K false (.s (.b y0)) ([])
 | _,_=>o 66 vs objs K
def qMT (o:Orc):Orc:=qK 66 (qbf o) o
theorem qRK:OQ Tryz.prog qMT:=fun _ ho=>qM ho fun vs objs K r h=>by
 unfold qbf at h
 split at h
 ·skip
  obtain⟨t,h1,h2⟩:=qD h
  refine qX mixed qqW ((qqV _ _).trans h1) (by kernel_rfl) fun v objs' hd=>?_
  unfold qbh at hd;split at hd;(cases hd;exact h2);cases hd
 ·exact ho _ _ _ _ _ h
def qRc:Ex->List V->List Obj->Option ((Int×LI×LI×Int)⊕(LI×LI×Int)):=fun e vs objs=>match e,vs,objs with
 | .ret,[.s (.ptr 0 0 none 0),.s (.i .i64 y0)],[.cells 28 [.arr .i8 81 y1,.arr .i8 16 y2,.one [.i .i8 y3]]]=>some (.inl (y0,y1,y2,y3))
 | .exit 0,[.s (.ptr 0 0 none 0),.s .bad],[.cells 28 [.arr .i8 81 y0,.arr .i8 16 y1,.one [.i .i8 y2]]]=>some (.inr (y0,y1,y2))
 | _,_,_=>none
def qRU:Ex->List V->List Obj->Option ((Int×Int×LI×LI×Int)⊕(Int×LI×LI×Int)):=fun e vs objs=>match e,vs,objs with
 | .ret,[.s (.ptr 0 0 none 0),.s (.i .i64 y0),.s (.i .i64 y1)],[.cells 28 [.arr .i8 81 y2,.arr .i8 16 y3,.one [.i .i8 y4]]]=>some (.inl (y0,y1,y2,y3,y4))
 | .exit 4,[.s (.ptr 0 0 none 0),.s .bad,.s (.i .i64 y0)],[.cells 28 [.arr .i8 81 y1,.arr .i8 16 y2,.one [.i .i8 y3]]]=>some (.inr (y0,y1,y2,y3))
 | _,_,_=>none
def qRe:Ex->List V->List Obj->Option ((Int×LI×LI×Int)⊕(LI×LI×Int)):=fun e vs objs=>match e,vs,objs with
 | .ret,[.s (.ptr 0 0 none 0),.s (.i .i64 y0)],[.cells 28 [.arr .i8 81 y1,.arr .i8 16 y2,.one [.i .i8 y3]]]=>some (.inl (y0,y1,y2,y3))
 | .exit 2,[.s (.ptr 0 0 none 0),.s .bad],[.cells 28 [.arr .i8 81 y0,.arr .i8 16 y1,.one [.i .i8 y2]]]=>some (.inr (y0,y1,y2))
 | _,_,_=>none
def qRW:Ex->List V->List Obj->Option ((Int×LI×LI×Int)⊕(LI×LI×Int)):=fun e vs objs=>match e,vs,objs with
 | .ret,[.s (.ptr 0 0 none 0),.s (.i .i64 y0)],[.cells 28 [.arr .i8 81 y1,.arr .i8 16 y2,.one [.i .i8 y3]]]=>some (.inl (y0,y1,y2,y3))
 | .exit 6,[.s (.ptr 0 0 none 0),.s .bad],[.cells 28 [.arr .i8 81 y0,.arr .i8 16 y1,.one [.i .i8 y2]]]=>some (.inr (y0,y1,y2))
 | _,_,_=>none
def qRY:Ex->List V->List Obj->Option ((Int×LI×LI×Int)⊕(LI×LI×Int)):=fun e vs objs=>match e,vs,objs with
 | .ret,[.s (.ptr 0 0 none 0),.s (.i .i64 y0)],[.cells 28 [.arr .i8 81 y1,.arr .i8 16 y2,.one [.i .i8 y3]]]=>some (.inl (y0,y1,y2,y3))
 | .exit 8,[.s (.ptr 0 0 none 0),.s .bad],[.cells 28 [.arr .i8 81 y0,.arr .i8 16 y1,.one [.i .i8 y2]]]=>some (.inr (y0,y1,y2))
 | _,_,_=>none
def qRa:Ex->List V->List Obj->Option ((Int)⊕(Unit)):=fun e vs objs=>match e,vs,objs with
 | .ret,[.s (.i .i64 y0)],[]=>some (.inl (y0))
 | .exit 10,[.s .bad],[]=>some (.inr ())
 | _,_,_=>none
def qRk:HL:=fun vs objs K=>match vs,objs with
 | [.s (.ptr 0 0 none 0),.s (.i .i64 x0)],[.cells 28 [.arr .i8 81 x1,.arr .i8 16 x2,.one [.i .i8 x3]]]=>ob (qB3 qB x0 x1 x2 x3) fun t0=>sw t0 (fun z=>K (.ret) ([.s (.ptr 0 0 none 0),.s (.i .i64 (z.1))]) ([.cells 28 [.arr .i8 81 (z.2.1),.arr .i8 16 (z.2.2.1),.one [.i .i8 (z.2.2.2)]]])) (fun z=>K (.exit 0) ([.s (.ptr 0 0 none 0),.s .bad]) ([.cells 28 [.arr .i8 81 (z.1),.arr .i8 16 (z.2.1),.one [.i .i8 (z.2.2)]]]))
 | _,_=>none
def qRg:HL:=fun vs objs K=>match vs,objs with
 | [.s (.ptr 0 0 none 0),.s (.i .i64 x0),.s (.i .i64 x1)],[.cells 28 [.arr .i8 81 x2,.arr .i8 16 x3,.one [.i .i8 x4]]]=>ob (qBc qB x0 x1 x2 x3 x4) fun t0=>sw t0 (fun z=>K (.ret) ([.s (.ptr 0 0 none 0),.s (.i .i64 (z.1)),.s (.i .i64 (z.2.1))]) ([.cells 28 [.arr .i8 81 (z.2.2.1),.arr .i8 16 (z.2.2.2.1),.one [.i .i8 (z.2.2.2.2)]]])) (fun z=>K (.exit 4) ([.s (.ptr 0 0 none 0),.s .bad,.s (.i .i64 (z.1))]) ([.cells 28 [.arr .i8 81 (z.2.1),.arr .i8 16 (z.2.2.1),.one [.i .i8 (z.2.2.2)]]]))
 | _,_=>none
def qRl:HL:=fun vs objs K=>match vs,objs with
 | [.s (.ptr 0 0 none 0),.s (.i .i64 x0)],[.cells 28 [.arr .i8 81 x1,.arr .i8 16 x2,.one [.i .i8 x3]]]=>ob (qBQ qB x0 x1 x2 x3) fun t0=>sw t0 (fun z=>K (.ret) ([.s (.ptr 0 0 none 0),.s (.i .i64 (z.1))]) ([.cells 28 [.arr .i8 81 (z.2.1),.arr .i8 16 (z.2.2.1),.one [.i .i8 (z.2.2.2)]]])) (fun z=>K (.exit 2) ([.s (.ptr 0 0 none 0),.s .bad]) ([.cells 28 [.arr .i8 81 (z.1),.arr .i8 16 (z.2.1),.one [.i .i8 (z.2.2)]]]))
 | _,_=>none
def qRh:HL:=fun vs objs K=>match vs,objs with
 | [.s (.ptr 0 0 none 0),.s (.i .i64 x0)],[.cells 28 [.arr .i8 81 x1,.arr .i8 16 x2,.one [.i .i8 x3]]]=>ob (qBN qB x0 x1 x2 x3) fun t0=>sw t0 (fun z=>K (.ret) ([.s (.ptr 0 0 none 0),.s (.i .i64 (z.1))]) ([.cells 28 [.arr .i8 81 (z.2.1),.arr .i8 16 (z.2.2.1),.one [.i .i8 (z.2.2.2)]]])) (fun z=>K (.exit 6) ([.s (.ptr 0 0 none 0),.s .bad]) ([.cells 28 [.arr .i8 81 (z.1),.arr .i8 16 (z.2.1),.one [.i .i8 (z.2.2)]]]))
 | _,_=>none
def qRi:HL:=fun vs objs K=>match vs,objs with
 | [.s (.ptr 0 0 none 0),.s (.i .i64 x0)],[.cells 28 [.arr .i8 81 x1,.arr .i8 16 x2,.one [.i .i8 x3]]]=>ob (qBO qB x0 x1 x2 x3) fun t0=>sw t0 (fun z=>K (.ret) ([.s (.ptr 0 0 none 0),.s (.i .i64 (z.1))]) ([.cells 28 [.arr .i8 81 (z.2.1),.arr .i8 16 (z.2.2.1),.one [.i .i8 (z.2.2.2)]]])) (fun z=>K (.exit 8) ([.s (.ptr 0 0 none 0),.s .bad]) ([.cells 28 [.arr .i8 81 (z.1),.arr .i8 16 (z.2.1),.one [.i .i8 (z.2.2)]]]))
 | _,_=>none
def qRj:HL:=fun vs objs K=>match vs,objs with
 | [.s (.ptr 0 0 none 0),.s (.i .i64 x0)],[.cells 28 [.arr .i8 81 x1,.arr .i8 16 x2,.one [.i .i8 x3]]]=>ob (qBP qB x0 x1 x2 x3) fun t0=>sw t0 (fun y0=>K (.ret) ([.s (.i .i64 y0)]) ([])) (fun _=>K (.exit 10) ([.s .bad]) ([]))
 | _,_=>none
def qq3:{R:Type}->Nat->List V->List Obj->(Ex->List V->List Obj->Option R)->Option R:=fun q vs objs K=>bif Nat.beq q 4 then qRk vs objs K else bif Nat.beq q 12 then qRg vs objs K else bif Nat.beq q 9 then qRl vs objs K else bif Nat.beq q 20 then qRh vs objs K else bif Nat.beq q 25 then qRi vs objs K else bif Nat.beq q 30 then qRj vs objs K else none
def qCG:Ctx:=mkC 103 ((qMZ (qMT (qbb (qcS (qcf (qDH qI))))))) [(4,[1,3],[1,2]),(9,[1,4],[1,2]),(12,[1,4,5],[1,2,4]),(20,[1,7],[1,2]),(25,[1,8],[1,2]),(30,[1,9],[2])] qq3
theorem qGh:CtxOK Tryz.prog qCG:=mkC_ok ((qRr _ (qRK _ (qqS _ (qrE _ (qrR _ (qDs _ qL)))))))
def qRd (f:Nat) (x0:Int) (x1 x2:LI) (x3:Int):Option ((Int×LI×LI×Int)⊕(LI×LI×Int)):=qf qCG 0 [1,3] [1,2] (qE Tryz.f27 4) f ([.s (.ptr 0 0 none 0),.s (.i .i64 x0)]) ([.cells 28 [.arr .i8 81 x1,.arr .i8 16 x2,.one [.i .i8 x3]]]) qRc
theorem qq1 (f:Nat) (x0:Int) (x1 x2:LI) (x3:Int):qRd (f+1) x0 x1 x2 x3=qDx (qRd f) x0 x1 x2 x3:=by kernel_rfl
theorem qcL:∀ f,qRd f=qB3 f
 | 0=>rfl
 | f+1=>by funext x0 x1 x2 x3;rw[qq1,qcL f];rfl
def qRV (f:Nat) (x0 x1:Int) (x2 x3:LI) (x4:Int):Option ((Int×Int×LI×LI×Int)⊕(Int×LI×LI×Int)):=qf qCG 0 [1,4,5] [1,2,4] (qE Tryz.f27 12) f ([.s (.ptr 0 0 none 0),.s (.i .i64 x0),.s (.i .i64 x1)]) ([.cells 28 [.arr .i8 81 x2,.arr .i8 16 x3,.one [.i .i8 x4]]]) qRU
theorem qqx (f:Nat) (x0 x1:Int) (x2 x3:LI) (x4:Int):qRV (f+1) x0 x1 x2 x3 x4=qDt (qRV f) x0 x1 x2 x3 x4:=by kernel_rfl
theorem qcH:∀ f,qRV f=qBc f
 | 0=>rfl
 | f+1=>by funext x0 x1 x2 x3 x4;rw[qqx,qcH f];rfl
def qRf (f:Nat) (x0:Int) (x1 x2:LI) (x3:Int):Option ((Int×LI×LI×Int)⊕(LI×LI×Int)):=qf qCG 0 [1,4] [1,2] (qE Tryz.f27 9) f ([.s (.ptr 0 0 none 0),.s (.i .i64 x0)]) ([.cells 28 [.arr .i8 81 x1,.arr .i8 16 x2,.one [.i .i8 x3]]]) qRe
theorem qq2 (f:Nat) (x0:Int) (x1 x2:LI) (x3:Int):qRf (f+1) x0 x1 x2 x3=qDy (qRf f) x0 x1 x2 x3:=by kernel_rfl
theorem qcM:∀ f,qRf f=qBQ f
 | 0=>rfl
 | f+1=>by funext x0 x1 x2 x3;rw[qq2,qcM f];rfl
def qRX (f:Nat) (x0:Int) (x1 x2:LI) (x3:Int):Option ((Int×LI×LI×Int)⊕(LI×LI×Int)):=qf qCG 0 [1,7] [1,2] (qE Tryz.f27 20) f ([.s (.ptr 0 0 none 0),.s (.i .i64 x0)]) ([.cells 28 [.arr .i8 81 x1,.arr .i8 16 x2,.one [.i .i8 x3]]]) qRW
theorem qqy (f:Nat) (x0:Int) (x1 x2:LI) (x3:Int):qRX (f+1) x0 x1 x2 x3=qDu (qRX f) x0 x1 x2 x3:=by kernel_rfl
theorem qcI:∀ f,qRX f=qBN f
 | 0=>rfl
 | f+1=>by funext x0 x1 x2 x3;rw[qqy,qcI f];rfl
def qRZ (f:Nat) (x0:Int) (x1 x2:LI) (x3:Int):Option ((Int×LI×LI×Int)⊕(LI×LI×Int)):=qf qCG 0 [1,8] [1,2] (qE Tryz.f27 25) f ([.s (.ptr 0 0 none 0),.s (.i .i64 x0)]) ([.cells 28 [.arr .i8 81 x1,.arr .i8 16 x2,.one [.i .i8 x3]]]) qRY
theorem qqz (f:Nat) (x0:Int) (x1 x2:LI) (x3:Int):qRZ (f+1) x0 x1 x2 x3=qDv (qRZ f) x0 x1 x2 x3:=by kernel_rfl
theorem qcJ:∀ f,qRZ f=qBO f
 | 0=>rfl
 | f+1=>by funext x0 x1 x2 x3;rw[qqz,qcJ f];rfl
def qRb (f:Nat) (x0:Int) (x1 x2:LI) (x3:Int):Option ((Int)⊕(Unit)):=qf qCG 0 [1,9] [2] (qE Tryz.f27 30) f ([.s (.ptr 0 0 none 0),.s (.i .i64 x0)]) ([.cells 28 [.arr .i8 81 x1,.arr .i8 16 x2,.one [.i .i8 x3]]]) qRa
theorem qq0 (f:Nat) (x0:Int) (x1 x2:LI) (x3:Int):qRb (f+1) x0 x1 x2 x3=qDw (qRb f) x0 x1 x2 x3:=by kernel_rfl
theorem qcK:∀ f,qRb f=qBP f
 | 0=>rfl
 | f+1=>by funext x0 x1 x2 x3;rw[qq0,qcK f];rfl
theorem qq9:qY Tryz.prog qCG 0 (qE Tryz.f27 4):=
 qg mixed qGh (qN.of (l':=[]) (by kernel_rfl) trivial) (q:=4) (kin:=[1,3]) (kout:=[1,2]) (by kernel_rfl) (by kernel_rfl) fun vs objs K r h=>by
  replace h:qRk vs objs K=some r:=h
  unfold qRk at h
  split at h
  ·skip
   obtain⟨t,h1,h2⟩:=qD h
   rw[<- qcL] at h1
   refine⟨_,qRc,t,qB,h1,fun e vs' objs' hd=>?_⟩
   unfold qRc at hd
   split at hd
   ·skip
    cases hd
    exact h2
   ·skip
    cases hd
    exact h2
   ·cases hd
  ·cases h
theorem qq5:qY Tryz.prog qCG 0 (qE Tryz.f27 12):=
 qg mixed qGh (qN.of (l':=[]) (by kernel_rfl) trivial) (q:=12) (kin:=[1,4,5]) (kout:=[1,2,4]) (by kernel_rfl) (by kernel_rfl) fun vs objs K r h=>by
  replace h:qRg vs objs K=some r:=h
  unfold qRg at h
  split at h
  ·skip
   obtain⟨t,h1,h2⟩:=qD h
   rw[<- qcH] at h1
   refine⟨_,qRU,t,qB,h1,fun e vs' objs' hd=>?_⟩
   unfold qRU at hd
   split at hd
   ·skip
    cases hd
    exact h2
   ·skip
    cases hd
    exact h2
   ·cases hd
  ·cases h
theorem qq6:qY Tryz.prog qCG 0 (qE Tryz.f27 20):=
 qg mixed qGh (qN.of (l':=[]) (by kernel_rfl) trivial) (q:=20) (kin:=[1,7]) (kout:=[1,2]) (by kernel_rfl) (by kernel_rfl) fun vs objs K r h=>by
  replace h:qRh vs objs K=some r:=h
  unfold qRh at h
  split at h
  ·skip
   obtain⟨t,h1,h2⟩:=qD h
   rw[<- qcI] at h1
   refine⟨_,qRW,t,qB,h1,fun e vs' objs' hd=>?_⟩
   unfold qRW at hd
   split at hd
   ·skip
    cases hd
    exact h2
   ·skip
    cases hd
    exact h2
   ·cases hd
  ·cases h
theorem qq7:qY Tryz.prog qCG 0 (qE Tryz.f27 25):=
 qg mixed qGh (qN.of (l':=[]) (by kernel_rfl) trivial) (q:=25) (kin:=[1,8]) (kout:=[1,2]) (by kernel_rfl) (by kernel_rfl) fun vs objs K r h=>by
  replace h:qRi vs objs K=some r:=h
  unfold qRi at h
  split at h
  ·skip
   obtain⟨t,h1,h2⟩:=qD h
   rw[<- qcJ] at h1
   refine⟨_,qRY,t,qB,h1,fun e vs' objs' hd=>?_⟩
   unfold qRY at hd
   split at hd
   ·skip
    cases hd
    exact h2
   ·skip
    cases hd
    exact h2
   ·cases hd
  ·cases h
theorem qq8:qY Tryz.prog qCG 0 (qE Tryz.f27 30):=
 qg mixed qGh (qN.of (l':=[]) (by kernel_rfl) trivial) (q:=30) (kin:=[1,9]) (kout:=[2]) (by kernel_rfl) (by kernel_rfl) fun vs objs K r h=>by
  replace h:qRj vs objs K=some r:=h
  unfold qRj at h
  split at h
  ·skip
   obtain⟨t,h1,h2⟩:=qD h
   rw[<- qcK] at h1
   refine⟨_,qRa,t,qB,h1,fun e vs' objs' hd=>?_⟩
   unfold qRa at hd
   split at hd
   ·skip
    cases hd
    exact h2
   ·skip
    cases hd
    exact h2
   ·cases hd
  ·cases h
theorem qrA:qY Tryz.prog qCG 0 (qE Tryz.f27 9):=
 qg mixed qGh (qN.of (l':=[qE Tryz.f27 12]) (by kernel_rfl) ⟨qq5,trivial⟩) (q:=9) (kin:=[1,4]) (kout:=[1,2]) (by kernel_rfl) (by kernel_rfl) fun vs objs K r h=>by
  replace h:qRl vs objs K=some r:=h
  unfold qRl at h
  split at h
  ·skip
   obtain⟨t,h1,h2⟩:=qD h
   rw[<- qcM] at h1
   refine⟨_,qRe,t,qB,h1,fun e vs' objs' hd=>?_⟩
   unfold qRe at hd
   split at hd
   ·skip
    cases hd
    exact h2
   ·skip
    cases hd
    exact h2
   ·cases hd
  ·cases h
def qcG:V->List Obj->Option (Int):=fun v objs=>match v,objs with
 | .s (.i .i64 y0),[]=>some (y0)
 | _,_=>none
theorem qqw (x0 x1:LI) (x2:Int):fnE qCG Tryz.f27 ([.agg [.arr .i8 81 x0,.arr .i8 16 x1,.one [.i .i8 x2]]]) ([]) qcG=qFm x0 x1 x2:=by kernel_rfl
def qcF:HA:=fun o vs objs K=>match vs,objs with
 | [.agg [.arr .i8 81 x0,.arr .i8 16 x1,.one [.i .i8 x2]]],[]=>ob (qFm x0 x1 x2) fun y0=>K false (.s (.i .i64 y0)) ([])
 | _,_=>o 27 vs objs K
def qcN (o:Orc):Orc:=qK 27 (qcF o) o
theorem qq4:OQ Tryz.prog qcN:=fun _ ho=>qM ho fun vs objs K r h=>by
 unfold qcF at h
 split at h
 ·skip
  obtain⟨t,h1,h2⟩:=qD h
  refine q7 mixed qGh (fn:=Tryz.f27) (b:=(Tryz.f27).body.getD .skip) (by kernel_rfl) (by kernel_rfl) (by kernel_rfl) ((qqw _ _ _).trans h1) (m:=0) rfl (qN.of (l':=[qE Tryz.f27 4,qE Tryz.f27 9,qE Tryz.f27 20,qE Tryz.f27 25,qE Tryz.f27 30]) (by kernel_rfl) ⟨qq9,qrA,qq6,qq7,qq8,trivial⟩) fun v objs' hd=>?_
  unfold qcG at hd;split at hd;(cases hd;exact h2);cases hd
 ·exact ho _ _ _ _ _ h
def qRt:Ex->List V->List Obj->Option (List Bool×List Bool):=fun e vs objs=>match e,vs,objs with
 | .exit 0,[.s (.ptr 0 0 none 0),.s (.ptr 1 0 none 0)],[.cells 87 [Seg.barr 81 y0],.cells 87 [Seg.barr 81 y1]]=>some (y0,y1)
 | _,_,_=>none
def qRw:HL:=fun vs objs K=>match vs,objs with
 | [.s (.ptr 0 0 none 0),.s (.ptr 1 0 none 0),.s (.ptr 2 0 none 0),.s (.i .i64 x0)],[.cells 28 [.arr .i8 81 x1,.arr .i8 16 x2,.one [.i .i8 x3]],.cells 87 [Seg.barr 81 x4],.cells 87 [Seg.barr 81 x5]]=>ob (qEe qB x0 x1 x2 x3 x4 x5) fun z=>K (.exit 0) ([.s (.ptr 0 0 none 0),.s (.ptr 1 0 none 0)]) ([.cells 87 [Seg.barr 81 (z.1)],.cells 87 [Seg.barr 81 (z.2)]])
 | _,_=>none
def qrM:{R:Type}->Nat->List V->List Obj->(Ex->List V->List Obj->Option R)->Option R:=fun q vs objs K=>bif Nat.beq q 3 then qRw vs objs K else none
def qMa:Ctx:=mkC 18 (qI) [(3,[1,2,3,4],[2,3])] qrM
theorem qcY:CtxOK Tryz.prog qMa:=mkC_ok (qL)
def qRu (f:Nat) (x0:Int) (x1 x2:LI) (x3:Int) (x4 x5:List Bool):Option (List Bool×List Bool):=qf qMa 0 [1,2,3,4] [2,3] (qE Tryz.f44 3) f ([.s (.ptr 0 0 none 0),.s (.ptr 1 0 none 0),.s (.ptr 2 0 none 0),.s (.i .i64 x0)]) ([.cells 28 [.arr .i8 81 x1,.arr .i8 16 x2,.one [.i .i8 x3]],.cells 87 [Seg.barr 81 x4],.cells 87 [Seg.barr 81 x5]]) qRt
theorem qrL (f:Nat) (x0:Int) (x1 x2:LI) (x3:Int) (x4 x5:List Bool):qRu (f+1) x0 x1 x2 x3 x4 x5=qIF (qRu f) x0 x1 x2 x3 x4 x5:=by kernel_rfl
theorem qca:∀ f,qRu f=qEe f
 | 0=>rfl
 | f+1=>by funext x0 x1 x2 x3 x4 x5;rw[qrL,qca f];rfl
theorem qrN:qY Tryz.prog qMa 0 (qE Tryz.f44 3):=
 qg mixed qcY (qN.of (l':=[]) (by kernel_rfl) trivial) (q:=3) (kin:=[1,2,3,4]) (kout:=[2,3]) (by kernel_rfl) (by kernel_rfl) fun vs objs K r h=>by
  replace h:qRw vs objs K=some r:=h
  unfold qRw at h
  split at h
  ·skip
   obtain⟨t,h1,h2⟩:=qD h
   rw[<- qca] at h1
   refine⟨_,qRt,t,qB,h1,fun e vs' objs' hd=>?_⟩
   unfold qRt at hd;split at hd;(cases hd;exact h2);cases hd
  ·cases h
def qcZ:V->List Obj->Option (List Bool):=fun v objs=>match v,objs with
 | .agg [Seg.barr 81 y0],[]=>some (y0)
 | _,_=>none
theorem qrK (x0 x1:LI) (x2:Int):fnE qMa Tryz.f44 ([.agg [.arr .i8 81 x0,.arr .i8 16 x1,.one [.i .i8 x2]]]) ([]) qcZ=qEd x0 x1 x2:=by kernel_rfl
def qcX:HA:=fun o vs objs K=>match vs,objs with
 | [.agg [.arr .i8 81 x0,.arr .i8 16 x1,.one [.i .i8 x2]]],[]=>ob (qEd x0 x1 x2) fun y0=>K false (.agg [Seg.barr 81 y0]) ([])
 | _,_=>o 44 vs objs K
def qMb (o:Orc):Orc:=qK 44 (qcX o) o
theorem qRv:OQ Tryz.prog qMb:=fun _ ho=>qM ho fun vs objs K r h=>by
 unfold qcX at h
 split at h
 ·skip
  obtain⟨t,h1,h2⟩:=qD h
  refine q7 mixed qcY (fn:=Tryz.f44) (b:=(Tryz.f44).body.getD .skip) (by kernel_rfl) (by kernel_rfl) (by kernel_rfl) ((qrK _ _ _).trans h1) (m:=0) rfl (qN.of (l':=[qE Tryz.f44 3]) (by kernel_rfl) ⟨qrN,trivial⟩) fun v objs' hd=>?_
  unfold qcZ at hd;split at hd;(cases hd;exact h2);cases hd
 ·exact ho _ _ _ _ _ h
def qR3:Ex->List V->List Obj->Option ((Int)⊕(Unit)):=fun e vs objs=>match e,vs,objs with
 | .ret,[.s (.i .i64 y0)],[]=>some (.inl (y0))
 | .exit 0,[.s .bad],[]=>some (.inr ())
 | _,_,_=>none
def qR5:HL:=fun vs objs K=>match vs,objs with
 | [.s (.i .i64 x0),.s (.ptr 0 0 none 0),.s (.i .i64 x1)],[.cells 28 [.arr .i8 81 x2,.arr .i8 16 x3,.one [.i .i8 x4]]]=>ob (qFp qB x0 x1 x2 x3 x4) fun t0=>sw t0 (fun y0=>K (.ret) ([.s (.i .i64 y0)]) ([])) (fun _=>K (.exit 0) ([.s .bad]) ([]))
 | _,_=>none
def qrf:{R:Type}->Nat->List V->List Obj->(Ex->List V->List Obj->Option R)->Option R:=fun q vs objs K=>bif Nat.beq q 2 then qR5 vs objs K else none
def qMe:Ctx:=mkC 20 (qI) [(2,[1,2,5],[4])] qrf
theorem qct:CtxOK Tryz.prog qMe:=mkC_ok (qL)
def qR4 (f:Nat) (x0 x1:Int) (x2 x3:LI) (x4:Int):Option ((Int)⊕(Unit)):=qf qMe 0 [1,2,5] [4] (qE Tryz.f45 2) f ([.s (.i .i64 x0),.s (.ptr 0 0 none 0),.s (.i .i64 x1)]) ([.cells 28 [.arr .i8 81 x2,.arr .i8 16 x3,.one [.i .i8 x4]]]) qR3
theorem qre (f:Nat) (x0 x1:Int) (x2 x3:LI) (x4:Int):qR4 (f+1) x0 x1 x2 x3 x4=qII (qR4 f) x0 x1 x2 x3 x4:=by kernel_rfl
theorem qcv:∀ f,qR4 f=qFp f
 | 0=>rfl
 | f+1=>by funext x0 x1 x2 x3 x4;rw[qre,qcv f];rfl
theorem qrh:qY Tryz.prog qMe 0 (qE Tryz.f45 2):=
 qg mixed qct (qN.of (l':=[]) (by kernel_rfl) trivial) (q:=2) (kin:=[1,2,5]) (kout:=[4]) (by kernel_rfl) (by kernel_rfl) fun vs objs K r h=>by
  replace h:qR5 vs objs K=some r:=h
  unfold qR5 at h
  split at h
  ·skip
   obtain⟨t,h1,h2⟩:=qD h
   rw[<- qcv] at h1
   refine⟨_,qR3,t,qB,h1,fun e vs' objs' hd=>?_⟩
   unfold qR3 at hd
   split at hd
   ·skip
    cases hd
    exact h2
   ·skip
    cases hd
    exact h2
   ·cases hd
  ·cases h
def qcu:V->List Obj->Option (Int):=fun v objs=>match v,objs with
 | .s (.i .i64 y0),[]=>some (y0)
 | _,_=>none
theorem qrd (x0 x1:LI) (x2 x3:Int):fnE qMe Tryz.f45 ([.agg [.arr .i8 81 x0,.arr .i8 16 x1,.one [.i .i8 x2]],.s (.i .i64 x3)]) ([]) qcu=qJq x0 x1 x2 x3:=by kernel_rfl
def qcs:HA:=fun o vs objs K=>match vs,objs with
 | [.agg [.arr .i8 81 x0,.arr .i8 16 x1,.one [.i .i8 x2]],.s (.i .i64 x3)],[]=>ob (qJq x0 x1 x2 x3) fun y0=>K false (.s (.i .i64 y0)) ([])
 | _,_=>o 45 vs objs K
def qcw (o:Orc):Orc:=qK 45 (qcs o) o
theorem qrg:OQ Tryz.prog qcw:=fun _ ho=>qM ho fun vs objs K r h=>by
 unfold qcs at h
 split at h
 ·skip
  obtain⟨t,h1,h2⟩:=qD h
  refine q7 mixed qct (fn:=Tryz.f45) (b:=(Tryz.f45).body.getD .skip) (by kernel_rfl) (by kernel_rfl) (by kernel_rfl) ((qrd _ _ _ _).trans h1) (m:=0) rfl (qN.of (l':=[qE Tryz.f45 2]) (by kernel_rfl) ⟨qrh,trivial⟩) fun v objs' hd=>?_
  unfold qcu at hd;split at hd;(cases hd;exact h2);cases hd
 ·exact ho _ _ _ _ _ h
def qbr:Ctx:=mkC 8 (qI) [] qU
theorem qqd:CtxOK Tryz.prog qbr:=mkC_ok (qL)
def qbs:V->List Obj->Option (Int):=fun v objs=>match v,objs with
 | .s (.i .i64 y0),[]=>some (y0)
 | _,_=>none
theorem qqc (x0:Int):fnE qbr Tryz.f116 ([.s (.i .i64 x0)]) ([]) qbs=qFi x0:=by kernel_rfl
def qbq:HA:=fun o vs objs K=>match vs,objs with
 | [.s (.i .i64 x0)],[]=>ob (qFi x0) fun y0=>K false (.s (.i .i64 y0)) ([])
 | _,_=>o 116 vs objs K
def qbt (o:Orc):Orc:=qK 116 (qbq o) o
theorem qqe:OQ Tryz.prog qbt:=fun _ ho=>qM ho fun vs objs K r h=>by
 unfold qbq at h
 split at h
 ·skip
  obtain⟨t,h1,h2⟩:=qD h
  refine qX mixed qqd ((qqc _).trans h1) (by kernel_rfl) fun v objs' hd=>?_
  unfold qbs at hd;split at hd;(cases hd;exact h2);cases hd
 ·exact ho _ _ _ _ _ h
def qbn:Ctx:=mkC 125 ((qDH (qFh (qbt qI)))) [] qU
theorem qqa:CtxOK Tryz.prog qbn:=mkC_ok ((qDs _ (qGg _ (qqe _ qL))))
def qbo:V->List Obj->Option (Bool):=fun v objs=>match v,objs with
 | .s (.b y0),[]=>some (y0)
 | _,_=>none
theorem qqZ (x0 x1 x2:Int):fnE qbn Tryz.f87 ([.s (.i .i64 x0),.s (.i .i64 x1),.s (.i .i64 x2)]) ([]) qbo=qJk x0 x1 x2:=by kernel_rfl
def qbm:HA:=fun o vs objs K=>match vs,objs with
 | [.s (.i .i64 x0),.s (.i .i64 x1),.s (.i .i64 x2)],[]=>ob (qJk x0 x1 x2) fun y0=>K false (.s (.b y0)) ([])
 | _,_=>o 87 vs objs K
def qbp (o:Orc):Orc:=qK 87 (qbm o) o
theorem qqb:OQ Tryz.prog qbp:=fun _ ho=>qM ho fun vs objs K r h=>by
 unfold qbm at h
 split at h
 ·skip
  obtain⟨t,h1,h2⟩:=qD h
  refine qX mixed qqa ((qqZ _ _ _).trans h1) (by kernel_rfl) fun v objs' hd=>?_
  unfold qbo at hd;split at hd;(cases hd;exact h2);cases hd
 ·exact ho _ _ _ _ _ h
def qb5:Ctx:=mkC 51 (qI) [] qU
theorem qqq:CtxOK Tryz.prog qb5:=mkC_ok (qL)
def qb6:V->List Obj->Option (Int):=fun v objs=>match v,objs with
 | .s (.i .i64 y0),[]=>some (y0)
 | _,_=>none
theorem qqp (x0 x1:Int):fnE qb5 Tryz.f88 ([.s (.i .i64 x0),.s (.i .i64 x1)]) ([]) qb6=qIC x0 x1:=by kernel_rfl
def qb4:HA:=fun o vs objs K=>match vs,objs with
 | [.s (.i .i64 x0),.s (.i .i64 x1)],[]=>ob (qIC x0 x1) fun y0=>K false (.s (.i .i64 y0)) ([])
 | _,_=>o 88 vs objs K
def qRS (o:Orc):Orc:=qK 88 (qb4 o) o
theorem qb7:OQ Tryz.prog qRS:=fun _ ho=>qM ho fun vs objs K r h=>by
 unfold qb4 at h
 split at h
 ·skip
  obtain⟨t,h1,h2⟩:=qD h
  refine qX mixed qqq ((qqp _ _).trans h1) (by kernel_rfl) fun v objs' hd=>?_
  unfold qb6 at hd;split at hd;(cases hd;exact h2);cases hd
 ·exact ho _ _ _ _ _ h
def qcC:Ctx:=mkC 7 (qI) [] qU
theorem qqu:CtxOK Tryz.prog qcC:=mkC_ok (qL)
def qcD:V->List Obj->Option (Int):=fun v objs=>match v,objs with
 | .s (.i .i64 y0),[]=>some (y0)
 | _,_=>none
theorem qqt (x0:Int):fnE qcC Tryz.f143 ([.s (.i .i64 x0)]) ([]) qcD=qID x0:=by kernel_rfl
def qcB:HA:=fun o vs objs K=>match vs,objs with
 | [.s (.i .i64 x0)],[]=>ob (qID x0) fun y0=>K false (.s (.i .i64 y0)) ([])
 | _,_=>o 143 vs objs K
def qcE (o:Orc):Orc:=qK 143 (qcB o) o
theorem qqv:OQ Tryz.prog qcE:=fun _ ho=>qM ho fun vs objs K r h=>by
 unfold qcB at h
 split at h
 ·skip
  obtain⟨t,h1,h2⟩:=qD h
  refine qX mixed qqu ((qqt _).trans h1) (by kernel_rfl) fun v objs' hd=>?_
  unfold qcD at hd;split at hd;(cases hd;exact h2);cases hd
 ·exact ho _ _ _ _ _ h
end
end Go.Kk.KkLN
