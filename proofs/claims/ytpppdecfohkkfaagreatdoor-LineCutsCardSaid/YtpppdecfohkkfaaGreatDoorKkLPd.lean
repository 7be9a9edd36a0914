/- Printed by a tool of this project (KkGen): the program's functions come to the plain ones. -/
import Derived.Test.YtpppdecfohkkfaaGreatDoorKkLPc
namespace Go.Kk.KkLP
noncomputable section
open Go.Proofs Go.Kk.Pl
set_option maxRecDepth 100000
set_option maxHeartbeats 4000000
def qfS:Ctx:=mkC 8 (qI) [] qU
theorem qt9:CtxOK Tryz.prog qfS:=mkC_ok (qK)
def qfT:V->List Obj->Option (Int):=fun v objs=>match v,objs with
 | .s (.i .i64 y0),[]=>some (y0)
 | _,_=>none
theorem qt8 (x0:ByteArray) (x1:Int):fnE qfS Tryz.f155 ([.s (.str x0),.s (.i .u8 x1)]) ([]) qfT=qTK x0 x1:=by kernel_rfl
def qfR:HA:=fun o vs objs K=>match vs,objs with
 | [.s (.str x0),.s (.i .u8 x1)],[]=>ob (qTK x0 x1) fun y0=>K false (.s (.i .i64 y0)) ([])
 | _,_=>o 155 vs objs K
def qfU (o:Orc):Orc:=qJ 155 (qfR o) o
theorem quA:OQ Tryz.prog qfU:=fun _ ho=>qL ho fun vs objs K r h=>by
 unfold qfR at h
 split at h
 ·skip
  obtain⟨t,h1,h2⟩:=qE h
  refine qa mixed qt9 ((qt8 _ _).trans h1) (by kernel_rfl) fun v objs' hd=>?_
  unfold qfT at hd;split at hd;(cases hd;exact h2);cases hd
 ·exact ho _ _ _ _ _ h
def qTL:Ctx:=mkC 143 ((qfU qI)) [(15,[0,1,5,6,7,8,9,10],[4])] qU
theorem qfW:CtxOK Tryz.prog qTL:=mkC_ok ((quA _ qK))
theorem quD:qZ Tryz.prog qTL 0 (qD Tryz.f141 15):=
 qg mixed qfW (qM.of (l':=[]) (by kernel_rfl) trivial) (q:=15) (kin:=[0,1,5,6,7,8,9,10]) (kout:=[4]) (by kernel_rfl) (by kernel_rfl) fun vs objs K r h=>by
  replace h:none=some r:=h
  cases h
def qfX:V->List Obj->Option (Int):=fun v objs=>match v,objs with
 | .s (.i .i64 y0),[]=>some (y0)
 | _,_=>none
theorem quB (x0 x1:ByteArray):fnE qTL Tryz.f141 ([.s (.str x0),.s (.str x1)]) ([]) qfX=qTJ x0 x1:=by kernel_rfl
def qfV:HA:=fun o vs objs K=>match vs,objs with
 | [.s (.str x0),.s (.str x1)],[]=>ob (qTJ x0 x1) fun y0=>K false (.s (.i .i64 y0)) ([])
 | _,_=>o 141 vs objs K
def qfY (o:Orc):Orc:=qJ 141 (qfV o) o
theorem quC:OQ Tryz.prog qfY:=fun _ ho=>qL ho fun vs objs K r h=>by
 unfold qfV at h
 split at h
 ·skip
  obtain⟨t,h1,h2⟩:=qE h
  refine q7 mixed qfW (fn:=Tryz.f141) (b:=(Tryz.f141).body.getD .skip) (by kernel_rfl) (by kernel_rfl) (by kernel_rfl) ((quB _ _).trans h1) (m:=0) rfl (qM.of (l':=[qD Tryz.f141 15]) (by kernel_rfl) ⟨quD,trivial⟩) fun v objs' hd=>?_
  unfold qfX at hd;split at hd;(cases hd;exact h2);cases hd
 ·exact ho _ _ _ _ _ h
def qe5:Ctx:=mkC 8 ((qfY qI)) [] qU
theorem qtr:CtxOK Tryz.prog qe5:=mkC_ok ((quC _ qK))
def qe6:V->List Obj->Option (Int):=fun v objs=>match v,objs with
 | .s (.i .i64 y0),[]=>some (y0)
 | _,_=>none
theorem qtq (x0 x1:ByteArray):fnE qe5 Tryz.f110 ([.s (.str x0),.s (.str x1)]) ([]) qe6=qMz x0 x1:=by kernel_rfl
def qe4:HA:=fun o vs objs K=>match vs,objs with
 | [.s (.str x0),.s (.str x1)],[]=>ob (qMz x0 x1) fun y0=>K false (.s (.i .i64 y0)) ([])
 | _,_=>o 110 vs objs K
def qS9 (o:Orc):Orc:=qJ 110 (qe4 o) o
theorem qe7:OQ Tryz.prog qS9:=fun _ ho=>qL ho fun vs objs K r h=>by
 unfold qe4 at h
 split at h
 ·skip
  obtain⟨t,h1,h2⟩:=qE h
  refine qa mixed qtr ((qtq _ _).trans h1) (by kernel_rfl) fun v objs' hd=>?_
  unfold qe6 at hd;split at hd;(cases hd;exact h2);cases hd
 ·exact ho _ _ _ _ _ h
def qS6:Ex->List V->List Obj->Option (Int):=fun e vs objs=>match e,vs,objs with
 | .ret,[.s (.i .i64 y0)],[]=>some (y0)
 | _,_,_=>none
def qS8:HL:=fun vs objs K=>match vs,objs with
 | [.s (.str x0),.s (.str x1),.s (.i .i64 x2)],[]=>ob (qMy qB x0 x1 x2) fun y0=>K (.ret) ([.s (.i .i64 y0)]) ([])
 | _,_=>none
def qtn:{R:Type}->Nat->List V->List Obj->(Ex->List V->List Obj->Option R)->Option R:=fun q vs objs K=>bif Nat.beq q 6 then qS8 vs objs K else none
def qMx:Ctx:=mkC 34 ((qS9 (qTa qI))) [(6,[0,1,5],[4])] qtn
theorem qez:CtxOK Tryz.prog qMx:=mkC_ok ((qe7 _ (qfw _ qK)))
def qS7 (f:Nat) (x0 x1:ByteArray) (x2:Int):Option (Int):=qf qMx 0 [0,1,5] [4] (qD Tryz.f109 6) f ([.s (.str x0),.s (.str x1),.s (.i .i64 x2)]) ([]) qS6
theorem qtm (f:Nat) (x0 x1:ByteArray) (x2:Int):qS7 (f+1) x0 x1 x2=qe2 (qS7 f) x0 x1 x2:=by kernel_rfl
theorem qe1:∀ f,qS7 f=qMy f
 | 0=>rfl
 | f+1=>by funext x0 x1 x2;rw[qtm,qe1 f];rfl
theorem qtp:qZ Tryz.prog qMx 0 (qD Tryz.f109 6):=
 qg mixed qez (qM.of (l':=[]) (by kernel_rfl) trivial) (q:=6) (kin:=[0,1,5]) (kout:=[4]) (by kernel_rfl) (by kernel_rfl) fun vs objs K r h=>by
  replace h:qS8 vs objs K=some r:=h
  unfold qS8 at h
  split at h
  ·skip
   obtain⟨t,h1,h2⟩:=qE h
   rw[<- qe1] at h1
   refine⟨_,qS6,t,qB,h1,fun e vs' objs' hd=>?_⟩
   unfold qS6 at hd;split at hd;(cases hd;exact h2);cases hd
  ·cases h
def qe0:V->List Obj->Option (Int):=fun v objs=>match v,objs with
 | .s (.i .i64 y0),[]=>some (y0)
 | _,_=>none
theorem qtl (x0 x1:ByteArray):fnE qMx Tryz.f109 ([.s (.str x0),.s (.str x1)]) ([]) qe0=qS5 x0 x1:=by kernel_rfl
def qey:HA:=fun o vs objs K=>match vs,objs with
 | [.s (.str x0),.s (.str x1)],[]=>ob (qS5 x0 x1) fun y0=>K false (.s (.i .i64 y0)) ([])
 | _,_=>o 109 vs objs K
def qe3 (o:Orc):Orc:=qJ 109 (qey o) o
theorem qto:OQ Tryz.prog qe3:=fun _ ho=>qL ho fun vs objs K r h=>by
 unfold qey at h
 split at h
 ·skip
  obtain⟨t,h1,h2⟩:=qE h
  refine q7 mixed qez (fn:=Tryz.f109) (b:=(Tryz.f109).body.getD .skip) (by kernel_rfl) (by kernel_rfl) (by kernel_rfl) ((qtl _ _).trans h1) (m:=0) rfl (qM.of (l':=[qD Tryz.f109 6]) (by kernel_rfl) ⟨qtp,trivial⟩) fun v objs' hd=>?_
  unfold qe0 at hd;split at hd;(cases hd;exact h2);cases hd
 ·exact ho _ _ _ _ _ h
def qTG:Ex->List V->List Obj->Option (ByteArray×Nat×Int×Nat×LL):=fun e vs objs=>match e,vs,objs with
 | .exit 0,[.s (.str y0),.s (.sl 0 0 y1 true),.s (.i .i64 y2)],[.sli 9 false (.rows [CK.s] y3 y4)]=>some (y0,y1,y2,y3,y4)
 | _,_,_=>none
def qTI:HL:=fun vs objs K=>match vs,objs with
 | [.s (.str x0),.s (.str x1),.s (.i .i64 x2),.s (.i .i64 x3),.s (.sl 0 0 x4 true),.s (.i .i64 x5)],[.sli 9 false (.rows [CK.s] x6 x7)]=>ob (qJ4 qB x0 x1 x2 x3 x4 x5 x6 x7) fun z=>K (.exit 0) ([.s (.str (z.1)),.s (.sl 0 0 (z.2.1) true),.s (.i .i64 (z.2.2.1))]) ([.sli 9 false (.rows [CK.s] (z.2.2.2.1) (z.2.2.2.2))])
 | _,_=>none
def qt5:{R:Type}->Nat->List V->List Obj->(Ex->List V->List Obj->Option R)->Option R:=fun q vs objs K=>bif Nat.beq q 11 then qTI vs objs K else none
def qM1:Ctx:=mkC 66 ((qS9 (qe3 (qfK qI)))) [(11,[0,1,2,3,9,10],[0,9,10])] qt5
theorem qfM:CtxOK Tryz.prog qM1:=mkC_ok ((qe7 _ (qto _ (qt1 _ qK))))
def qTH (f:Nat) (x0 x1:ByteArray) (x2 x3:Int) (x4:Nat) (x5:Int) (x6:Nat) (x7:LL):Option (ByteArray×Nat×Int×Nat×LL):=qf qM1 0 [0,1,2,3,9,10] [0,9,10] (qD Tryz.f79 11) f ([.s (.str x0),.s (.str x1),.s (.i .i64 x2),.s (.i .i64 x3),.s (.sl 0 0 x4 true),.s (.i .i64 x5)]) ([.sli 9 false (.rows [CK.s] x6 x7)]) qTG
theorem qt4 (f:Nat) (x0 x1:ByteArray) (x2 x3:Int) (x4:Nat) (x5:Int) (x6:Nat) (x7:LL):qTH (f+1) x0 x1 x2 x3 x4 x5 x6 x7=qfP (qTH f) x0 x1 x2 x3 x4 x5 x6 x7:=by kernel_rfl
theorem qfO:∀ f,qTH f=qJ4 f
 | 0=>rfl
 | f+1=>by funext x0 x1 x2 x3 x4 x5 x6 x7;rw[qt4,qfO f];rfl
theorem qt7:qZ Tryz.prog qM1 0 (qD Tryz.f79 11):=
 qg mixed qfM (qM.of (l':=[]) (by kernel_rfl) trivial) (q:=11) (kin:=[0,1,2,3,9,10]) (kout:=[0,9,10]) (by kernel_rfl) (by kernel_rfl) fun vs objs K r h=>by
  replace h:qTI vs objs K=some r:=h
  unfold qTI at h
  split at h
  ·skip
   obtain⟨t,h1,h2⟩:=qE h
   rw[<- qfO] at h1
   refine⟨_,qTG,t,qB,h1,fun e vs' objs' hd=>?_⟩
   unfold qTG at hd;split at hd;(cases hd;exact h2);cases hd
  ·cases h
def qfN:V->List Obj->Option (Nat×Nat×LL):=fun v objs=>match v,objs with
 | .s (.sl 0 0 y0 true),[.sli 9 false (.rows [CK.s] y1 y2)]=>some (y0,y1,y2)
 | _,_=>none
theorem qt3 (x0 x1:ByteArray) (x2 x3:Int):fnE qM1 Tryz.f79 ([.s (.str x0),.s (.str x1),.s (.i .i64 x2),.s (.i .i64 x3)]) ([]) qfN=qTF x0 x1 x2 x3:=by kernel_rfl
def qfL:HA:=fun o vs objs K=>match vs,objs with
 | [.s (.str x0),.s (.str x1),.s (.i .i64 x2),.s (.i .i64 x3)],[]=>ob (qTF x0 x1 x2 x3) fun z=>K false (.s (.sl 0 0 (z.1) true)) ([.sli 9 false (.rows [CK.s] (z.2.1) (z.2.2))])
 | _,_=>o 79 vs objs K
def qfQ (o:Orc):Orc:=qJ 79 (qfL o) o
theorem qt6:OQ Tryz.prog qfQ:=fun _ ho=>qL ho fun vs objs K r h=>by
 unfold qfL at h
 split at h
 ·skip
  obtain⟨t,h1,h2⟩:=qE h
  refine q7 mixed qfM (fn:=Tryz.f79) (b:=(Tryz.f79).body.getD .skip) (by kernel_rfl) (by kernel_rfl) (by kernel_rfl) ((qt3 _ _ _ _).trans h1) (m:=0) rfl (qM.of (l':=[qD Tryz.f79 11]) (by kernel_rfl) ⟨qt7,trivial⟩) fun v objs' hd=>?_
  unfold qfN at hd;split at hd;(cases hd;exact h2);cases hd
 ·exact ho _ _ _ _ _ h
def qfC:Ctx:=mkC 8 ((qfQ qI)) [] qU
theorem qtw:CtxOK Tryz.prog qfC:=mkC_ok ((qt6 _ qK))
def qfD:V->List Obj->Option (Nat×Nat×LL):=fun v objs=>match v,objs with
 | .s (.sl 0 0 y0 true),[.sli 9 false (.rows [CK.s] y1 y2)]=>some (y0,y1,y2)
 | _,_=>none
theorem qtv (x0 x1:ByteArray):fnE qfC Tryz.f36 ([.s (.str x0),.s (.str x1)]) ([]) qfD=qTA x0 x1:=by kernel_rfl
def qfB:HA:=fun o vs objs K=>match vs,objs with
 | [.s (.str x0),.s (.str x1)],[]=>ob (qTA x0 x1) fun z=>K false (.s (.sl 0 0 (z.1) true)) ([.sli 9 false (.rows [CK.s] (z.2.1) (z.2.2))])
 | _,_=>o 36 vs objs K
def qfE (o:Orc):Orc:=qJ 36 (qfB o) o
theorem qtx:OQ Tryz.prog qfE:=fun _ ho=>qL ho fun vs objs K r h=>by
 unfold qfB at h
 split at h
 ·skip
  obtain⟨t,h1,h2⟩:=qE h
  refine qa mixed qtw ((qtv _ _).trans h1) (by kernel_rfl) fun v objs' hd=>?_
  unfold qfD at hd;split at hd;(cases hd;exact h2);cases hd
 ·exact ho _ _ _ _ _ h
def qQW:Ex->List V->List Obj->Option ((Int)⊕(Unit)):=fun e vs objs=>match e,vs,objs with
 | .ret,[.s (.i .i8 y0)],[]=>some (.inl (y0))
 | .exit 0,[.s .bad],[]=>some (.inr ())
 | _,_,_=>none
def qQY:HL:=fun vs objs K=>match vs,objs with
 | [.s (.i .i32 x0),.s (.b x1),.s (.i .i64 x2),.s (S.it 0)],[Obj.iter x3 x4]=>ob (qHy qB x0 x1 x2 x3 x4) fun t0=>sw t0 (fun y0=>K (.ret) ([.s (.i .i8 y0)]) ([])) (fun _=>K (.exit 0) ([.s .bad]) ([]))
 | _,_=>none
def qoT:{R:Type}->Nat->List V->List Obj->(Ex->List V->List Obj->Option R)->Option R:=fun q vs objs K=>bif Nat.beq q 6 then qQY vs objs K else none
def qLt:Ctx:=mkC 34 ((qDo (qJa qI))) [(6,[0,1,5,16],[4])] qoT
theorem qZo:CtxOK Tryz.prog qLt:=mkC_ok ((qEY _ (qLw _ qK)))
def qQX (f:Nat) (x0:Int) (x1:Bool) (x2:Int) (x3:ByteArray) (x4:Nat):Option ((Int)⊕(Unit)):=qf qLt 0 [0,1,5,16] [4] (qD Tryz.f80 6) f ([.s (.i .i32 x0),.s (.b x1),.s (.i .i64 x2),.s (S.it 0)]) ([Obj.iter x3 x4]) qQW
theorem qoS (f:Nat) (x0:Int) (x1:Bool) (x2:Int) (x3:ByteArray) (x4:Nat):qQX (f+1) x0 x1 x2 x3 x4=qZr (qQX f) x0 x1 x2 x3 x4:=by kernel_rfl
theorem qZq:∀ f,qQX f=qHy f
 | 0=>rfl
 | f+1=>by funext x0 x1 x2 x3 x4;rw[qoS,qZq f];rfl
theorem qoV:qZ Tryz.prog qLt 0 (qD Tryz.f80 6):=
 qg mixed qZo (qM.of (l':=[]) (by kernel_rfl) trivial) (q:=6) (kin:=[0,1,5,16]) (kout:=[4]) (by kernel_rfl) (by kernel_rfl) fun vs objs K r h=>by
  replace h:qQY vs objs K=some r:=h
  unfold qQY at h
  split at h
  ·skip
   obtain⟨t,h1,h2⟩:=qE h
   rw[<- qZq] at h1
   refine⟨_,qQW,t,qB,h1,fun e vs' objs' hd=>?_⟩
   unfold qQW at hd
   split at hd
   ·skip
    cases hd
    exact h2
   ·skip
    cases hd
    exact h2
   ·cases hd
  ·cases h
def qZp:V->List Obj->Option (Int):=fun v objs=>match v,objs with
 | .s (.i .i8 y0),[]=>some (y0)
 | _,_=>none
theorem qoR (x0:Int) (x1:Bool):fnE qLt Tryz.f80 ([.s (.i .i32 x0),.s (.b x1)]) ([]) qZp=qJZ x0 x1:=by kernel_rfl
def qZn:HA:=fun o vs objs K=>match vs,objs with
 | [.s (.i .i32 x0),.s (.b x1)],[]=>ob (qJZ x0 x1) fun y0=>K false (.s (.i .i8 y0)) ([])
 | _,_=>o 80 vs objs K
def qZs (o:Orc):Orc:=qJ 80 (qZn o) o
theorem qoU:OQ Tryz.prog qZs:=fun _ ho=>qL ho fun vs objs K r h=>by
 unfold qZn at h
 split at h
 ·skip
  obtain⟨t,h1,h2⟩:=qE h
  refine q7 mixed qZo (fn:=Tryz.f80) (b:=(Tryz.f80).body.getD .skip) (by kernel_rfl) (by kernel_rfl) (by kernel_rfl) ((qoR _ _).trans h1) (m:=0) rfl (qM.of (l':=[qD Tryz.f80 6]) (by kernel_rfl) ⟨qoV,trivial⟩) fun v objs' hd=>?_
  unfold qZp at hd;split at hd;(cases hd;exact h2);cases hd
 ·exact ho _ _ _ _ _ h
def qZB:Ctx:=mkC 17 ((set_Squareo qI)) [] qU
theorem qm0:CtxOK Tryz.prog qZB:=mkC_ok ((set_Squareo_ok _ qK))
def qZC:V->List Obj->Option (Int×Bool):=fun v objs=>match v,objs with
 | .tup [W.s (.i .i64 y0),W.s (.b y1)],[]=>some (y0,y1)
 | _,_=>none
theorem qmz (x0 x1:Int):fnE qZB Tryz.f81 ([.s (.i .i32 x0),.s (.i .i32 x1)]) ([]) qZC=qEX x0 x1:=by kernel_rfl
def qZA:HA:=fun o vs objs K=>match vs,objs with
 | [.s (.i .i32 x0),.s (.i .i32 x1)],[]=>ob (qEX x0 x1) fun z=>K false (.tup [W.s (.i .i64 (z.1)),W.s (.b (z.2))]) ([])
 | _,_=>o 81 vs objs K
def qZD (o:Orc):Orc:=qJ 81 (qZA o) o
theorem qm1:OQ Tryz.prog qZD:=fun _ ho=>qL ho fun vs objs K r h=>by
 unfold qZA at h
 split at h
 ·skip
  obtain⟨t,h1,h2⟩:=qE h
  refine qa mixed qm0 ((qmz _ _).trans h1) (by kernel_rfl) fun v objs' hd=>?_
  unfold qZC at hd;split at hd;(cases hd;exact h2);cases hd
 ·exact ho _ _ _ _ _ h
def qQB:Ex->List V->List Obj->Option (Nat×Int×Int×Int×Bool×Nat×LI):=fun e vs objs=>match e,vs,objs with
 | .exit 0,[.s (.ptr 0 0 none 0),.s (.sl 1 0 y0 true)],[.cells 37 [.one [.i .i64 y1,.i .i64 y2,.i .i64 y3,.b y4]],.sli 21 false (.arr .i32 y5 y6)]=>some (y0,y1,y2,y3,y4,y5,y6)
 | _,_,_=>none
def qQD:HL:=fun vs objs K=>match vs,objs with
 | [.s (.ptr 0 0 none 0),.s (.sl 1 0 x0 true),.s (S.it 2)],[.cells 37 [.one [.i .i64 x1,.i .i64 x2,.i .i64 x3,.b x4]],.sli 21 false (.arr .i32 x5 x6),Obj.iter x7 x8]=>ob (qEW qB x0 x1 x2 x3 x4 x5 x6 x7 x8) fun z=>K (.exit 0) ([.s (.ptr 0 0 none 0),.s (.sl 1 0 (z.1) true)]) ([.cells 37 [.one [.i .i64 (z.2.1),.i .i64 (z.2.2.1),.i .i64 (z.2.2.2.1),.b (z.2.2.2.2.1)]],.sli 21 false (.arr .i32 (z.2.2.2.2.2.1) (z.2.2.2.2.2.2))])
 | _,_=>none
def qmq:{R:Type}->Nat->List V->List Obj->(Ex->List V->List Obj->Option R)->Option R:=fun q vs objs K=>bif Nat.beq q 3 then qQD vs objs K else none
def qLc:Ctx:=mkC 127 ((qDp (qZD (qZs qI)))) [(3,[2,4,16],[2,4])] qmq
theorem qYy:CtxOK Tryz.prog qLc:=mkC_ok ((qEZ _ (qm1 _ (qoU _ qK))))
def qQC (f:Nat) (x0:Nat) (x1 x2 x3:Int) (x4:Bool) (x5:Nat) (x6:LI) (x7:ByteArray) (x8:Nat):Option (Nat×Int×Int×Int×Bool×Nat×LI):=qf qLc 0 [2,4,16] [2,4] (qD Tryz.f37 3) f ([.s (.ptr 0 0 none 0),.s (.sl 1 0 x0 true),.s (S.it 2)]) ([.cells 37 [.one [.i .i64 x1,.i .i64 x2,.i .i64 x3,.b x4]],.sli 21 false (.arr .i32 x5 x6),Obj.iter x7 x8]) qQB
theorem qmp (f:Nat) (x0:Nat) (x1 x2 x3:Int) (x4:Bool) (x5:Nat) (x6:LI) (x7:ByteArray) (x8:Nat):qQC (f+1) x0 x1 x2 x3 x4 x5 x6 x7 x8=qHt (qQC f) x0 x1 x2 x3 x4 x5 x6 x7 x8:=by kernel_rfl
theorem qY0:∀ f,qQC f=qEW f
 | 0=>rfl
 | f+1=>by funext x0 x1 x2 x3 x4 x5 x6 x7 x8;rw[qmp,qY0 f];rfl
theorem qms:qZ Tryz.prog qLc 0 (qD Tryz.f37 3):=
 qg mixed qYy (qM.of (l':=[]) (by kernel_rfl) trivial) (q:=3) (kin:=[2,4,16]) (kout:=[2,4]) (by kernel_rfl) (by kernel_rfl) fun vs objs K r h=>by
  replace h:qQD vs objs K=some r:=h
  unfold qQD at h
  split at h
  ·skip
   obtain⟨t,h1,h2⟩:=qE h
   rw[<- qY0] at h1
   refine⟨_,qQB,t,qB,h1,fun e vs' objs' hd=>?_⟩
   unfold qQB at hd;split at hd;(cases hd;exact h2);cases hd
  ·cases h
def qYz:V->List Obj->Option (Int×Int×Int×Bool×Int):=fun v objs=>match v,objs with
 | .tup [W.agg [.one [.i .i64 y0,.i .i64 y1,.i .i64 y2,.b y3]],W.s (.i .i64 y4)],[]=>some (y0,y1,y2,y3,y4)
 | _,_=>none
theorem qmo (x0:ByteArray):fnE qLc Tryz.f37 ([.s (.str x0)]) ([]) qYz=qFR x0:=by kernel_rfl
def qYx:HA:=fun o vs objs K=>match vs,objs with
 | [.s (.str x0)],[]=>ob (qFR x0) fun z=>K false (.tup [W.agg [.one [.i .i64 (z.1),.i .i64 (z.2.1),.i .i64 (z.2.2.1),.b (z.2.2.2.1)]],W.s (.i .i64 (z.2.2.2.2))]) ([])
 | _,_=>o 37 vs objs K
def qY1 (o:Orc):Orc:=qJ 37 (qYx o) o
theorem qmr:OQ Tryz.prog qY1:=fun _ ho=>qL ho fun vs objs K r h=>by
 unfold qYx at h
 split at h
 ·skip
  obtain⟨t,h1,h2⟩:=qE h
  refine q7 mixed qYy (fn:=Tryz.f37) (b:=(Tryz.f37).body.getD .skip) (by kernel_rfl) (by kernel_rfl) (by kernel_rfl) ((qmo _).trans h1) (m:=0) rfl (qM.of (l':=[qD Tryz.f37 3]) (by kernel_rfl) ⟨qms,trivial⟩) fun v objs' hd=>?_
  unfold qYz at hd;split at hd;(cases hd;exact h2);cases hd
 ·exact ho _ _ _ _ _ h
def qPs:Ex->List V->List Obj->Option ((Nat×Int×Int×Nat×Nat×LL×Nat×LL)⊕(Nat×Nat×LL)):=fun e vs objs=>match e,vs,objs with
 | .ret,[.s (.sl 0 0 y0 true),.s (.i .i64 y1),.s (.i .i64 y2),.s (.sl 1 0 y3 true)],[.sli 37 false (.rows [.i .i64,.i .i64,.i .i64,.b] y4 y5),.sli 37 false (.rows [.i .i64,.i .i64,.i .i64,.b] y6 y7)]=>some (.inl (y0,y1,y2,y3,y4,y5,y6,y7))
 | .exit 0,[.s .bad,.s .bad,.s .bad,.s (.sl 0 0 y0 true)],[.sli 37 false (.rows [.i .i64,.i .i64,.i .i64,.b] y1 y2)]=>some (.inr (y0,y1,y2))
 | _,_,_=>none
def qPu:HL:=fun vs objs K=>match vs,objs with
 | [.s (.sl 0 0 x0 true),.s (.sl 1 0 x1 true),.s (.i .i64 x2),.s (.i .i64 x3)],[.sli 37 false (.rows [.i .i64,.i .i64,.i .i64,.b] x4 x5),.sli 9 false (.rows [CK.s] x6 x7)]=>ob (qLM qB x0 x1 x2 x3 x4 x5 x6 x7) fun t0=>sw t0 (fun z=>K (.ret) ([.s (.sl 0 0 (z.1) true),.s (.i .i64 (z.2.1)),.s (.i .i64 (z.2.2.1)),.s (.sl 1 0 (z.2.2.2.1) true)]) ([.sli 37 false (.rows [.i .i64,.i .i64,.i .i64,.b] (z.2.2.2.2.1) (z.2.2.2.2.2.1)),.sli 37 false (.rows [.i .i64,.i .i64,.i .i64,.b] (z.2.2.2.2.2.2.1) (z.2.2.2.2.2.2.2))])) (fun z=>K (.exit 0) ([.s .bad,.s .bad,.s .bad,.s (.sl 0 0 (z.1) true)]) ([.sli 37 false (.rows [.i .i64,.i .i64,.i .i64,.b] (z.2.1) (z.2.2))]))
 | _,_=>none
def qmA:{R:Type}->Nat->List V->List Obj->(Ex->List V->List Obj->Option R)->Option R:=fun q vs objs K=>bif Nat.beq q 5 then qPu vs objs K else none
def qLL:Ctx:=mkC 37 ((qY1 (qfE qI))) [(5,[5,13,14,15],[2,3,4,5])] qmA
theorem qYK:CtxOK Tryz.prog qLL:=mkC_ok ((qmr _ (qtx _ qK)))
def qPt (f:Nat) (x0 x1:Nat) (x2 x3:Int) (x4:Nat) (x5:LL) (x6:Nat) (x7:LL):Option ((Nat×Int×Int×Nat×Nat×LL×Nat×LL)⊕(Nat×Nat×LL)):=qf qLL 0 [5,13,14,15] [2,3,4,5] (qD Tryz.f15 5) f ([.s (.sl 0 0 x0 true),.s (.sl 1 0 x1 true),.s (.i .i64 x2),.s (.i .i64 x3)]) ([.sli 37 false (.rows [.i .i64,.i .i64,.i .i64,.b] x4 x5),.sli 9 false (.rows [CK.s] x6 x7)]) qPs
theorem ql9 (f:Nat) (x0 x1:Nat) (x2 x3:Int) (x4:Nat) (x5:LL) (x6:Nat) (x7:LL):qPt (f+1) x0 x1 x2 x3 x4 x5 x6 x7=qYN (qPt f) x0 x1 x2 x3 x4 x5 x6 x7:=by kernel_rfl
theorem qYM:∀ f,qPt f=qLM f
 | 0=>rfl
 | f+1=>by funext x0 x1 x2 x3 x4 x5 x6 x7;rw[ql9,qYM f];rfl
theorem qmC:qZ Tryz.prog qLL 0 (qD Tryz.f15 5):=
 qg mixed qYK (qM.of (l':=[]) (by kernel_rfl) trivial) (q:=5) (kin:=[5,13,14,15]) (kout:=[2,3,4,5]) (by kernel_rfl) (by kernel_rfl) fun vs objs K r h=>by
  replace h:qPu vs objs K=some r:=h
  unfold qPu at h
  split at h
  ·skip
   obtain⟨t,h1,h2⟩:=qE h
   rw[<- qYM] at h1
   refine⟨_,qPs,t,qB,h1,fun e vs' objs' hd=>?_⟩
   unfold qPs at hd
   split at hd
   ·skip
    cases hd
    exact h2
   ·skip
    cases hd
    exact h2
   ·cases hd
  ·cases h
def qYL:V->List Obj->Option (Nat×Int×Int×Nat×LL):=fun v objs=>match v,objs with
 | .tup [W.s (.sl 0 0 y0 true),W.s (.i .i64 y1),W.s (.i .i64 y2)],[.sli 37 false (.rows [.i .i64,.i .i64,.i .i64,.b] y3 y4)]=>some (y0,y1,y2,y3,y4)
 | _,_=>none
theorem ql8 (x0:ByteArray):fnE qLL Tryz.f15 ([.s (.str x0)]) ([]) qYL=qPr x0:=by kernel_rfl
def qYJ:HA:=fun o vs objs K=>match vs,objs with
 | [.s (.str x0)],[]=>ob (qPr x0) fun z=>K false (.tup [W.s (.sl 0 0 (z.1) true),W.s (.i .i64 (z.2.1)),W.s (.i .i64 (z.2.2.1))]) ([.sli 37 false (.rows [.i .i64,.i .i64,.i .i64,.b] (z.2.2.2.1) (z.2.2.2.2))])
 | _,_=>o 15 vs objs K
def qYO (o:Orc):Orc:=qJ 15 (qYJ o) o
theorem qmB:OQ Tryz.prog qYO:=fun _ ho=>qL ho fun vs objs K r h=>by
 unfold qYJ at h
 split at h
 ·skip
  obtain⟨t,h1,h2⟩:=qE h
  refine q7 mixed qYK (fn:=Tryz.f15) (b:=(Tryz.f15).body.getD .skip) (by kernel_rfl) (by kernel_rfl) (by kernel_rfl) ((ql8 _).trans h1) (m:=0) rfl (qM.of (l':=[qD Tryz.f15 5]) (by kernel_rfl) ⟨qmC,trivial⟩) fun v objs' hd=>?_
  unfold qYL at hd;split at hd;(cases hd;exact h2);cases hd
 ·exact ho _ _ _ _ _ h
def qZh:Ctx:=mkC 25 ((qDp (qLu (qCy qI)))) [] qU
theorem qoN:CtxOK Tryz.prog qZh:=mkC_ok ((qEZ _ (qQZ _ (qDG _ qK))))
def qZi:V->List Obj->Option (ByteArray):=fun v objs=>match v,objs with
 | .s (.str y0),[]=>some (y0)
 | _,_=>none
theorem qoM (x0:Int):fnE qZh Tryz.f74 ([.s (.i .i8 x0)]) ([]) qZi=qLs x0:=by kernel_rfl
def qZg:HA:=fun o vs objs K=>match vs,objs with
 | [.s (.i .i8 x0)],[]=>ob (qLs x0) fun y0=>K false (.s (.str y0)) ([])
 | _,_=>o 74 vs objs K
def qZj (o:Orc):Orc:=qJ 74 (qZg o) o
theorem qoO:OQ Tryz.prog qZj:=fun _ ho=>qL ho fun vs objs K r h=>by
 unfold qZg at h
 split at h
 ·skip
  obtain⟨t,h1,h2⟩:=qE h
  refine qa mixed qoN ((qoM _).trans h1) (by kernel_rfl) fun v objs' hd=>?_
  unfold qZi at hd;split at hd;(cases hd;exact h2);cases hd
 ·exact ho _ _ _ _ _ h
def qY3:Ctx:=mkC 19 ((qMh (qMb qI))) [] qU
theorem qmu:CtxOK Tryz.prog qY3:=mkC_ok ((qSb _ (qSR _ qK)))
def qY4:V->List Obj->Option (ByteArray):=fun v objs=>match v,objs with
 | .s (.str y0),[]=>some (y0)
 | _,_=>none
theorem qmt (x0:Int):fnE qY3 Tryz.f75 ([.s (.i .i64 x0)]) ([]) qY4=qFS x0:=by kernel_rfl
def qY2:HA:=fun o vs objs K=>match vs,objs with
 | [.s (.i .i64 x0)],[]=>ob (qFS x0) fun y0=>K false (.s (.str y0)) ([])
 | _,_=>o 75 vs objs K
def qY5 (o:Orc):Orc:=qJ 75 (qY2 o) o
theorem qmv:OQ Tryz.prog qY5:=fun _ ho=>qL ho fun vs objs K r h=>by
 unfold qY2 at h
 split at h
 ·skip
  obtain⟨t,h1,h2⟩:=qE h
  refine qa mixed qmu ((qmt _).trans h1) (by kernel_rfl) fun v objs' hd=>?_
  unfold qY4 at hd;split at hd;(cases hd;exact h2);cases hd
 ·exact ho _ _ _ _ _ h
def qY7:Ctx:=mkC 38 ((qY5 (qZj (qDo (qQA qI))))) [] qU
theorem qmx:CtxOK Tryz.prog qY7:=mkC_ok ((qmv _ (qoO _ (qEY _ (qYw _ qK)))))
def qY8:V->List Obj->Option (ByteArray):=fun v objs=>match v,objs with
 | .s (.str y0),[]=>some (y0)
 | _,_=>none
theorem qmw (x0 x1 x2:Int) (x3:Bool):fnE qY7 Tryz.f34 ([.agg [.one [.i .i64 x0,.i .i64 x1,.i .i64 x2,.b x3]]]) ([]) qY8=qHu x0 x1 x2 x3:=by kernel_rfl
def qY6:HA:=fun o vs objs K=>match vs,objs with
 | [.agg [.one [.i .i64 x0,.i .i64 x1,.i .i64 x2,.b x3]]],[]=>ob (qHu x0 x1 x2 x3) fun y0=>K false (.s (.str y0)) ([])
 | _,_=>o 34 vs objs K
def qY9 (o:Orc):Orc:=qJ 34 (qY6 o) o
theorem qmy:OQ Tryz.prog qY9:=fun _ ho=>qL ho fun vs objs K r h=>by
 unfold qY6 at h
 split at h
 ·skip
  obtain⟨t,h1,h2⟩:=qE h
  refine qa mixed qmx ((qmw _ _ _ _).trans h1) (by kernel_rfl) fun v objs' hd=>?_
  unfold qY8 at hd;split at hd;(cases hd;exact h2);cases hd
 ·exact ho _ _ _ _ _ h
def qtt:Ctx:=mkC 75 (qI) [] qU
theorem quz:CtxOK Tryz.prog qtt:=mkC_ok (qK)
def qe9:V->List Obj->Option (ByteArray):=fun v objs=>match v,objs with
 | .s (.str y0),[]=>some (y0)
 | _,_=>none
theorem qts (x0:Nat) (x1:ByteArray) (x2:Nat) (x3:LL):qKA 35 ([.s (.sl 0 0 x0 true),.s (.str x1)]) ([.sli 9 true (.rows [CK.s] x2 x3)]) (qAM 1 qe9)=strings_Join x0 x1 x2 x3:=by kernel_rfl
def qe8:HA:=fun o vs objs K=>match vs,List.map Obj.toRO objs with
 | [.s (.sl 0 0 x0 true),.s (.str x1)],[.sli 9 true (.rows [CK.s] x2 x3)]=>ob (strings_Join x0 x1 x2 x3) fun y0=>K true (.s (.str y0)) ([])
 | _,_=>o 35 vs objs K
def qfA (o:Orc):Orc:=qJ 35 (qe8 o) o
theorem qtu:OQ Tryz.prog qfA:=fun _ ho=>qL ho fun vs objs K r h=>by
 unfold qe8 at h
 split at h
 ·skip
  have hq:List.map Obj.toRO objs=_:=(by rename_i hq;first | exact hq | assumption)
  obtain⟨t,h1,h2⟩:=qE h
  refine quQ told_ok (f:=35) (by rfl) (m:=1) hq (by kernel_rfl) (by kernel_rfl) ((qts _ _ _ _).trans h1) fun v objs' hd=>?_
  unfold qe9 at hd;split at hd;(cases hd;exact h2);cases hd
 ·exact ho _ _ _ _ _ h
def qP0:Ex->List V->List Obj->Option (Nat×Nat×LL×Nat×LL):=fun e vs objs=>match e,vs,objs with
 | .exit 0,[.s (.sl 1 0 y0 true)],[.sli 37 true (.rows [.i .i64,.i .i64,.i .i64,.b] y1 y2),.sli 9 false (.rows [CK.s] y3 y4)]=>some (y0,y1,y2,y3,y4)
 | _,_,_=>none
def qP2:HL:=fun vs objs K=>match vs,objs with
 | [.s (.sl 1 0 x0 true),.s (.sl 0 0 x1 true),.s (.i .i64 x2),.s (.i .i64 x3)],[.sli 37 true (.rows [.i .i64,.i .i64,.i .i64,.b] x4 x5),.sli 9 false (.rows [CK.s] x6 x7)]=>ob (qLQ qB x0 x1 x2 x3 x4 x5 x6 x7) fun z=>K (.exit 0) ([.s (.sl 1 0 (z.1) true)]) ([.sli 37 true (.rows [.i .i64,.i .i64,.i .i64,.b] (z.2.1) (z.2.2.1)),.sli 9 false (.rows [CK.s] (z.2.2.2.1) (z.2.2.2.2))])
 | _,_=>none
def qmJ:{R:Type}->Nat->List V->List Obj->(Ex->List V->List Obj->Option R)->Option R:=fun q vs objs K=>bif Nat.beq q 3 then qP2 vs objs K else none
def qLP:Ctx:=mkC 20 ((qfA (qY9 qI))) [(3,[3,6,7,8],[3])] qmJ
theorem qYV:CtxOK Tryz.prog qLP:=mkC_ok ((qtu _ (qmy _ qK)))
def qP1 (f:Nat) (x0 x1:Nat) (x2 x3:Int) (x4:Nat) (x5:LL) (x6:Nat) (x7:LL):Option (Nat×Nat×LL×Nat×LL):=qf qLP 1 [3,6,7,8] [3] (qD Tryz.f14 3) f ([.s (.sl 1 0 x0 true),.s (.sl 0 0 x1 true),.s (.i .i64 x2),.s (.i .i64 x3)]) ([.sli 37 true (.rows [.i .i64,.i .i64,.i .i64,.b] x4 x5),.sli 9 false (.rows [CK.s] x6 x7)]) qP0
theorem qmI (f:Nat) (x0 x1:Nat) (x2 x3:Int) (x4:Nat) (x5:LL) (x6:Nat) (x7:LL):qP1 (f+1) x0 x1 x2 x3 x4 x5 x6 x7=qYY (qP1 f) x0 x1 x2 x3 x4 x5 x6 x7:=by kernel_rfl
theorem qYX:∀ f,qP1 f=qLQ f
 | 0=>rfl
 | f+1=>by funext x0 x1 x2 x3 x4 x5 x6 x7;rw[qmI,qYX f];rfl
theorem qmL:qZ Tryz.prog qLP 1 (qD Tryz.f14 3):=
 qg mixed qYV (qM.of (l':=[]) (by kernel_rfl) trivial) (q:=3) (kin:=[3,6,7,8]) (kout:=[3]) (by kernel_rfl) (by kernel_rfl) fun vs objs K r h=>by
  replace h:qP2 vs objs K=some r:=h
  unfold qP2 at h
  split at h
  ·skip
   obtain⟨t,h1,h2⟩:=qE h
   rw[<- qYX] at h1
   refine⟨_,qP0,t,qB,h1,fun e vs' objs' hd=>?_⟩
   unfold qP0 at hd;split at hd;(cases hd;exact h2);cases hd
  ·cases h
def qYW:V->List Obj->Option (ByteArray):=fun v objs=>match v,objs with
 | .s (.str y0),[]=>some (y0)
 | _,_=>none
theorem qmH (x0 x1:Nat) (x2:LL):fnE qLP Tryz.f14 ([.s (.sl 0 0 x0 true)]) ([.sli 37 true (.rows [.i .i64,.i .i64,.i .i64,.b] x1 x2)]) (qAM 1 qYW)=qPz x0 x1 x2:=by kernel_rfl
def qYU:HA:=fun o vs objs K=>match vs,List.map Obj.toRO objs with
 | [.s (.sl 0 0 x0 true)],[.sli 37 true (.rows [.i .i64,.i .i64,.i .i64,.b] x1 x2)]=>ob (qPz x0 x1 x2) fun y0=>K true (.s (.str y0)) ([])
 | _,_=>o 14 vs objs K
def qYZ (o:Orc):Orc:=qJ 14 (qYU o) o
theorem qmK:OQ Tryz.prog qYZ:=fun _ ho=>qL ho fun vs objs K r h=>by
 unfold qYU at h
 split at h
 ·skip
  have hq:List.map Obj.toRO objs=_:=(by rename_i hq;first | exact hq | assumption)
  obtain⟨t,h1,h2⟩:=qE h
  refine qAj mixed qYV (m:=1) (fn:=Tryz.f14) (b:=(Tryz.f14).body.getD .skip) (by kernel_rfl) (by kernel_rfl) (by kernel_rfl) hq (by kernel_rfl) (by kernel_rfl) (qM.of (l':=[qD Tryz.f14 3]) (by kernel_rfl) ⟨qmL,trivial⟩) ((qmH _ _ _).trans h1) fun v objs' hd=>?_
  unfold qYW at hd;split at hd;(cases hd;exact h2);cases hd
 ·exact ho _ _ _ _ _ h
def qXk:Ctx:=mkC 46 ((qYZ (qYO (qPx (qU3 qI))))) [] qU
theorem qlc:CtxOK Tryz.prog qXk:=mkC_ok ((qmK _ (qmB _ (qYT _ (qh3 _ qK)))))
def qXl:V->List Obj->Option (Bool):=fun v objs=>match v,objs with
 | .s (.b y0),[]=>some (y0)
 | _,_=>none
theorem qlb:fnE qXk Tryz.f8 ([]) ([]) qXl=qLH  := by kernel_rfl
def qXj:HA:=fun o vs objs K=>match vs,objs with
 | [],[]=>ob (qLH ) fun y0=>K false (.s (.b y0)) ([])
 | _,_=>o 8 vs objs K
def qXm (o:Orc):Orc:=qJ 8 (qXj o) o
theorem qld:OQ Tryz.prog qXm:=fun _ ho=>qL ho fun vs objs K r h=>by
 unfold qXj at h
 split at h
 ·skip
  obtain⟨t,h1,h2⟩:=qE h
  refine qa mixed qlc ((qlb).trans h1) (by kernel_rfl) fun v objs' hd=>?_
  unfold qXl at hd;split at hd;(cases hd;exact h2);cases hd
 ·exact ho _ _ _ _ _ h
def qah:Ctx:=mkC 23 (qI) [] qU
theorem qpR:CtxOK Tryz.prog qah:=mkC_ok (qK)
def qai:V->List Obj->Option (Int):=fun v objs=>match v,objs with
 | .s (.i .i64 y0),[]=>some (y0)
 | _,_=>none
theorem qpQ (x0:Int):fnE qah Tryz.f31 ([.s (.i .i64 x0)]) ([]) qai=qAS x0:=by kernel_rfl
def qag:HA:=fun o vs objs K=>match vs,objs with
 | [.s (.i .i64 x0)],[]=>ob (qAS x0) fun y0=>K false (.s (.i .i64 y0)) ([])
 | _,_=>o 31 vs objs K
def qDI (o:Orc):Orc:=qJ 31 (qag o) o
theorem qDt:OQ Tryz.prog qDI:=fun _ ho=>qL ho fun vs objs K r h=>by
 unfold qag at h
 split at h
 ·skip
  obtain⟨t,h1,h2⟩:=qE h
  refine qa mixed qpR ((qpQ _).trans h1) (by kernel_rfl) fun v objs' hd=>?_
  unfold qai at hd;split at hd;(cases hd;exact h2);cases hd
 ·exact ho _ _ _ _ _ h
def qRR:Ex->List V->List Obj->Option (Int):=fun e vs objs=>match e,vs,objs with
 | .exit 0,[.s (.i .i64 y0)],[]=>some (y0)
 | _,_,_=>none
def qRU:HL:=fun vs objs K=>match vs,objs with
 | [.s (.i .i64 x0),.s (.i .i64 x1),.s (.ptr 0 0 none 0),.s (.i .i64 x2),.s (.i .i64 x3)],[.cells 28 [.arr .i8 81 x4,.arr .i8 16 x5,.one [.i .i8 x6]]]=>ob (qCb qB x0 x1 x2 x3 x4 x5 x6) fun y0=>K (.exit 0) ([.s (.i .i64 y0)]) ([])
 | _,_=>none
def qqO:{R:Type}->Nat->List V->List Obj->(Ex->List V->List Obj->Option R)->Option R:=fun q vs objs K=>bif Nat.beq q 3 then qRU vs objs K else none
def qMG:Ctx:=mkC 26 (qI) [(3,[1,2,3,7,8],[7])] qqO
theorem qbm:CtxOK Tryz.prog qMG:=mkC_ok (qK)
def qRS (f:Nat) (x0 x1:Int) (x2 x3:Int) (x4 x5:LI) (x6:Int):Option (Int):=qf qMG 0 [1,2,3,7,8] [7] (qD Tryz.f67 3) f ([.s (.i .i64 x0),.s (.i .i64 x1),.s (.ptr 0 0 none 0),.s (.i .i64 x2),.s (.i .i64 x3)]) ([.cells 28 [.arr .i8 81 x4,.arr .i8 16 x5,.one [.i .i8 x6]]]) qRR
theorem qqN (f:Nat) (x0 x1:Int) (x2 x3:Int) (x4 x5:LI) (x6:Int):qRS (f+1) x0 x1 x2 x3 x4 x5 x6=qD1 (qRS f) x0 x1 x2 x3 x4 x5 x6:=by kernel_rfl
theorem qbo:∀ f,qRS f=qCb f
 | 0=>rfl
 | f+1=>by funext x0 x1 x2 x3 x4 x5 x6;rw[qqN,qbo f];rfl
theorem qqP:qZ Tryz.prog qMG 0 (qD Tryz.f67 3):=
 qg mixed qbm (qM.of (l':=[]) (by kernel_rfl) trivial) (q:=3) (kin:=[1,2,3,7,8]) (kout:=[7]) (by kernel_rfl) (by kernel_rfl) fun vs objs K r h=>by
  replace h:qRU vs objs K=some r:=h
  unfold qRU at h
  split at h
  ·skip
   obtain⟨t,h1,h2⟩:=qE h
   rw[<- qbo] at h1
   refine⟨_,qRR,t,qB,h1,fun e vs' objs' hd=>?_⟩
   unfold qRR at hd;split at hd;(cases hd;exact h2);cases hd
  ·cases h
def qbn:V->List Obj->Option (Int):=fun v objs=>match v,objs with
 | .s (.i .i64 y0),[]=>some (y0)
 | _,_=>none
theorem qqM (x0 x1:LI) (x2 x3 x4:Int):fnE qMG Tryz.f67 ([.agg [.arr .i8 81 x0,.arr .i8 16 x1,.one [.i .i8 x2]],.s (.i .i64 x3),.s (.i .i64 x4)]) ([]) qbn=qD0 x0 x1 x2 x3 x4:=by kernel_rfl
def qbl:HA:=fun o vs objs K=>match vs,objs with
 | [.agg [.arr .i8 81 x0,.arr .i8 16 x1,.one [.i .i8 x2]],.s (.i .i64 x3),.s (.i .i64 x4)],[]=>ob (qD0 x0 x1 x2 x3 x4) fun y0=>K false (.s (.i .i64 y0)) ([])
 | _,_=>o 67 vs objs K
def qMH (o:Orc):Orc:=qJ 67 (qbl o) o
theorem qRT:OQ Tryz.prog qMH:=fun _ ho=>qL ho fun vs objs K r h=>by
 unfold qbl at h
 split at h
 ·skip
  obtain⟨t,h1,h2⟩:=qE h
  refine q7 mixed qbm (fn:=Tryz.f67) (b:=(Tryz.f67).body.getD .skip) (by kernel_rfl) (by kernel_rfl) (by kernel_rfl) ((qqM _ _ _ _ _).trans h1) (m:=0) rfl (qM.of (l':=[qD Tryz.f67 3]) (by kernel_rfl) ⟨qqP,trivial⟩) fun v objs' hd=>?_
  unfold qbn at hd;split at hd;(cases hd;exact h2);cases hd
 ·exact ho _ _ _ _ _ h
def qRZ:Ex->List V->List Obj->Option (Int):=fun e vs objs=>match e,vs,objs with
 | .exit 0,[.s (.i .i64 y0)],[]=>some (y0)
 | _,_,_=>none
def qRb:HL:=fun vs objs K=>match vs,objs with
 | [.s (.i .i64 x0),.s (.ptr 0 0 none 0),.s (.i .i64 x1),.s (.i .i64 x2)],[.cells 28 [.arr .i8 81 x3,.arr .i8 16 x4,.one [.i .i8 x5]]]=>ob (qCc qB x0 x1 x2 x3 x4 x5) fun y0=>K (.exit 0) ([.s (.i .i64 y0)]) ([])
 | _,_=>none
def qqW:{R:Type}->Nat->List V->List Obj->(Ex->List V->List Obj->Option R)->Option R:=fun q vs objs K=>bif Nat.beq q 3 then qRb vs objs K else none
def qMK:Ctx:=mkC 18 ((qMH qI)) [(3,[1,2,5,6],[5])] qqW
theorem qbu:CtxOK Tryz.prog qMK:=mkC_ok ((qRT _ qK))
def qRa (f:Nat) (x0 x1 x2:Int) (x3 x4:LI) (x5:Int):Option (Int):=qf qMK 0 [1,2,5,6] [5] (qD Tryz.f63 3) f ([.s (.i .i64 x0),.s (.ptr 0 0 none 0),.s (.i .i64 x1),.s (.i .i64 x2)]) ([.cells 28 [.arr .i8 81 x3,.arr .i8 16 x4,.one [.i .i8 x5]]]) qRZ
theorem qqV (f:Nat) (x0 x1 x2:Int) (x3 x4:LI) (x5:Int):qRa (f+1) x0 x1 x2 x3 x4 x5=qD2 (qRa f) x0 x1 x2 x3 x4 x5:=by kernel_rfl
theorem qbw:∀ f,qRa f=qCc f
 | 0=>rfl
 | f+1=>by funext x0 x1 x2 x3 x4 x5;rw[qqV,qbw f];rfl
theorem qqY:qZ Tryz.prog qMK 0 (qD Tryz.f63 3):=
 qg mixed qbu (qM.of (l':=[]) (by kernel_rfl) trivial) (q:=3) (kin:=[1,2,5,6]) (kout:=[5]) (by kernel_rfl) (by kernel_rfl) fun vs objs K r h=>by
  replace h:qRb vs objs K=some r:=h
  unfold qRb at h
  split at h
  ·skip
   obtain⟨t,h1,h2⟩:=qE h
   rw[<- qbw] at h1
   refine⟨_,qRZ,t,qB,h1,fun e vs' objs' hd=>?_⟩
   unfold qRZ at hd;split at hd;(cases hd;exact h2);cases hd
  ·cases h
def qbv:V->List Obj->Option (Int):=fun v objs=>match v,objs with
 | .s (.i .i64 y0),[]=>some (y0)
 | _,_=>none
theorem qqU (x0 x1:LI) (x2 x3:Int):fnE qMK Tryz.f63 ([.agg [.arr .i8 81 x0,.arr .i8 16 x1,.one [.i .i8 x2]],.s (.i .i64 x3)]) ([]) qbv=qCJ x0 x1 x2 x3:=by kernel_rfl
def qbt:HA:=fun o vs objs K=>match vs,objs with
 | [.agg [.arr .i8 81 x0,.arr .i8 16 x1,.one [.i .i8 x2]],.s (.i .i64 x3)],[]=>ob (qCJ x0 x1 x2 x3) fun y0=>K false (.s (.i .i64 y0)) ([])
 | _,_=>o 63 vs objs K
def qbx (o:Orc):Orc:=qJ 63 (qbt o) o
theorem qqX:OQ Tryz.prog qbx:=fun _ ho=>qL ho fun vs objs K r h=>by
 unfold qbt at h
 split at h
 ·skip
  obtain⟨t,h1,h2⟩:=qE h
  refine q7 mixed qbu (fn:=Tryz.f63) (b:=(Tryz.f63).body.getD .skip) (by kernel_rfl) (by kernel_rfl) (by kernel_rfl) ((qqU _ _ _ _).trans h1) (m:=0) rfl (qM.of (l':=[qD Tryz.f63 3]) (by kernel_rfl) ⟨qqY,trivial⟩) fun v objs' hd=>?_
  unfold qbv at hd;split at hd;(cases hd;exact h2);cases hd
 ·exact ho _ _ _ _ _ h
def qak:Ctx:=mkC 18 (qI) [] qU
theorem qpT:CtxOK Tryz.prog qak:=mkC_ok (qK)
def qal:V->List Obj->Option (Int):=fun v objs=>match v,objs with
 | .s (.i .i64 y0),[]=>some (y0)
 | _,_=>none
theorem qpS (x0:Int):fnE qak Tryz.f30 ([.s (.i .i64 x0)]) ([]) qal=qH7 x0:=by kernel_rfl
def qaj:HA:=fun o vs objs K=>match vs,objs with
 | [.s (.i .i64 x0)],[]=>ob (qH7 x0) fun y0=>K false (.s (.i .i64 y0)) ([])
 | _,_=>o 30 vs objs K
def qQu (o:Orc):Orc:=qJ 30 (qaj o) o
theorem qam:OQ Tryz.prog qQu:=fun _ ho=>qL ho fun vs objs K r h=>by
 unfold qaj at h
 split at h
 ·skip
  obtain⟨t,h1,h2⟩:=qE h
  refine qa mixed qpT ((qpS _).trans h1) (by kernel_rfl) fun v objs' hd=>?_
  unfold qal at hd;split at hd;(cases hd;exact h2);cases hd
 ·exact ho _ _ _ _ _ h
def qRO:Ex->List V->List Obj->Option (Int×Int×LI×LI×Int):=fun e vs objs=>match e,vs,objs with
 | .exit 0,[.s (.i .i64 y0),.s (.ptr 0 0 none 0),.s (.i .i64 y1)],[.cells 28 [.arr .i8 81 y2,.arr .i8 16 y3,.one [.i .i8 y4]]]=>some (y0,y1,y2,y3,y4)
 | _,_,_=>none
def qRQ:HL:=fun vs objs K=>match vs,objs with
 | [.s (.i .i64 x0),.s (.ptr 0 0 none 0),.s (.i .i64 x1),.s (.i .i64 x2)],[.cells 28 [.arr .i8 81 x3,.arr .i8 16 x4,.one [.i .i8 x5]]]=>ob (qFf qB x0 x1 x2 x3 x4 x5) fun z=>K (.exit 0) ([.s (.i .i64 (z.1)),.s (.ptr 0 0 none 0),.s (.i .i64 (z.2.1))]) ([.cells 28 [.arr .i8 81 (z.2.2.1),.arr .i8 16 (z.2.2.2.1),.one [.i .i8 (z.2.2.2.2)]]])
 | _,_=>none
def qqJ:{R:Type}->Nat->List V->List Obj->(Ex->List V->List Obj->Option R)->Option R:=fun q vs objs K=>bif Nat.beq q 3 then qRQ vs objs K else none
def qMF:Ctx:=mkC 37 ((qQu (qDI qI))) [(3,[1,2,5,6],[1,2,5])] qqJ
theorem qbh:CtxOK Tryz.prog qMF:=mkC_ok ((qam _ (qDt _ qK)))
def qRP (f:Nat) (x0 x1 x2:Int) (x3 x4:LI) (x5:Int):Option (Int×Int×LI×LI×Int):=qf qMF 0 [1,2,5,6] [1,2,5] (qD Tryz.f64 3) f ([.s (.i .i64 x0),.s (.ptr 0 0 none 0),.s (.i .i64 x1),.s (.i .i64 x2)]) ([.cells 28 [.arr .i8 81 x3,.arr .i8 16 x4,.one [.i .i8 x5]]]) qRO
theorem qqI (f:Nat) (x0 x1 x2:Int) (x3 x4:LI) (x5:Int):qRP (f+1) x0 x1 x2 x3 x4 x5=qIC (qRP f) x0 x1 x2 x3 x4 x5:=by kernel_rfl
theorem qbj:∀ f,qRP f=qFf f
 | 0=>rfl
 | f+1=>by funext x0 x1 x2 x3 x4 x5;rw[qqI,qbj f];rfl
theorem qqL:qZ Tryz.prog qMF 0 (qD Tryz.f64 3):=
 qg mixed qbh (qM.of (l':=[]) (by kernel_rfl) trivial) (q:=3) (kin:=[1,2,5,6]) (kout:=[1,2,5]) (by kernel_rfl) (by kernel_rfl) fun vs objs K r h=>by
  replace h:qRQ vs objs K=some r:=h
  unfold qRQ at h
  split at h
  ·skip
   obtain⟨t,h1,h2⟩:=qE h
   rw[<- qbj] at h1
   refine⟨_,qRO,t,qB,h1,fun e vs' objs' hd=>?_⟩
   unfold qRO at hd;split at hd;(cases hd;exact h2);cases hd
  ·cases h
def qbi:V->List Obj->Option (Int):=fun v objs=>match v,objs with
 | .s (.i .i64 y0),[]=>some (y0)
 | _,_=>none
theorem qqH (x0 x1:LI) (x2 x3:Int):fnE qMF Tryz.f64 ([.agg [.arr .i8 81 x0,.arr .i8 16 x1,.one [.i .i8 x2]],.s (.i .i64 x3)]) ([]) qbi=qJg x0 x1 x2 x3:=by kernel_rfl
def qbg:HA:=fun o vs objs K=>match vs,objs with
 | [.agg [.arr .i8 81 x0,.arr .i8 16 x1,.one [.i .i8 x2]],.s (.i .i64 x3)],[]=>ob (qJg x0 x1 x2 x3) fun y0=>K false (.s (.i .i64 y0)) ([])
 | _,_=>o 64 vs objs K
def qbk (o:Orc):Orc:=qJ 64 (qbg o) o
theorem qqK:OQ Tryz.prog qbk:=fun _ ho=>qL ho fun vs objs K r h=>by
 unfold qbg at h
 split at h
 ·skip
  obtain⟨t,h1,h2⟩:=qE h
  refine q7 mixed qbh (fn:=Tryz.f64) (b:=(Tryz.f64).body.getD .skip) (by kernel_rfl) (by kernel_rfl) (by kernel_rfl) ((qqH _ _ _ _).trans h1) (m:=0) rfl (qM.of (l':=[qD Tryz.f64 3]) (by kernel_rfl) ⟨qqL,trivial⟩) fun v objs' hd=>?_
  unfold qbi at hd;split at hd;(cases hd;exact h2);cases hd
 ·exact ho _ _ _ _ _ h
def qar:Ctx:=mkC 15 (qI) [] qU
theorem qpX:CtxOK Tryz.prog qar:=mkC_ok (qK)
def qas:V->List Obj->Option (Int):=fun v objs=>match v,objs with
 | .s (.i .i64 y0),[]=>some (y0)
 | _,_=>none
theorem qpW (x0:Int):fnE qar Tryz.f65 ([.s (.i .i64 x0)]) ([]) qas=qJd x0:=by kernel_rfl
def qaq:HA:=fun o vs objs K=>match vs,objs with
 | [.s (.i .i64 x0)],[]=>ob (qJd x0) fun y0=>K false (.s (.i .i64 y0)) ([])
 | _,_=>o 65 vs objs K
def qat (o:Orc):Orc:=qJ 65 (qaq o) o
theorem qpY:OQ Tryz.prog qat:=fun _ ho=>qL ho fun vs objs K r h=>by
 unfold qaq at h
 split at h
 ·skip
  obtain⟨t,h1,h2⟩:=qE h
  refine qa mixed qpX ((qpW _).trans h1) (by kernel_rfl) fun v objs' hd=>?_
  unfold qas at hd;split at hd;(cases hd;exact h2);cases hd
 ·exact ho _ _ _ _ _ h
def qao:Ctx:=mkC 8 ((qDI qI)) [] qU
theorem qpV:CtxOK Tryz.prog qao:=mkC_ok ((qDt _ qK))
def qap:V->List Obj->Option (Int):=fun v objs=>match v,objs with
 | .s (.i .i64 y0),[]=>some (y0)
 | _,_=>none
theorem qpU (x0:Int):fnE qao Tryz.f46 ([.s (.i .i64 x0)]) ([]) qap=qA9 x0:=by kernel_rfl
def qan:HA:=fun o vs objs K=>match vs,objs with
 | [.s (.i .i64 x0)],[]=>ob (qA9 x0) fun y0=>K false (.s (.i .i64 y0)) ([])
 | _,_=>o 46 vs objs K
def qFZ (o:Orc):Orc:=qJ 46 (qan o) o
theorem qGZ:OQ Tryz.prog qFZ:=fun _ ho=>qL ho fun vs objs K r h=>by
 unfold qan at h
 split at h
 ·skip
  obtain⟨t,h1,h2⟩:=qE h
  refine qa mixed qpV ((qpU _).trans h1) (by kernel_rfl) fun v objs' hd=>?_
  unfold qap at hd;split at hd;(cases hd;exact h2);cases hd
 ·exact ho _ _ _ _ _ h
def qa1:Ctx:=mkC 26 (qI) [] qU
theorem qpe:CtxOK Tryz.prog qa1:=mkC_ok (qK)
def qa2:V->List Obj->Option (Int):=fun v objs=>match v,objs with
 | .s (.i .i64 y0),[]=>some (y0)
 | _,_=>none
theorem qpd (x0 x1:Int):fnE qa1 Tryz.f102 ([.s (.i .i64 x0),.s (.i .i64 x1)]) ([]) qa2=qDK x0 x1:=by kernel_rfl
def qa0:HA:=fun o vs objs K=>match vs,objs with
 | [.s (.i .i64 x0),.s (.i .i64 x1)],[]=>ob (qDK x0 x1) fun y0=>K false (.s (.i .i64 y0)) ([])
 | _,_=>o 102 vs objs K
def qQx (o:Orc):Orc:=qJ 102 (qa0 o) o
theorem qa3:OQ Tryz.prog qQx:=fun _ ho=>qL ho fun vs objs K r h=>by
 unfold qa0 at h
 split at h
 ·skip
  obtain⟨t,h1,h2⟩:=qE h
  refine qa mixed qpe ((qpd _ _).trans h1) (by kernel_rfl) fun v objs' hd=>?_
  unfold qa2 at hd;split at hd;(cases hd;exact h2);cases hd
 ·exact ho _ _ _ _ _ h
def qay:Ctx:=mkC 35 ((qDI (qQx (qFZ qI)))) [] qU
theorem qpc:CtxOK Tryz.prog qay:=mkC_ok ((qDt _ (qa3 _ (qGZ _ qK))))
def qaz:V->List Obj->Option (Bool):=fun v objs=>match v,objs with
 | .s (.b y0),[]=>some (y0)
 | _,_=>none
theorem qpb (x0 x1:Int):fnE qay Tryz.f66 ([.s (.i .i64 x0),.s (.i .i64 x1)]) ([]) qaz=qDJ x0 x1:=by kernel_rfl
def qax:HA:=fun o vs objs K=>match vs,objs with
 | [.s (.i .i64 x0),.s (.i .i64 x1)],[]=>ob (qDJ x0 x1) fun y0=>K false (.s (.b y0)) ([])
 | _,_=>o 66 vs objs K
def qMB (o:Orc):Orc:=qJ 66 (qax o) o
theorem qQw:OQ Tryz.prog qMB:=fun _ ho=>qL ho fun vs objs K r h=>by
 unfold qax at h
 split at h
 ·skip
  obtain⟨t,h1,h2⟩:=qE h
  refine qa mixed qpc ((qpb _ _).trans h1) (by kernel_rfl) fun v objs' hd=>?_
  unfold qaz at hd;split at hd;(cases hd;exact h2);cases hd
 ·exact ho _ _ _ _ _ h
def qRE:Ex->List V->List Obj->Option ((Int×LI×LI×Int)⊕(LI×LI×Int)):=fun e vs objs=>match e,vs,objs with
 | .ret,[.s (.ptr 0 0 none 0),.s (.i .i64 y0)],[.cells 28 [.arr .i8 81 y1,.arr .i8 16 y2,.one [.i .i8 y3]]]=>some (.inl (y0,y1,y2,y3))
 | .exit 0,[.s (.ptr 0 0 none 0),.s .bad],[.cells 28 [.arr .i8 81 y0,.arr .i8 16 y1,.one [.i .i8 y2]]]=>some (.inr (y0,y1,y2))
 | _,_,_=>none
def qQ6:Ex->List V->List Obj->Option ((Int×Int×LI×LI×Int)⊕(Int×LI×LI×Int)):=fun e vs objs=>match e,vs,objs with
 | .ret,[.s (.ptr 0 0 none 0),.s (.i .i64 y0),.s (.i .i64 y1)],[.cells 28 [.arr .i8 81 y2,.arr .i8 16 y3,.one [.i .i8 y4]]]=>some (.inl (y0,y1,y2,y3,y4))
 | .exit 4,[.s (.ptr 0 0 none 0),.s .bad,.s (.i .i64 y0)],[.cells 28 [.arr .i8 81 y1,.arr .i8 16 y2,.one [.i .i8 y3]]]=>some (.inr (y0,y1,y2,y3))
 | _,_,_=>none
def qRG:Ex->List V->List Obj->Option ((Int×LI×LI×Int)⊕(LI×LI×Int)):=fun e vs objs=>match e,vs,objs with
 | .ret,[.s (.ptr 0 0 none 0),.s (.i .i64 y0)],[.cells 28 [.arr .i8 81 y1,.arr .i8 16 y2,.one [.i .i8 y3]]]=>some (.inl (y0,y1,y2,y3))
 | .exit 2,[.s (.ptr 0 0 none 0),.s .bad],[.cells 28 [.arr .i8 81 y0,.arr .i8 16 y1,.one [.i .i8 y2]]]=>some (.inr (y0,y1,y2))
 | _,_,_=>none
def qQ8:Ex->List V->List Obj->Option ((Int×LI×LI×Int)⊕(LI×LI×Int)):=fun e vs objs=>match e,vs,objs with
 | .ret,[.s (.ptr 0 0 none 0),.s (.i .i64 y0)],[.cells 28 [.arr .i8 81 y1,.arr .i8 16 y2,.one [.i .i8 y3]]]=>some (.inl (y0,y1,y2,y3))
 | .exit 6,[.s (.ptr 0 0 none 0),.s .bad],[.cells 28 [.arr .i8 81 y0,.arr .i8 16 y1,.one [.i .i8 y2]]]=>some (.inr (y0,y1,y2))
 | _,_,_=>none
def qRA:Ex->List V->List Obj->Option ((Int×LI×LI×Int)⊕(LI×LI×Int)):=fun e vs objs=>match e,vs,objs with
 | .ret,[.s (.ptr 0 0 none 0),.s (.i .i64 y0)],[.cells 28 [.arr .i8 81 y1,.arr .i8 16 y2,.one [.i .i8 y3]]]=>some (.inl (y0,y1,y2,y3))
 | .exit 8,[.s (.ptr 0 0 none 0),.s .bad],[.cells 28 [.arr .i8 81 y0,.arr .i8 16 y1,.one [.i .i8 y2]]]=>some (.inr (y0,y1,y2))
 | _,_,_=>none
def qRC:Ex->List V->List Obj->Option ((Int)⊕(Unit)):=fun e vs objs=>match e,vs,objs with
 | .ret,[.s (.i .i64 y0)],[]=>some (.inl (y0))
 | .exit 10,[.s .bad],[]=>some (.inr ())
 | _,_,_=>none
def qRM:HL:=fun vs objs K=>match vs,objs with
 | [.s (.ptr 0 0 none 0),.s (.i .i64 x0)],[.cells 28 [.arr .i8 81 x1,.arr .i8 16 x2,.one [.i .i8 x3]]]=>ob (qB5 qB x0 x1 x2 x3) fun t0=>sw t0 (fun z=>K (.ret) ([.s (.ptr 0 0 none 0),.s (.i .i64 (z.1))]) ([.cells 28 [.arr .i8 81 (z.2.1),.arr .i8 16 (z.2.2.1),.one [.i .i8 (z.2.2.2)]]])) (fun z=>K (.exit 0) ([.s (.ptr 0 0 none 0),.s .bad]) ([.cells 28 [.arr .i8 81 (z.1),.arr .i8 16 (z.2.1),.one [.i .i8 (z.2.2)]]]))
 | _,_=>none
def qRI:HL:=fun vs objs K=>match vs,objs with
 | [.s (.ptr 0 0 none 0),.s (.i .i64 x0),.s (.i .i64 x1)],[.cells 28 [.arr .i8 81 x2,.arr .i8 16 x3,.one [.i .i8 x4]]]=>ob (qBa qB x0 x1 x2 x3 x4) fun t0=>sw t0 (fun z=>K (.ret) ([.s (.ptr 0 0 none 0),.s (.i .i64 (z.1)),.s (.i .i64 (z.2.1))]) ([.cells 28 [.arr .i8 81 (z.2.2.1),.arr .i8 16 (z.2.2.2.1),.one [.i .i8 (z.2.2.2.2)]]])) (fun z=>K (.exit 4) ([.s (.ptr 0 0 none 0),.s .bad,.s (.i .i64 (z.1))]) ([.cells 28 [.arr .i8 81 (z.2.1),.arr .i8 16 (z.2.2.1),.one [.i .i8 (z.2.2.2)]]]))
 | _,_=>none
def qRN:HL:=fun vs objs K=>match vs,objs with
 | [.s (.ptr 0 0 none 0),.s (.i .i64 x0)],[.cells 28 [.arr .i8 81 x1,.arr .i8 16 x2,.one [.i .i8 x3]]]=>ob (qBP qB x0 x1 x2 x3) fun t0=>sw t0 (fun z=>K (.ret) ([.s (.ptr 0 0 none 0),.s (.i .i64 (z.1))]) ([.cells 28 [.arr .i8 81 (z.2.1),.arr .i8 16 (z.2.2.1),.one [.i .i8 (z.2.2.2)]]])) (fun z=>K (.exit 2) ([.s (.ptr 0 0 none 0),.s .bad]) ([.cells 28 [.arr .i8 81 (z.1),.arr .i8 16 (z.2.1),.one [.i .i8 (z.2.2)]]]))
 | _,_=>none
def qRJ:HL:=fun vs objs K=>match vs,objs with
 | [.s (.ptr 0 0 none 0),.s (.i .i64 x0)],[.cells 28 [.arr .i8 81 x1,.arr .i8 16 x2,.one [.i .i8 x3]]]=>ob (qBM qB x0 x1 x2 x3) fun t0=>sw t0 (fun z=>K (.ret) ([.s (.ptr 0 0 none 0),.s (.i .i64 (z.1))]) ([.cells 28 [.arr .i8 81 (z.2.1),.arr .i8 16 (z.2.2.1),.one [.i .i8 (z.2.2.2)]]])) (fun z=>K (.exit 6) ([.s (.ptr 0 0 none 0),.s .bad]) ([.cells 28 [.arr .i8 81 (z.1),.arr .i8 16 (z.2.1),.one [.i .i8 (z.2.2)]]]))
 | _,_=>none
def qRK:HL:=fun vs objs K=>match vs,objs with
 | [.s (.ptr 0 0 none 0),.s (.i .i64 x0)],[.cells 28 [.arr .i8 81 x1,.arr .i8 16 x2,.one [.i .i8 x3]]]=>ob (qBN qB x0 x1 x2 x3) fun t0=>sw t0 (fun z=>K (.ret) ([.s (.ptr 0 0 none 0),.s (.i .i64 (z.1))]) ([.cells 28 [.arr .i8 81 (z.2.1),.arr .i8 16 (z.2.2.1),.one [.i .i8 (z.2.2.2)]]])) (fun z=>K (.exit 8) ([.s (.ptr 0 0 none 0),.s .bad]) ([.cells 28 [.arr .i8 81 (z.1),.arr .i8 16 (z.2.1),.one [.i .i8 (z.2.2)]]]))
 | _,_=>none
def qRL:HL:=fun vs objs K=>match vs,objs with
 | [.s (.ptr 0 0 none 0),.s (.i .i64 x0)],[.cells 28 [.arr .i8 81 x1,.arr .i8 16 x2,.one [.i .i8 x3]]]=>ob (qBO qB x0 x1 x2 x3) fun t0=>sw t0 (fun y0=>K (.ret) ([.s (.i .i64 y0)]) ([])) (fun _=>K (.exit 10) ([.s .bad]) ([]))
 | _,_=>none
def qp9:{R:Type}->Nat->List V->List Obj->(Ex->List V->List Obj->Option R)->Option R:=fun q vs objs K=>bif Nat.beq q 4 then qRM vs objs K else bif Nat.beq q 12 then qRI vs objs K else bif Nat.beq q 9 then qRN vs objs K else bif Nat.beq q 20 then qRJ vs objs K else bif Nat.beq q 25 then qRK vs objs K else bif Nat.beq q 30 then qRL vs objs K else none
def qCI:Ctx:=mkC 103 ((qMH (qMB (qat (qbk (qbx (qDI qI))))))) [(4,[1,3],[1,2]),(9,[1,4],[1,2]),(12,[1,4,5],[1,2,4]),(20,[1,7],[1,2]),(25,[1,8],[1,2]),(30,[1,9],[2])] qp9
theorem qGa:CtxOK Tryz.prog qCI:=mkC_ok ((qRT _ (qQw _ (qpY _ (qqK _ (qqX _ (qDt _ qK)))))))
def qRF (f:Nat) (x0:Int) (x1 x2:LI) (x3:Int):Option ((Int×LI×LI×Int)⊕(LI×LI×Int)):=qf qCI 0 [1,3] [1,2] (qD Tryz.f27 4) f ([.s (.ptr 0 0 none 0),.s (.i .i64 x0)]) ([.cells 28 [.arr .i8 81 x1,.arr .i8 16 x2,.one [.i .i8 x3]]]) qRE
theorem qp7 (f:Nat) (x0:Int) (x1 x2:LI) (x3:Int):qRF (f+1) x0 x1 x2 x3=qDy (qRF f) x0 x1 x2 x3:=by kernel_rfl
theorem qbd:∀ f,qRF f=qB5 f
 | 0=>rfl
 | f+1=>by funext x0 x1 x2 x3;rw[qp7,qbd f];rfl
def qQ7 (f:Nat) (x0 x1:Int) (x2 x3:LI) (x4:Int):Option ((Int×Int×LI×LI×Int)⊕(Int×LI×LI×Int)):=qf qCI 0 [1,4,5] [1,2,4] (qD Tryz.f27 12) f ([.s (.ptr 0 0 none 0),.s (.i .i64 x0),.s (.i .i64 x1)]) ([.cells 28 [.arr .i8 81 x2,.arr .i8 16 x3,.one [.i .i8 x4]]]) qQ6
theorem qp3 (f:Nat) (x0 x1:Int) (x2 x3:LI) (x4:Int):qQ7 (f+1) x0 x1 x2 x3 x4=qDu (qQ7 f) x0 x1 x2 x3 x4:=by kernel_rfl
theorem qbZ:∀ f,qQ7 f=qBa f
 | 0=>rfl
 | f+1=>by funext x0 x1 x2 x3 x4;rw[qp3,qbZ f];rfl
def qRH (f:Nat) (x0:Int) (x1 x2:LI) (x3:Int):Option ((Int×LI×LI×Int)⊕(LI×LI×Int)):=qf qCI 0 [1,4] [1,2] (qD Tryz.f27 9) f ([.s (.ptr 0 0 none 0),.s (.i .i64 x0)]) ([.cells 28 [.arr .i8 81 x1,.arr .i8 16 x2,.one [.i .i8 x3]]]) qRG
theorem qp8 (f:Nat) (x0:Int) (x1 x2:LI) (x3:Int):qRH (f+1) x0 x1 x2 x3=qDz (qRH f) x0 x1 x2 x3:=by kernel_rfl
theorem qbe:∀ f,qRH f=qBP f
 | 0=>rfl
 | f+1=>by funext x0 x1 x2 x3;rw[qp8,qbe f];rfl
def qQ9 (f:Nat) (x0:Int) (x1 x2:LI) (x3:Int):Option ((Int×LI×LI×Int)⊕(LI×LI×Int)):=qf qCI 0 [1,7] [1,2] (qD Tryz.f27 20) f ([.s (.ptr 0 0 none 0),.s (.i .i64 x0)]) ([.cells 28 [.arr .i8 81 x1,.arr .i8 16 x2,.one [.i .i8 x3]]]) qQ8
theorem qp4 (f:Nat) (x0:Int) (x1 x2:LI) (x3:Int):qQ9 (f+1) x0 x1 x2 x3=qDv (qQ9 f) x0 x1 x2 x3:=by kernel_rfl
theorem qba:∀ f,qQ9 f=qBM f
 | 0=>rfl
 | f+1=>by funext x0 x1 x2 x3;rw[qp4,qba f];rfl
def qRB (f:Nat) (x0:Int) (x1 x2:LI) (x3:Int):Option ((Int×LI×LI×Int)⊕(LI×LI×Int)):=qf qCI 0 [1,8] [1,2] (qD Tryz.f27 25) f ([.s (.ptr 0 0 none 0),.s (.i .i64 x0)]) ([.cells 28 [.arr .i8 81 x1,.arr .i8 16 x2,.one [.i .i8 x3]]]) qRA
theorem qp5 (f:Nat) (x0:Int) (x1 x2:LI) (x3:Int):qRB (f+1) x0 x1 x2 x3=qDw (qRB f) x0 x1 x2 x3:=by kernel_rfl
theorem qbb:∀ f,qRB f=qBN f
 | 0=>rfl
 | f+1=>by funext x0 x1 x2 x3;rw[qp5,qbb f];rfl
def qRD (f:Nat) (x0:Int) (x1 x2:LI) (x3:Int):Option ((Int)⊕(Unit)):=qf qCI 0 [1,9] [2] (qD Tryz.f27 30) f ([.s (.ptr 0 0 none 0),.s (.i .i64 x0)]) ([.cells 28 [.arr .i8 81 x1,.arr .i8 16 x2,.one [.i .i8 x3]]]) qRC
theorem qp6 (f:Nat) (x0:Int) (x1 x2:LI) (x3:Int):qRD (f+1) x0 x1 x2 x3=qDx (qRD f) x0 x1 x2 x3:=by kernel_rfl
theorem qbc:∀ f,qRD f=qBO f
 | 0=>rfl
 | f+1=>by funext x0 x1 x2 x3;rw[qp6,qbc f];rfl
theorem qqF:qZ Tryz.prog qCI 0 (qD Tryz.f27 4):=
 qg mixed qGa (qM.of (l':=[]) (by kernel_rfl) trivial) (q:=4) (kin:=[1,3]) (kout:=[1,2]) (by kernel_rfl) (by kernel_rfl) fun vs objs K r h=>by
  replace h:qRM vs objs K=some r:=h
  unfold qRM at h
  split at h
  ·skip
   obtain⟨t,h1,h2⟩:=qE h
   rw[<- qbd] at h1
   refine⟨_,qRE,t,qB,h1,fun e vs' objs' hd=>?_⟩
   unfold qRE at hd
   split at hd
   ·skip
    cases hd
    exact h2
   ·skip
    cases hd
    exact h2
   ·cases hd
  ·cases h
theorem qqB:qZ Tryz.prog qCI 0 (qD Tryz.f27 12):=
 qg mixed qGa (qM.of (l':=[]) (by kernel_rfl) trivial) (q:=12) (kin:=[1,4,5]) (kout:=[1,2,4]) (by kernel_rfl) (by kernel_rfl) fun vs objs K r h=>by
  replace h:qRI vs objs K=some r:=h
  unfold qRI at h
  split at h
  ·skip
   obtain⟨t,h1,h2⟩:=qE h
   rw[<- qbZ] at h1
   refine⟨_,qQ6,t,qB,h1,fun e vs' objs' hd=>?_⟩
   unfold qQ6 at hd
   split at hd
   ·skip
    cases hd
    exact h2
   ·skip
    cases hd
    exact h2
   ·cases hd
  ·cases h
theorem qqC:qZ Tryz.prog qCI 0 (qD Tryz.f27 20):=
 qg mixed qGa (qM.of (l':=[]) (by kernel_rfl) trivial) (q:=20) (kin:=[1,7]) (kout:=[1,2]) (by kernel_rfl) (by kernel_rfl) fun vs objs K r h=>by
  replace h:qRJ vs objs K=some r:=h
  unfold qRJ at h
  split at h
  ·skip
   obtain⟨t,h1,h2⟩:=qE h
   rw[<- qba] at h1
   refine⟨_,qQ8,t,qB,h1,fun e vs' objs' hd=>?_⟩
   unfold qQ8 at hd
   split at hd
   ·skip
    cases hd
    exact h2
   ·skip
    cases hd
    exact h2
   ·cases hd
  ·cases h
theorem qqD:qZ Tryz.prog qCI 0 (qD Tryz.f27 25):=
 qg mixed qGa (qM.of (l':=[]) (by kernel_rfl) trivial) (q:=25) (kin:=[1,8]) (kout:=[1,2]) (by kernel_rfl) (by kernel_rfl) fun vs objs K r h=>by
  replace h:qRK vs objs K=some r:=h
  unfold qRK at h
  split at h
  ·skip
   obtain⟨t,h1,h2⟩:=qE h
   rw[<- qbb] at h1
   refine⟨_,qRA,t,qB,h1,fun e vs' objs' hd=>?_⟩
   unfold qRA at hd
   split at hd
   ·skip
    cases hd
    exact h2
   ·skip
    cases hd
    exact h2
   ·cases hd
  ·cases h
theorem qqE:qZ Tryz.prog qCI 0 (qD Tryz.f27 30):=
 qg mixed qGa (qM.of (l':=[]) (by kernel_rfl) trivial) (q:=30) (kin:=[1,9]) (kout:=[2]) (by kernel_rfl) (by kernel_rfl) fun vs objs K r h=>by
  replace h:qRL vs objs K=some r:=h
  unfold qRL at h
  split at h
  ·skip
   obtain⟨t,h1,h2⟩:=qE h
   rw[<- qbc] at h1
   refine⟨_,qRC,t,qB,h1,fun e vs' objs' hd=>?_⟩
   unfold qRC at hd
   split at hd
   ·skip
    cases hd
    exact h2
   ·skip
    cases hd
    exact h2
   ·cases hd
  ·cases h
theorem qqG:qZ Tryz.prog qCI 0 (qD Tryz.f27 9):=
 qg mixed qGa (qM.of (l':=[qD Tryz.f27 12]) (by kernel_rfl) ⟨qqB,trivial⟩) (q:=9) (kin:=[1,4]) (kout:=[1,2]) (by kernel_rfl) (by kernel_rfl) fun vs objs K r h=>by
  replace h:qRN vs objs K=some r:=h
  unfold qRN at h
  split at h
  ·skip
   obtain⟨t,h1,h2⟩:=qE h
   rw[<- qbe] at h1
   refine⟨_,qRG,t,qB,h1,fun e vs' objs' hd=>?_⟩
   unfold qRG at hd
   split at hd
   ·skip
    cases hd
    exact h2
   ·skip
    cases hd
    exact h2
   ·cases hd
  ·cases h
def qbY:V->List Obj->Option (Int):=fun v objs=>match v,objs with
 | .s (.i .i64 y0),[]=>some (y0)
 | _,_=>none
theorem qp2 (x0 x1:LI) (x2:Int):fnE qCI Tryz.f27 ([.agg [.arr .i8 81 x0,.arr .i8 16 x1,.one [.i .i8 x2]]]) ([]) qbY=qFe x0 x1 x2:=by kernel_rfl
def qbX:HA:=fun o vs objs K=>match vs,objs with
 | [.agg [.arr .i8 81 x0,.arr .i8 16 x1,.one [.i .i8 x2]]],[]=>ob (qFe x0 x1 x2) fun y0=>K false (.s (.i .i64 y0)) ([])
 | _,_=>o 27 vs objs K
def qbf (o:Orc):Orc:=qJ 27 (qbX o) o
theorem qqA:OQ Tryz.prog qbf:=fun _ ho=>qL ho fun vs objs K r h=>by
 unfold qbX at h
 split at h
 ·skip
  obtain⟨t,h1,h2⟩:=qE h
  refine q7 mixed qGa (fn:=Tryz.f27) (b:=(Tryz.f27).body.getD .skip) (by kernel_rfl) (by kernel_rfl) (by kernel_rfl) ((qp2 _ _ _).trans h1) (m:=0) rfl (qM.of (l':=[qD Tryz.f27 4,qD Tryz.f27 9,qD Tryz.f27 20,qD Tryz.f27 25,qD Tryz.f27 30]) (by kernel_rfl) ⟨qqF,qqG,qqC,qqD,qqE,trivial⟩) fun v objs' hd=>?_
  unfold qbY at hd;split at hd;(cases hd;exact h2);cases hd
 ·exact ho _ _ _ _ _ h
def qRV:Ex->List V->List Obj->Option (List Bool×List Bool):=fun e vs objs=>match e,vs,objs with
 | .exit 0,[.s (.ptr 0 0 none 0),.s (.ptr 1 0 none 0)],[.cells 87 [Seg.barr 81 y0],.cells 87 [Seg.barr 81 y1]]=>some (y0,y1)
 | _,_,_=>none
def qRY:HL:=fun vs objs K=>match vs,objs with
 | [.s (.ptr 0 0 none 0),.s (.ptr 1 0 none 0),.s (.ptr 2 0 none 0),.s (.i .i64 x0)],[.cells 28 [.arr .i8 81 x1,.arr .i8 16 x2,.one [.i .i8 x3]],.cells 87 [Seg.barr 81 x4],.cells 87 [Seg.barr 81 x5]]=>ob (qEd qB x0 x1 x2 x3 x4 x5) fun z=>K (.exit 0) ([.s (.ptr 0 0 none 0),.s (.ptr 1 0 none 0)]) ([.cells 87 [Seg.barr 81 (z.1)],.cells 87 [Seg.barr 81 (z.2)]])
 | _,_=>none
def qqS:{R:Type}->Nat->List V->List Obj->(Ex->List V->List Obj->Option R)->Option R:=fun q vs objs K=>bif Nat.beq q 3 then qRY vs objs K else none
def qMI:Ctx:=mkC 18 (qI) [(3,[1,2,3,4],[2,3])] qqS
theorem qbq:CtxOK Tryz.prog qMI:=mkC_ok (qK)
def qRW (f:Nat) (x0:Int) (x1 x2:LI) (x3:Int) (x4 x5:List Bool):Option (List Bool×List Bool):=qf qMI 0 [1,2,3,4] [2,3] (qD Tryz.f44 3) f ([.s (.ptr 0 0 none 0),.s (.ptr 1 0 none 0),.s (.ptr 2 0 none 0),.s (.i .i64 x0)]) ([.cells 28 [.arr .i8 81 x1,.arr .i8 16 x2,.one [.i .i8 x3]],.cells 87 [Seg.barr 81 x4],.cells 87 [Seg.barr 81 x5]]) qRV
theorem qqR (f:Nat) (x0:Int) (x1 x2:LI) (x3:Int) (x4 x5:List Bool):qRW (f+1) x0 x1 x2 x3 x4 x5=qID (qRW f) x0 x1 x2 x3 x4 x5:=by kernel_rfl
theorem qbs:∀ f,qRW f=qEd f
 | 0=>rfl
 | f+1=>by funext x0 x1 x2 x3 x4 x5;rw[qqR,qbs f];rfl
theorem qqT:qZ Tryz.prog qMI 0 (qD Tryz.f44 3):=
 qg mixed qbq (qM.of (l':=[]) (by kernel_rfl) trivial) (q:=3) (kin:=[1,2,3,4]) (kout:=[2,3]) (by kernel_rfl) (by kernel_rfl) fun vs objs K r h=>by
  replace h:qRY vs objs K=some r:=h
  unfold qRY at h
  split at h
  ·skip
   obtain⟨t,h1,h2⟩:=qE h
   rw[<- qbs] at h1
   refine⟨_,qRV,t,qB,h1,fun e vs' objs' hd=>?_⟩
   unfold qRV at hd;split at hd;(cases hd;exact h2);cases hd
  ·cases h
def qbr:V->List Obj->Option (List Bool):=fun v objs=>match v,objs with
 | .agg [Seg.barr 81 y0],[]=>some (y0)
 | _,_=>none
theorem qqQ (x0 x1:LI) (x2:Int):fnE qMI Tryz.f44 ([.agg [.arr .i8 81 x0,.arr .i8 16 x1,.one [.i .i8 x2]]]) ([]) qbr=qEc x0 x1 x2:=by kernel_rfl
def qbp:HA:=fun o vs objs K=>match vs,objs with
 | [.agg [.arr .i8 81 x0,.arr .i8 16 x1,.one [.i .i8 x2]]],[]=>ob (qEc x0 x1 x2) fun y0=>K false (.agg [Seg.barr 81 y0]) ([])
 | _,_=>o 44 vs objs K
def qMJ (o:Orc):Orc:=qJ 44 (qbp o) o
theorem qRX:OQ Tryz.prog qMJ:=fun _ ho=>qL ho fun vs objs K r h=>by
 unfold qbp at h
 split at h
 ·skip
  obtain⟨t,h1,h2⟩:=qE h
  refine q7 mixed qbq (fn:=Tryz.f44) (b:=(Tryz.f44).body.getD .skip) (by kernel_rfl) (by kernel_rfl) (by kernel_rfl) ((qqQ _ _ _).trans h1) (m:=0) rfl (qM.of (l':=[qD Tryz.f44 3]) (by kernel_rfl) ⟨qqT,trivial⟩) fun v objs' hd=>?_
  unfold qbr at hd;split at hd;(cases hd;exact h2);cases hd
 ·exact ho _ _ _ _ _ h
def qRg:Ex->List V->List Obj->Option ((Int)⊕(Unit)):=fun e vs objs=>match e,vs,objs with
 | .ret,[.s (.i .i64 y0)],[]=>some (.inl (y0))
 | .exit 0,[.s .bad],[]=>some (.inr ())
 | _,_,_=>none
def qRi:HL:=fun vs objs K=>match vs,objs with
 | [.s (.i .i64 x0),.s (.ptr 0 0 none 0),.s (.i .i64 x1)],[.cells 28 [.arr .i8 81 x2,.arr .i8 16 x3,.one [.i .i8 x4]]]=>ob (qFh qB x0 x1 x2 x3 x4) fun t0=>sw t0 (fun y0=>K (.ret) ([.s (.i .i64 y0)]) ([])) (fun _=>K (.exit 0) ([.s .bad]) ([]))
 | _,_=>none
def qql:{R:Type}->Nat->List V->List Obj->(Ex->List V->List Obj->Option R)->Option R:=fun q vs objs K=>bif Nat.beq q 2 then qRi vs objs K else none
def qMN:Ctx:=mkC 20 (qI) [(2,[1,2,5],[4])] qql
theorem qcB:CtxOK Tryz.prog qMN:=mkC_ok (qK)
def qRh (f:Nat) (x0 x1:Int) (x2 x3:LI) (x4:Int):Option ((Int)⊕(Unit)):=qf qMN 0 [1,2,5] [4] (qD Tryz.f45 2) f ([.s (.i .i64 x0),.s (.ptr 0 0 none 0),.s (.i .i64 x1)]) ([.cells 28 [.arr .i8 81 x2,.arr .i8 16 x3,.one [.i .i8 x4]]]) qRg
theorem qqk (f:Nat) (x0 x1:Int) (x2 x3:LI) (x4:Int):qRh (f+1) x0 x1 x2 x3 x4=qIF (qRh f) x0 x1 x2 x3 x4:=by kernel_rfl
theorem qcD:∀ f,qRh f=qFh f
 | 0=>rfl
 | f+1=>by funext x0 x1 x2 x3 x4;rw[qqk,qcD f];rfl
theorem qqn:qZ Tryz.prog qMN 0 (qD Tryz.f45 2):=
 qg mixed qcB (qM.of (l':=[]) (by kernel_rfl) trivial) (q:=2) (kin:=[1,2,5]) (kout:=[4]) (by kernel_rfl) (by kernel_rfl) fun vs objs K r h=>by
  replace h:qRi vs objs K=some r:=h
  unfold qRi at h
  split at h
  ·skip
   obtain⟨t,h1,h2⟩:=qE h
   rw[<- qcD] at h1
   refine⟨_,qRg,t,qB,h1,fun e vs' objs' hd=>?_⟩
   unfold qRg at hd
   split at hd
   ·skip
    cases hd
    exact h2
   ·skip
    cases hd
    exact h2
   ·cases hd
  ·cases h
def qcC:V->List Obj->Option (Int):=fun v objs=>match v,objs with
 | .s (.i .i64 y0),[]=>some (y0)
 | _,_=>none
theorem qqj (x0 x1:LI) (x2 x3:Int):fnE qMN Tryz.f45 ([.agg [.arr .i8 81 x0,.arr .i8 16 x1,.one [.i .i8 x2]],.s (.i .i64 x3)]) ([]) qcC=qJj x0 x1 x2 x3:=by kernel_rfl
def qcA:HA:=fun o vs objs K=>match vs,objs with
 | [.agg [.arr .i8 81 x0,.arr .i8 16 x1,.one [.i .i8 x2]],.s (.i .i64 x3)],[]=>ob (qJj x0 x1 x2 x3) fun y0=>K false (.s (.i .i64 y0)) ([])
 | _,_=>o 45 vs objs K
def qcE (o:Orc):Orc:=qJ 45 (qcA o) o
theorem qqm:OQ Tryz.prog qcE:=fun _ ho=>qL ho fun vs objs K r h=>by
 unfold qcA at h
 split at h
 ·skip
  obtain⟨t,h1,h2⟩:=qE h
  refine q7 mixed qcB (fn:=Tryz.f45) (b:=(Tryz.f45).body.getD .skip) (by kernel_rfl) (by kernel_rfl) (by kernel_rfl) ((qqj _ _ _ _).trans h1) (m:=0) rfl (qM.of (l':=[qD Tryz.f45 2]) (by kernel_rfl) ⟨qqn,trivial⟩) fun v objs' hd=>?_
  unfold qcC at hd;split at hd;(cases hd;exact h2);cases hd
 ·exact ho _ _ _ _ _ h
def qa9:Ctx:=mkC 8 (qI) [] qU
theorem qpj:CtxOK Tryz.prog qa9:=mkC_ok (qK)
def qbA:V->List Obj->Option (Int):=fun v objs=>match v,objs with
 | .s (.i .i64 y0),[]=>some (y0)
 | _,_=>none
theorem qpi (x0:Int):fnE qa9 Tryz.f116 ([.s (.i .i64 x0)]) ([]) qbA=qFa x0:=by kernel_rfl
def qa8:HA:=fun o vs objs K=>match vs,objs with
 | [.s (.i .i64 x0)],[]=>ob (qFa x0) fun y0=>K false (.s (.i .i64 y0)) ([])
 | _,_=>o 116 vs objs K
def qbB (o:Orc):Orc:=qJ 116 (qa8 o) o
theorem qpk:OQ Tryz.prog qbB:=fun _ ho=>qL ho fun vs objs K r h=>by
 unfold qa8 at h
 split at h
 ·skip
  obtain⟨t,h1,h2⟩:=qE h
  refine qa mixed qpj ((qpi _).trans h1) (by kernel_rfl) fun v objs' hd=>?_
  unfold qbA at hd;split at hd;(cases hd;exact h2);cases hd
 ·exact ho _ _ _ _ _ h
def qa5:Ctx:=mkC 125 ((qDI (qFZ (qbB qI)))) [] qU
theorem qpg:CtxOK Tryz.prog qa5:=mkC_ok ((qDt _ (qGZ _ (qpk _ qK))))
def qa6:V->List Obj->Option (Bool):=fun v objs=>match v,objs with
 | .s (.b y0),[]=>some (y0)
 | _,_=>none
theorem qpf (x0 x1 x2:Int):fnE qa5 Tryz.f87 ([.s (.i .i64 x0),.s (.i .i64 x1),.s (.i .i64 x2)]) ([]) qa6=qJe x0 x1 x2:=by kernel_rfl
def qa4:HA:=fun o vs objs K=>match vs,objs with
 | [.s (.i .i64 x0),.s (.i .i64 x1),.s (.i .i64 x2)],[]=>ob (qJe x0 x1 x2) fun y0=>K false (.s (.b y0)) ([])
 | _,_=>o 87 vs objs K
def qa7 (o:Orc):Orc:=qJ 87 (qa4 o) o
theorem qph:OQ Tryz.prog qa7:=fun _ ho=>qL ho fun vs objs K r h=>by
 unfold qa4 at h
 split at h
 ·skip
  obtain⟨t,h1,h2⟩:=qE h
  refine qa mixed qpg ((qpf _ _ _).trans h1) (by kernel_rfl) fun v objs' hd=>?_
  unfold qa6 at hd;split at hd;(cases hd;exact h2);cases hd
 ·exact ho _ _ _ _ _ h
def qbN:Ctx:=mkC 51 (qI) [] qU
theorem qpw:CtxOK Tryz.prog qbN:=mkC_ok (qK)
def qbO:V->List Obj->Option (Int):=fun v objs=>match v,objs with
 | .s (.i .i64 y0),[]=>some (y0)
 | _,_=>none
theorem qpv (x0 x1:Int):fnE qbN Tryz.f88 ([.s (.i .i64 x0),.s (.i .i64 x1)]) ([]) qbO=qIA x0 x1:=by kernel_rfl
def qbM:HA:=fun o vs objs K=>match vs,objs with
 | [.s (.i .i64 x0),.s (.i .i64 x1)],[]=>ob (qIA x0 x1) fun y0=>K false (.s (.i .i64 y0)) ([])
 | _,_=>o 88 vs objs K
def qQ4 (o:Orc):Orc:=qJ 88 (qbM o) o
theorem qbP:OQ Tryz.prog qQ4:=fun _ ho=>qL ho fun vs objs K r h=>by
 unfold qbM at h
 split at h
 ·skip
  obtain⟨t,h1,h2⟩:=qE h
  refine qa mixed qpw ((qpv _ _).trans h1) (by kernel_rfl) fun v objs' hd=>?_
  unfold qbO at hd;split at hd;(cases hd;exact h2);cases hd
 ·exact ho _ _ _ _ _ h
def qbU:Ctx:=mkC 7 (qI) [] qU
theorem qp0:CtxOK Tryz.prog qbU:=mkC_ok (qK)
def qbV:V->List Obj->Option (Int):=fun v objs=>match v,objs with
 | .s (.i .i64 y0),[]=>some (y0)
 | _,_=>none
theorem qpz (x0:Int):fnE qbU Tryz.f143 ([.s (.i .i64 x0)]) ([]) qbV=qIB x0:=by kernel_rfl
def qbT:HA:=fun o vs objs K=>match vs,objs with
 | [.s (.i .i64 x0)],[]=>ob (qIB x0) fun y0=>K false (.s (.i .i64 y0)) ([])
 | _,_=>o 143 vs objs K
def qbW (o:Orc):Orc:=qJ 143 (qbT o) o
theorem qp1:OQ Tryz.prog qbW:=fun _ ho=>qL ho fun vs objs K r h=>by
 unfold qbT at h
 split at h
 ·skip
  obtain⟨t,h1,h2⟩:=qE h
  refine qa mixed qp0 ((qpz _).trans h1) (by kernel_rfl) fun v objs' hd=>?_
  unfold qbV at hd;split at hd;(cases hd;exact h2);cases hd
 ·exact ho _ _ _ _ _ h
def qQy:Ex->List V->List Obj->Option (Nat×Nat×LI):=fun e vs objs=>match e,vs,objs with
 | .exit 0,[.s (.sl 0 0 y0 true)],[.sli 3 false (.arr .i64 y1 y2)]=>some (y0,y1,y2)
 | _,_,_=>none
def qQ0:HL:=fun vs objs K=>match vs,objs with
 | [.s (.i .i64 x0),.s (.sl 0 0 x1 true),.s (.i .i64 x2),.s (.i .i64 x3)],[.sli 3 false (.arr .i64 x4 x5)]=>ob (qFb qB x0 x1 x2 x3 x4 x5) fun z=>K (.exit 0) ([.s (.sl 0 0 (z.1) true)]) ([.sli 3 false (.arr .i64 (z.2.1) (z.2.2))])
 | _,_=>none
def qpn:{R:Type}->Nat->List V->List Obj->(Ex->List V->List Obj->Option R)->Option R:=fun q vs objs K=>bif Nat.beq q 6 then qQ0 vs objs K else none
def qMC:Ctx:=mkC 41 ((qbW (qQ4 qI))) [(6,[1,5,6,7],[5])] qpn
theorem qbD:CtxOK Tryz.prog qMC:=mkC_ok ((qp1 _ (qbP _ qK)))
def qQz (f:Nat) (x0:Int) (x1:Nat) (x2 x3:Int) (x4:Nat) (x5:LI):Option (Nat×Nat×LI):=qf qMC 0 [1,5,6,7] [5] (qD Tryz.f117 6) f ([.s (.i .i64 x0),.s (.sl 0 0 x1 true),.s (.i .i64 x2),.s (.i .i64 x3)]) ([.sli 3 false (.arr .i64 x4 x5)]) qQy
theorem qpm (f:Nat) (x0:Int) (x1:Nat) (x2 x3:Int) (x4:Nat) (x5:LI):qQz (f+1) x0 x1 x2 x3 x4 x5=qH8 (qQz f) x0 x1 x2 x3 x4 x5:=by kernel_rfl
theorem qbF:∀ f,qQz f=qFb f
 | 0=>rfl
 | f+1=>by funext x0 x1 x2 x3 x4 x5;rw[qpm,qbF f];rfl
theorem qpp:qZ Tryz.prog qMC 0 (qD Tryz.f117 6):=
 qg mixed qbD (qM.of (l':=[]) (by kernel_rfl) trivial) (q:=6) (kin:=[1,5,6,7]) (kout:=[5]) (by kernel_rfl) (by kernel_rfl) fun vs objs K r h=>by
  replace h:qQ0 vs objs K=some r:=h
  unfold qQ0 at h
  split at h
  ·skip
   obtain⟨t,h1,h2⟩:=qE h
   rw[<- qbF] at h1
   refine⟨_,qQy,t,qB,h1,fun e vs' objs' hd=>?_⟩
   unfold qQy at hd;split at hd;(cases hd;exact h2);cases hd
  ·cases h
def qbE:V->List Obj->Option (Nat×Nat×LI):=fun v objs=>match v,objs with
 | .s (.sl 0 0 y0 true),[.sli 3 false (.arr .i64 y1 y2)]=>some (y0,y1,y2)
 | _,_=>none
theorem qpl (x0 x1:Int):fnE qMC Tryz.f117 ([.s (.i .i64 x0),.s (.i .i64 x1)]) ([]) qbE=qJf x0 x1:=by kernel_rfl
def qbC:HA:=fun o vs objs K=>match vs,objs with
 | [.s (.i .i64 x0),.s (.i .i64 x1)],[]=>ob (qJf x0 x1) fun z=>K false (.s (.sl 0 0 (z.1) true)) ([.sli 3 false (.arr .i64 (z.2.1) (z.2.2))])
 | _,_=>o 117 vs objs K
def qbG (o:Orc):Orc:=qJ 117 (qbC o) o
theorem qpo:OQ Tryz.prog qbG:=fun _ ho=>qL ho fun vs objs K r h=>by
 unfold qbC at h
 split at h
 ·skip
  obtain⟨t,h1,h2⟩:=qE h
  refine q7 mixed qbD (fn:=Tryz.f117) (b:=(Tryz.f117).body.getD .skip) (by kernel_rfl) (by kernel_rfl) (by kernel_rfl) ((qpl _ _).trans h1) (m:=0) rfl (qM.of (l':=[qD Tryz.f117 6]) (by kernel_rfl) ⟨qpp,trivial⟩) fun v objs' hd=>?_
  unfold qbE at hd;split at hd;(cases hd;exact h2);cases hd
 ·exact ho _ _ _ _ _ h
def qQ1:Ex->List V->List Obj->Option ((Bool)⊕(Unit)):=fun e vs objs=>match e,vs,objs with
 | .ret,[.s (.b y0)],[]=>some (.inl (y0))
 | .exit 0,[.s .bad],[]=>some (.inr ())
 | _,_,_=>none
def qQ3:HL:=fun vs objs K=>match vs,objs with
 | [.s (.ptr 0 0 none 0),.s (.sl 1 0 x0 true),.s (.i .i64 x1)],[.cells 87 [Seg.barr 81 x2],.sli 3 false (.arr .i64 x3 x4)]=>ob (qFc qB x0 x1 x2 x3 x4) fun t0=>sw t0 (fun y0=>K (.ret) ([.s (.b y0)]) ([])) (fun _=>K (.exit 0) ([.s .bad]) ([]))
 | _,_=>none
def qps:{R:Type}->Nat->List V->List Obj->(Ex->List V->List Obj->Option R)->Option R:=fun q vs objs K=>bif Nat.beq q 3 then qQ3 vs objs K else none
def qMD:Ctx:=mkC 24 ((qbG qI)) [(3,[5,7,8],[6])] qps
theorem qbI:CtxOK Tryz.prog qMD:=mkC_ok ((qpo _ qK))
def qQ2 (f:Nat) (x0:Nat) (x1:Int) (x2:List Bool) (x3:Nat) (x4:LI):Option ((Bool)⊕(Unit)):=qf qMD 0 [5,7,8] [6] (qD Tryz.f89 3) f ([.s (.ptr 0 0 none 0),.s (.sl 1 0 x0 true),.s (.i .i64 x1)]) ([.cells 87 [Seg.barr 81 x2],.sli 3 false (.arr .i64 x3 x4)]) qQ1
theorem qpr (f:Nat) (x0:Nat) (x1:Int) (x2:List Bool) (x3:Nat) (x4:LI):qQ2 (f+1) x0 x1 x2 x3 x4=qH9 (qQ2 f) x0 x1 x2 x3 x4:=by kernel_rfl
theorem qbK:∀ f,qQ2 f=qFc f
 | 0=>rfl
 | f+1=>by funext x0 x1 x2 x3 x4;rw[qpr,qbK f];rfl
theorem qpu:qZ Tryz.prog qMD 0 (qD Tryz.f89 3):=
 qg mixed qbI (qM.of (l':=[]) (by kernel_rfl) trivial) (q:=3) (kin:=[5,7,8]) (kout:=[6]) (by kernel_rfl) (by kernel_rfl) fun vs objs K r h=>by
  replace h:qQ3 vs objs K=some r:=h
  unfold qQ3 at h
  split at h
  ·skip
   obtain⟨t,h1,h2⟩:=qE h
   rw[<- qbK] at h1
   refine⟨_,qQ1,t,qB,h1,fun e vs' objs' hd=>?_⟩
   unfold qQ1 at hd
   split at hd
   ·skip
    cases hd
    exact h2
   ·skip
    cases hd
    exact h2
   ·cases hd
  ·cases h
def qbJ:V->List Obj->Option (Bool):=fun v objs=>match v,objs with
 | .s (.b y0),[]=>some (y0)
 | _,_=>none
theorem qpq (x0 x1:Int) (x2:List Bool):fnE qMD Tryz.f89 ([.s (.i .i64 x0),.s (.i .i64 x1),.agg [Seg.barr 81 x2]]) ([]) qbJ=qAr x0 x1 x2:=by kernel_rfl
def qbH:HA:=fun o vs objs K=>match vs,objs with
 | [.s (.i .i64 x0),.s (.i .i64 x1),.agg [Seg.barr 81 x2]],[]=>ob (qAr x0 x1 x2) fun y0=>K false (.s (.b y0)) ([])
 | _,_=>o 89 vs objs K
def qbL (o:Orc):Orc:=qJ 89 (qbH o) o
theorem qpt:OQ Tryz.prog qbL:=fun _ ho=>qL ho fun vs objs K r h=>by
 unfold qbH at h
 split at h
 ·skip
  obtain⟨t,h1,h2⟩:=qE h
  refine q7 mixed qbI (fn:=Tryz.f89) (b:=(Tryz.f89).body.getD .skip) (by kernel_rfl) (by kernel_rfl) (by kernel_rfl) ((qpq _ _ _).trans h1) (m:=0) rfl (qM.of (l':=[qD Tryz.f89 3]) (by kernel_rfl) ⟨qpu,trivial⟩) fun v objs' hd=>?_
  unfold qbJ at hd;split at hd;(cases hd;exact h2);cases hd
 ·exact ho _ _ _ _ _ h
def qbR:Ctx:=mkC 63 ((qbL (qDI (qFZ (qQ4 (qa7 qI)))))) [] qU
theorem qpy:CtxOK Tryz.prog qbR:=mkC_ok ((qpt _ (qDt _ (qGZ _ (qbP _ (qph _ qK))))))
def qbS:V->List Obj->Option (Bool):=fun v objs=>match v,objs with
 | .s (.b y0),[]=>some (y0)
 | _,_=>none
theorem qpx (x0 x1 x2:Int) (x3:List Bool):fnE qbR Tryz.f47 ([.s (.i .i64 x0),.s (.i .i64 x1),.s (.i .i64 x2),.agg [Seg.barr 81 x3]]) ([]) qbS=qFd x0 x1 x2 x3:=by kernel_rfl
def qbQ:HA:=fun o vs objs K=>match vs,objs with
 | [.s (.i .i64 x0),.s (.i .i64 x1),.s (.i .i64 x2),.agg [Seg.barr 81 x3]],[]=>ob (qFd x0 x1 x2 x3) fun y0=>K false (.s (.b y0)) ([])
 | _,_=>o 47 vs objs K
def qME (o:Orc):Orc:=qJ 47 (qbQ o) o
theorem qQ5:OQ Tryz.prog qME:=fun _ ho=>qL ho fun vs objs K r h=>by
 unfold qbQ at h
 split at h
 ·skip
  obtain⟨t,h1,h2⟩:=qE h
  refine qa mixed qpy ((qpx _ _ _ _).trans h1) (by kernel_rfl) fun v objs' hd=>?_
  unfold qbS at hd;split at hd;(cases hd;exact h2);cases hd
 ·exact ho _ _ _ _ _ h
end
end Go.Kk.KkLP
