/- Printed by a tool of this project (KkGen): the program's functions come to the plain ones. -/
import Derived.Test.YtpppdecfohkkfaaGreatDoorKkLNc
namespace Go.Kk.KkLN
noncomputable section
open Go.Proofs Go.Kk.Pl
set_option maxRecDepth 100000
set_option maxHeartbeats 4000000
def qbd:Ctx:=mkC 8 (qL) [] qa
theorem qoO:CtxOK Tryz.prog qbd:=mkC_ok (qN)
def qbe:V->List Obj->Option (Int):=fun v objs=>match v,objs with
 | .s (.i .i64 y0),[]=>some (y0)
 | _,_=>none
theorem qoN (x0:ByteArray) (x1:Int):fnE qbd Tryz.f155 ([.s (.str x0),.s (.i .u8 x1)]) ([]) qbe=qLu x0 x1:=by kernel_rfl
def qbc:HA:=fun o vs objs K=>match vs,objs with
 | [.s (.str x0),.s (.i .u8 x1)],[]=>ob (qLu x0 x1) fun y0=>K false (.s (.i .i64 y0)) ([])
 | _,_=>o 155 vs objs K
def qbf (o:Orc):Orc:=qM 155 (qbc o) o
theorem qoP:OQ Tryz.prog qbf:=fun _ ho=>qQ ho fun vs objs K r h=>by
 unfold qbc at h
 split at h
 ·skip
  obtain ⟨t,h1,h2⟩:=qG h
  refine qd mixed qoO ((qoN _ _).trans h1) (by kernel_rfl) fun v objs' hd=>?_
  unfold qbe at hd;split at hd;(cases hd;exact h2);cases hd
 ·exact ho _ _ _ _ _ h
def qRG:Ctx:=mkC 143 ((qbf qL)) [(15,[0,1,5,6,7,8,9,10],[4])] qa
theorem qbh:CtxOK Tryz.prog qRG:=mkC_ok ((qoP _ qN))
theorem qoS:qe Tryz.prog qRG 0 (qI Tryz.f141 15):=
 qj mixed qbh (qR.of (l':=[]) (by kernel_rfl) trivial) (q:=15) (kin:=[0,1,5,6,7,8,9,10]) (kout:=[4]) (by kernel_rfl) (by kernel_rfl) fun vs objs K r h=>by
  replace h:none=some r:=h
  cases h
def qbi:V->List Obj->Option (Int):=fun v objs=>match v,objs with
 | .s (.i .i64 y0),[]=>some (y0)
 | _,_=>none
theorem qoQ (x0 x1:ByteArray):fnE qRG Tryz.f141 ([.s (.str x0),.s (.str x1)]) ([]) qbi=qI3 x0 x1:=by kernel_rfl
def qbg:HA:=fun o vs objs K=>match vs,objs with
 | [.s (.str x0),.s (.str x1)],[]=>ob (qI3 x0 x1) fun y0=>K false (.s (.i .i64 y0)) ([])
 | _,_=>o 141 vs objs K
def qbj (o:Orc):Orc:=qM 141 (qbg o) o
theorem qoR:OQ Tryz.prog qbj:=fun _ ho=>qQ ho fun vs objs K r h=>by
 unfold qbg at h
 split at h
 ·skip
  obtain ⟨t,h1,h2⟩:=qG h
  refine qAc mixed qbh (fn:=Tryz.f141) (b:=(Tryz.f141).body.getD .skip) (by kernel_rfl) (by kernel_rfl) (by kernel_rfl) ((qoQ _ _).trans h1) (m:=0) rfl (qR.of (l':=[qI Tryz.f141 15]) (by kernel_rfl) ⟨qoS,trivial⟩) fun v objs' hd=>?_
  unfold qbi at hd;split at hd;(cases hd;exact h2);cases hd
 ·exact ho _ _ _ _ _ h
def qbH:Ctx:=mkC 8 ((qbj qL)) [] qa
theorem qn7:CtxOK Tryz.prog qbH:=mkC_ok ((qoR _ qN))
def qbI:V->List Obj->Option (Int):=fun v objs=>match v,objs with
 | .s (.i .i64 y0),[]=>some (y0)
 | _,_=>none
theorem qn6 (x0 x1:ByteArray):fnE qbH Tryz.f110 ([.s (.str x0),.s (.str x1)]) ([]) qbI=qDf x0 x1:=by kernel_rfl
def qbG:HA:=fun o vs objs K=>match vs,objs with
 | [.s (.str x0),.s (.str x1)],[]=>ob (qDf x0 x1) fun y0=>K false (.s (.i .i64 y0)) ([])
 | _,_=>o 110 vs objs K
def qQ7 (o:Orc):Orc:=qM 110 (qbG o) o
theorem qbJ:OQ Tryz.prog qQ7:=fun _ ho=>qQ ho fun vs objs K r h=>by
 unfold qbG at h
 split at h
 ·skip
  obtain ⟨t,h1,h2⟩:=qG h
  refine qd mixed qn7 ((qn6 _ _).trans h1) (by kernel_rfl) fun v objs' hd=>?_
  unfold qbI at hd;split at hd;(cases hd;exact h2);cases hd
 ·exact ho _ _ _ _ _ h
def qQ4:Ex->List V->List Obj->Option (Int):=fun e vs objs=>match e,vs,objs with
 | .ret,[.s (.i .i64 y0)],[]=>some (y0)
 | _,_,_=>none
def qQ6:HL:=fun vs objs K=>match vs,objs with
 | [.s (.str x0),.s (.str x1),.s (.i .i64 x2)],[]=>ob (qLp qD x0 x1 x2) fun y0=>K (.ret) ([.s (.i .i64 y0)]) ([])
 | _,_=>none
def qn3:{R:Type}->Nat->List V->List Obj->(Ex->List V->List Obj->Option R)->Option R:=fun q vs objs K=>bif Nat.beq q 6 then qQ6 vs objs K else none
def qLo:Ctx:=mkC 34 ((qQ7 (qRW qL))) [(6,[0,1,5],[4])] qn3
theorem qbB:CtxOK Tryz.prog qLo:=mkC_ok ((qbJ _ (qcA _ qN)))
def qQ5 (f:Nat) (x0 x1:ByteArray) (x2:Int):Option (Int):=qi qLo 0 [0,1,5] [4] (qI Tryz.f109 6) f ([.s (.str x0),.s (.str x1),.s (.i .i64 x2)]) ([]) qQ4
theorem qn2 (f:Nat) (x0 x1:ByteArray) (x2:Int):qQ5 (f+1) x0 x1 x2=qbE (qQ5 f) x0 x1 x2:=by kernel_rfl
theorem qbD:∀ f,qQ5 f=qLp f
 | 0=>rfl
 | f+1=>by funext x0 x1 x2;rw [qn2,qbD f];rfl
theorem qn5:qe Tryz.prog qLo 0 (qI Tryz.f109 6):=
 qj mixed qbB (qR.of (l':=[]) (by kernel_rfl) trivial) (q:=6) (kin:=[0,1,5]) (kout:=[4]) (by kernel_rfl) (by kernel_rfl) fun vs objs K r h=>by
  replace h:qQ6 vs objs K=some r:=h
  unfold qQ6 at h
  split at h
  ·skip
   obtain ⟨t,h1,h2⟩:=qG h
   rw [<- qbD] at h1
   refine ⟨_,qQ4,t,qD,h1,fun e vs' objs' hd=>?_⟩
   unfold qQ4 at hd;split at hd;(cases hd;exact h2);cases hd
  ·cases h
def qbC:V->List Obj->Option (Int):=fun v objs=>match v,objs with
 | .s (.i .i64 y0),[]=>some (y0)
 | _,_=>none
theorem qn1 (x0 x1:ByteArray):fnE qLo Tryz.f109 ([.s (.str x0),.s (.str x1)]) ([]) qbC=qI1 x0 x1:=by kernel_rfl
def qbA:HA:=fun o vs objs K=>match vs,objs with
 | [.s (.str x0),.s (.str x1)],[]=>ob (qI1 x0 x1) fun y0=>K false (.s (.i .i64 y0)) ([])
 | _,_=>o 109 vs objs K
def qbF (o:Orc):Orc:=qM 109 (qbA o) o
theorem qn4:OQ Tryz.prog qbF:=fun _ ho=>qQ ho fun vs objs K r h=>by
 unfold qbA at h
 split at h
 ·skip
  obtain ⟨t,h1,h2⟩:=qG h
  refine qAc mixed qbB (fn:=Tryz.f109) (b:=(Tryz.f109).body.getD .skip) (by kernel_rfl) (by kernel_rfl) (by kernel_rfl) ((qn1 _ _).trans h1) (m:=0) rfl (qR.of (l':=[qI Tryz.f109 6]) (by kernel_rfl) ⟨qn5,trivial⟩) fun v objs' hd=>?_
  unfold qbC at hd;split at hd;(cases hd;exact h2);cases hd
 ·exact ho _ _ _ _ _ h
def qRD:Ex->List V->List Obj->Option (ByteArray×Nat×Int×Nat×LL):=fun e vs objs=>match e,vs,objs with
 | .exit 0,[.s (.str y0),.s (.sl 0 0 y1 true),.s (.i .i64 y2)],[.sli 9 false (.rows [CK.s] y3 y4)]=>some (y0,y1,y2,y3,y4)
 | _,_,_=>none
def qRF:HL:=fun vs objs K=>match vs,objs with
 | [.s (.str x0),.s (.str x1),.s (.i .i64 x2),.s (.i .i64 x3),.s (.sl 0 0 x4 true),.s (.i .i64 x5)],[.sli 9 false (.rows [CK.s] x6 x7)]=>ob (qEP qD x0 x1 x2 x3 x4 x5 x6 x7) fun z=>K (.exit 0) ([.s (.str (z.1)),.s (.sl 0 0 (z.2.1) true),.s (.i .i64 (z.2.2.1))]) ([.sli 9 false (.rows [CK.s] (z.2.2.2.1) (z.2.2.2.2))])
 | _,_=>none
def qoK:{R:Type}->Nat->List V->List Obj->(Ex->List V->List Obj->Option R)->Option R:=fun q vs objs K=>bif Nat.beq q 11 then qRF vs objs K else none
def qLs:Ctx:=mkC 66 ((qQ7 (qbF (qbW qL)))) [(11,[0,1,2,3,9,10],[0,9,10])] qoK
theorem qbY:CtxOK Tryz.prog qLs:=mkC_ok ((qbJ _ (qn4 _ (qoG _ qN))))
def qRE (f:Nat) (x0 x1:ByteArray) (x2 x3:Int) (x4:Nat) (x5:Int) (x6:Nat) (x7:LL):Option (ByteArray×Nat×Int×Nat×LL):=qi qLs 0 [0,1,2,3,9,10] [0,9,10] (qI Tryz.f79 11) f ([.s (.str x0),.s (.str x1),.s (.i .i64 x2),.s (.i .i64 x3),.s (.sl 0 0 x4 true),.s (.i .i64 x5)]) ([.sli 9 false (.rows [CK.s] x6 x7)]) qRD
theorem qoJ (f:Nat) (x0 x1:ByteArray) (x2 x3:Int) (x4:Nat) (x5:Int) (x6:Nat) (x7:LL):qRE (f+1) x0 x1 x2 x3 x4 x5 x6 x7=qLt (qRE f) x0 x1 x2 x3 x4 x5 x6 x7:=by kernel_rfl
theorem qba:∀ f,qRE f=qEP f
 | 0=>rfl
 | f+1=>by funext x0 x1 x2 x3 x4 x5 x6 x7;rw [qoJ,qba f];rfl
theorem qoM:qe Tryz.prog qLs 0 (qI Tryz.f79 11):=
 qj mixed qbY (qR.of (l':=[]) (by kernel_rfl) trivial) (q:=11) (kin:=[0,1,2,3,9,10]) (kout:=[0,9,10]) (by kernel_rfl) (by kernel_rfl) fun vs objs K r h=>by
  replace h:qRF vs objs K=some r:=h
  unfold qRF at h
  split at h
  ·skip
   obtain ⟨t,h1,h2⟩:=qG h
   rw [<- qba] at h1
   refine ⟨_,qRD,t,qD,h1,fun e vs' objs' hd=>?_⟩
   unfold qRD at hd;split at hd;(cases hd;exact h2);cases hd
  ·cases h
def qbZ:V->List Obj->Option (Nat×Nat×LL):=fun v objs=>match v,objs with
 | .s (.sl 0 0 y0 true),[.sli 9 false (.rows [CK.s] y1 y2)]=>some (y0,y1,y2)
 | _,_=>none
theorem qoI (x0 x1:ByteArray) (x2 x3:Int):fnE qLs Tryz.f79 ([.s (.str x0),.s (.str x1),.s (.i .i64 x2),.s (.i .i64 x3)]) ([]) qbZ=qLr x0 x1 x2 x3:=by kernel_rfl
def qbX:HA:=fun o vs objs K=>match vs,objs with
 | [.s (.str x0),.s (.str x1),.s (.i .i64 x2),.s (.i .i64 x3)],[]=>ob (qLr x0 x1 x2 x3) fun z=>K false (.s (.sl 0 0 (z.1) true)) ([.sli 9 false (.rows [CK.s] (z.2.1) (z.2.2))])
 | _,_=>o 79 vs objs K
def qbb (o:Orc):Orc:=qM 79 (qbX o) o
theorem qoL:OQ Tryz.prog qbb:=fun _ ho=>qQ ho fun vs objs K r h=>by
 unfold qbX at h
 split at h
 ·skip
  obtain ⟨t,h1,h2⟩:=qG h
  refine qAc mixed qbY (fn:=Tryz.f79) (b:=(Tryz.f79).body.getD .skip) (by kernel_rfl) (by kernel_rfl) (by kernel_rfl) ((qoI _ _ _ _).trans h1) (m:=0) rfl (qR.of (l':=[qI Tryz.f79 11]) (by kernel_rfl) ⟨qoM,trivial⟩) fun v objs' hd=>?_
  unfold qbZ at hd;split at hd;(cases hd;exact h2);cases hd
 ·exact ho _ _ _ _ _ h
def qbO:Ctx:=mkC 8 ((qbb qL)) [] qa
theorem qoB:CtxOK Tryz.prog qbO:=mkC_ok ((qoL _ qN))
def qbP:V->List Obj->Option (Nat×Nat×LL):=fun v objs=>match v,objs with
 | .s (.sl 0 0 y0 true),[.sli 9 false (.rows [CK.s] y1 y2)]=>some (y0,y1,y2)
 | _,_=>none
theorem qoA (x0 x1:ByteArray):fnE qbO Tryz.f36 ([.s (.str x0),.s (.str x1)]) ([]) qbP=qI2 x0 x1:=by kernel_rfl
def qbN:HA:=fun o vs objs K=>match vs,objs with
 | [.s (.str x0),.s (.str x1)],[]=>ob (qI2 x0 x1) fun z=>K false (.s (.sl 0 0 (z.1) true)) ([.sli 9 false (.rows [CK.s] (z.2.1) (z.2.2))])
 | _,_=>o 36 vs objs K
def qbQ (o:Orc):Orc:=qM 36 (qbN o) o
theorem qoC:OQ Tryz.prog qbQ:=fun _ ho=>qQ ho fun vs objs K r h=>by
 unfold qbN at h
 split at h
 ·skip
  obtain ⟨t,h1,h2⟩:=qG h
  refine qd mixed qoB ((qoA _ _).trans h1) (by kernel_rfl) fun v objs' hd=>?_
  unfold qbP at hd;split at hd;(cases hd;exact h2);cases hd
 ·exact ho _ _ _ _ _ h
def qPZ:Ex->List V->List Obj->Option ((Int)⊕(Unit)):=fun e vs objs=>match e,vs,objs with
 | .ret,[.s (.i .i8 y0)],[]=>some (.inl (y0))
 | .exit 0,[.s .bad],[]=>some (.inr ())
 | _,_,_=>none
def qPb:HL:=fun vs objs K=>match vs,objs with
 | [.s (.i .i32 x0),.s (.b x1),.s (.i .i64 x2),.s (S.it 0)],[Obj.iter x3 x4]=>ob (qDT qD x0 x1 x2 x3 x4) fun t0=>sw t0 (fun y0=>K (.ret) ([.s (.i .i8 y0)]) ([])) (fun _=>K (.exit 0) ([.s .bad]) ([]))
 | _,_=>none
def qka:{R:Type}->Nat->List V->List Obj->(Ex->List V->List Obj->Option R)->Option R:=fun q vs objs K=>bif Nat.beq q 6 then qPb vs objs K else none
def qKv:Ctx:=mkC 34 ((qDS (qIb qL))) [(6,[0,1,5,16],[4])] qka
theorem qXw:CtxOK Tryz.prog qKv:=mkC_ok ((qD4 _ (qKy _ qN)))
def qPa (f:Nat) (x0:Int) (x1:Bool) (x2:Int) (x3:ByteArray) (x4:Nat):Option ((Int)⊕(Unit)):=qi qKv 0 [0,1,5,16] [4] (qI Tryz.f80 6) f ([.s (.i .i32 x0),.s (.b x1),.s (.i .i64 x2),.s (S.it 0)]) ([Obj.iter x3 x4]) qPZ
theorem qkZ (f:Nat) (x0:Int) (x1:Bool) (x2:Int) (x3:ByteArray) (x4:Nat):qPa (f+1) x0 x1 x2 x3 x4=qKw (qPa f) x0 x1 x2 x3 x4:=by kernel_rfl
theorem qXy:∀ f,qPa f=qDT f
 | 0=>rfl
 | f+1=>by funext x0 x1 x2 x3 x4;rw [qkZ,qXy f];rfl
theorem qkc:qe Tryz.prog qKv 0 (qI Tryz.f80 6):=
 qj mixed qXw (qR.of (l':=[]) (by kernel_rfl) trivial) (q:=6) (kin:=[0,1,5,16]) (kout:=[4]) (by kernel_rfl) (by kernel_rfl) fun vs objs K r h=>by
  replace h:qPb vs objs K=some r:=h
  unfold qPb at h
  split at h
  ·skip
   obtain ⟨t,h1,h2⟩:=qG h
   rw [<- qXy] at h1
   refine ⟨_,qPZ,t,qD,h1,fun e vs' objs' hd=>?_⟩
   unfold qPZ at hd
   split at hd
   ·skip
    cases hd
    exact h2
   ·skip
    cases hd
    exact h2
   ·cases hd
  ·cases h
def qXx:V->List Obj->Option (Int):=fun v objs=>match v,objs with
 | .s (.i .i8 y0),[]=>some (y0)
 | _,_=>none
theorem qkY (x0:Int) (x1:Bool):fnE qKv Tryz.f80 ([.s (.i .i32 x0),.s (.b x1)]) ([]) qXx=qE0 x0 x1:=by kernel_rfl
def qXv:HA:=fun o vs objs K=>match vs,objs with
 | [.s (.i .i32 x0),.s (.b x1)],[]=>ob (qE0 x0 x1) fun y0=>K false (.s (.i .i8 y0)) ([])
 | _,_=>o 80 vs objs K
def qXz (o:Orc):Orc:=qM 80 (qXv o) o
theorem qkb:OQ Tryz.prog qXz:=fun _ ho=>qQ ho fun vs objs K r h=>by
 unfold qXv at h
 split at h
 ·skip
  obtain ⟨t,h1,h2⟩:=qG h
  refine qAc mixed qXw (fn:=Tryz.f80) (b:=(Tryz.f80).body.getD .skip) (by kernel_rfl) (by kernel_rfl) (by kernel_rfl) ((qkY _ _).trans h1) (m:=0) rfl (qR.of (l':=[qI Tryz.f80 6]) (by kernel_rfl) ⟨qkc,trivial⟩) fun v objs' hd=>?_
  unfold qXx at hd;split at hd;(cases hd;exact h2);cases hd
 ·exact ho _ _ _ _ _ h
def qXH:Ctx:=mkC 17 ((set_Squareo qL)) [] qa
theorem qi4:CtxOK Tryz.prog qXH:=mkC_ok ((set_Squareo_ok _ qN))
def qXI:V->List Obj->Option (Int×Bool):=fun v objs=>match v,objs with
 | .tup [W.s (.i .i64 y0),W.s (.b y1)],[]=>some (y0,y1)
 | _,_=>none
theorem qi3 (x0 x1:Int):fnE qXH Tryz.f81 ([.s (.i .i32 x0),.s (.i .i32 x1)]) ([]) qXI=qCt x0 x1:=by kernel_rfl
def qXG:HA:=fun o vs objs K=>match vs,objs with
 | [.s (.i .i32 x0),.s (.i .i32 x1)],[]=>ob (qCt x0 x1) fun z=>K false (.tup [W.s (.i .i64 (z.1)),W.s (.b (z.2))]) ([])
 | _,_=>o 81 vs objs K
def qXJ (o:Orc):Orc:=qM 81 (qXG o) o
theorem qi5:OQ Tryz.prog qXJ:=fun _ ho=>qQ ho fun vs objs K r h=>by
 unfold qXG at h
 split at h
 ·skip
  obtain ⟨t,h1,h2⟩:=qG h
  refine qd mixed qi4 ((qi3 _ _).trans h1) (by kernel_rfl) fun v objs' hd=>?_
  unfold qXI at hd;split at hd;(cases hd;exact h2);cases hd
 ·exact ho _ _ _ _ _ h
def qPD:Ex->List V->List Obj->Option (Nat×Int×Int×Int×Bool×Nat×LI):=fun e vs objs=>match e,vs,objs with
 | .exit 0,[.s (.ptr 0 0 none 0),.s (.sl 1 0 y0 true)],[.cells 37 [.one [.i .i64 y1,.i .i64 y2,.i .i64 y3,.b y4]],.sli 21 false (.arr .i32 y5 y6)]=>some (y0,y1,y2,y3,y4,y5,y6)
 | _,_,_=>none
def qPF:HL:=fun vs objs K=>match vs,objs with
 | [.s (.ptr 0 0 none 0),.s (.sl 1 0 x0 true),.s (S.it 2)],[.cells 37 [.one [.i .i64 x1,.i .i64 x2,.i .i64 x3,.b x4]],.sli 21 false (.arr .i32 x5 x6),Obj.iter x7 x8]=>ob (qA0 qD x0 x1 x2 x3 x4 x5 x6 x7 x8) fun z=>K (.exit 0) ([.s (.ptr 0 0 none 0),.s (.sl 1 0 (z.1) true)]) ([.cells 37 [.one [.i .i64 (z.2.1),.i .i64 (z.2.2.1),.i .i64 (z.2.2.2.1),.b (z.2.2.2.2.1)]],.sli 21 false (.arr .i32 (z.2.2.2.2.2.1) (z.2.2.2.2.2.2))])
 | _,_=>none
def qiv:{R:Type}->Nat->List V->List Obj->(Ex->List V->List Obj->Option R)->Option R:=fun q vs objs K=>bif Nat.beq q 3 then qPF vs objs K else none
def qKh:Ctx:=mkC 127 ((qDU (qXJ (qXz qL)))) [(3,[2,4,16],[2,4])] qiv
theorem qW4:CtxOK Tryz.prog qKh:=mkC_ok ((qD5 _ (qi5 _ (qkb _ qN))))
def qPE (f:Nat) (x0:Nat) (x1 x2 x3:Int) (x4:Bool) (x5:Nat) (x6:LI) (x7:ByteArray) (x8:Nat):Option (Nat×Int×Int×Int×Bool×Nat×LI):=qi qKh 0 [2,4,16] [2,4] (qI Tryz.f37 3) f ([.s (.ptr 0 0 none 0),.s (.sl 1 0 x0 true),.s (S.it 2)]) ([.cells 37 [.one [.i .i64 x1,.i .i64 x2,.i .i64 x3,.b x4]],.sli 21 false (.arr .i32 x5 x6),Obj.iter x7 x8]) qPD
theorem qiu (f:Nat) (x0:Nat) (x1 x2 x3:Int) (x4:Bool) (x5:Nat) (x6:LI) (x7:ByteArray) (x8:Nat):qPE (f+1) x0 x1 x2 x3 x4 x5 x6 x7 x8=qCD (qPE f) x0 x1 x2 x3 x4 x5 x6 x7 x8:=by kernel_rfl
theorem qW6:∀ f,qPE f=qA0 f
 | 0=>rfl
 | f+1=>by funext x0 x1 x2 x3 x4 x5 x6 x7 x8;rw [qiu,qW6 f];rfl
theorem qix:qe Tryz.prog qKh 0 (qI Tryz.f37 3):=
 qj mixed qW4 (qR.of (l':=[]) (by kernel_rfl) trivial) (q:=3) (kin:=[2,4,16]) (kout:=[2,4]) (by kernel_rfl) (by kernel_rfl) fun vs objs K r h=>by
  replace h:qPF vs objs K=some r:=h
  unfold qPF at h
  split at h
  ·skip
   obtain ⟨t,h1,h2⟩:=qG h
   rw [<- qW6] at h1
   refine ⟨_,qPD,t,qD,h1,fun e vs' objs' hd=>?_⟩
   unfold qPD at hd;split at hd;(cases hd;exact h2);cases hd
  ·cases h
def qW5:V->List Obj->Option (Int×Int×Int×Bool×Int):=fun v objs=>match v,objs with
 | .tup [W.agg [.one [.i .i64 y0,.i .i64 y1,.i .i64 y2,.b y3]],W.s (.i .i64 y4)],[]=>some (y0,y1,y2,y3,y4)
 | _,_=>none
theorem qit (x0:ByteArray):fnE qKh Tryz.f37 ([.s (.str x0)]) ([]) qW5=qDR x0:=by kernel_rfl
def qW3:HA:=fun o vs objs K=>match vs,objs with
 | [.s (.str x0)],[]=>ob (qDR x0) fun z=>K false (.tup [W.agg [.one [.i .i64 (z.1),.i .i64 (z.2.1),.i .i64 (z.2.2.1),.b (z.2.2.2.1)]],W.s (.i .i64 (z.2.2.2.2))]) ([])
 | _,_=>o 37 vs objs K
def qW7 (o:Orc):Orc:=qM 37 (qW3 o) o
theorem qiw:OQ Tryz.prog qW7:=fun _ ho=>qQ ho fun vs objs K r h=>by
 unfold qW3 at h
 split at h
 ·skip
  obtain ⟨t,h1,h2⟩:=qG h
  refine qAc mixed qW4 (fn:=Tryz.f37) (b:=(Tryz.f37).body.getD .skip) (by kernel_rfl) (by kernel_rfl) (by kernel_rfl) ((qit _).trans h1) (m:=0) rfl (qR.of (l':=[qI Tryz.f37 3]) (by kernel_rfl) ⟨qix,trivial⟩) fun v objs' hd=>?_
  unfold qW5 at hd;split at hd;(cases hd;exact h2);cases hd
 ·exact ho _ _ _ _ _ h
def qOo:Ex->List V->List Obj->Option ((Nat×Int×Int×Nat×Nat×LL×Nat×LL)⊕(Nat×Nat×LL)):=fun e vs objs=>match e,vs,objs with
 | .ret,[.s (.sl 0 0 y0 true),.s (.i .i64 y1),.s (.i .i64 y2),.s (.sl 1 0 y3 true)],[.sli 37 false (.rows [.i .i64,.i .i64,.i .i64,.b] y4 y5),.sli 37 false (.rows [.i .i64,.i .i64,.i .i64,.b] y6 y7)]=>some (.inl (y0,y1,y2,y3,y4,y5,y6,y7))
 | .exit 0,[.s .bad,.s .bad,.s .bad,.s (.sl 0 0 y0 true)],[.sli 37 false (.rows [.i .i64,.i .i64,.i .i64,.b] y1 y2)]=>some (.inr (y0,y1,y2))
 | _,_,_=>none
def qOr:HL:=fun vs objs K=>match vs,objs with
 | [.s (.sl 0 0 x0 true),.s (.sl 1 0 x1 true),.s (.i .i64 x2),.s (.i .i64 x3)],[.sli 37 false (.rows [.i .i64,.i .i64,.i .i64,.b] x4 x5),.sli 9 false (.rows [CK.s] x6 x7)]=>ob (qDy qD x0 x1 x2 x3 x4 x5 x6 x7) fun t0=>sw t0 (fun z=>K (.ret) ([.s (.sl 0 0 (z.1) true),.s (.i .i64 (z.2.1)),.s (.i .i64 (z.2.2.1)),.s (.sl 1 0 (z.2.2.2.1) true)]) ([.sli 37 false (.rows [.i .i64,.i .i64,.i .i64,.b] (z.2.2.2.2.1) (z.2.2.2.2.2.1)),.sli 37 false (.rows [.i .i64,.i .i64,.i .i64,.b] (z.2.2.2.2.2.2.1) (z.2.2.2.2.2.2.2))])) (fun z=>K (.exit 0) ([.s .bad,.s .bad,.s .bad,.s (.sl 0 0 (z.1) true)]) ([.sli 37 false (.rows [.i .i64,.i .i64,.i .i64,.b] (z.2.1) (z.2.2))]))
 | _,_=>none
def qiE:{R:Type}->Nat->List V->List Obj->(Ex->List V->List Obj->Option R)->Option R:=fun q vs objs K=>bif Nat.beq q 5 then qOr vs objs K else none
def qKR:Ctx:=mkC 37 ((qW7 (qbQ qL))) [(5,[5,13,14,15],[2,3,4,5])] qiE
theorem qWJ:CtxOK Tryz.prog qKR:=mkC_ok ((qiw _ (qoC _ qN)))
def qOp (f:Nat) (x0 x1:Nat) (x2 x3:Int) (x4:Nat) (x5:LL) (x6:Nat) (x7:LL):Option ((Nat×Int×Int×Nat×Nat×LL×Nat×LL)⊕(Nat×Nat×LL)):=qi qKR 0 [5,13,14,15] [2,3,4,5] (qI Tryz.f15 5) f ([.s (.sl 0 0 x0 true),.s (.sl 1 0 x1 true),.s (.i .i64 x2),.s (.i .i64 x3)]) ([.sli 37 false (.rows [.i .i64,.i .i64,.i .i64,.b] x4 x5),.sli 9 false (.rows [CK.s] x6 x7)]) qOo
theorem qiD (f:Nat) (x0 x1:Nat) (x2 x3:Int) (x4:Nat) (x5:LL) (x6:Nat) (x7:LL):qOp (f+1) x0 x1 x2 x3 x4 x5 x6 x7=qKS (qOp f) x0 x1 x2 x3 x4 x5 x6 x7:=by kernel_rfl
theorem qWL:∀ f,qOp f=qDy f
 | 0=>rfl
 | f+1=>by funext x0 x1 x2 x3 x4 x5 x6 x7;rw [qiD,qWL f];rfl
theorem qiF:qe Tryz.prog qKR 0 (qI Tryz.f15 5):=
 qj mixed qWJ (qR.of (l':=[]) (by kernel_rfl) trivial) (q:=5) (kin:=[5,13,14,15]) (kout:=[2,3,4,5]) (by kernel_rfl) (by kernel_rfl) fun vs objs K r h=>by
  replace h:qOr vs objs K=some r:=h
  unfold qOr at h
  split at h
  ·skip
   obtain ⟨t,h1,h2⟩:=qG h
   rw [<- qWL] at h1
   refine ⟨_,qOo,t,qD,h1,fun e vs' objs' hd=>?_⟩
   unfold qOo at hd
   split at hd
   ·skip
    cases hd
    exact h2
   ·skip
    cases hd
    exact h2
   ·cases hd
  ·cases h
def qWK:V->List Obj->Option (Nat×Int×Int×Nat×LL):=fun v objs=>match v,objs with
 | .tup [W.s (.sl 0 0 y0 true),W.s (.i .i64 y1),W.s (.i .i64 y2)],[.sli 37 false (.rows [.i .i64,.i .i64,.i .i64,.b] y3 y4)]=>some (y0,y1,y2,y3,y4)
 | _,_=>none
theorem qiC (x0:ByteArray):fnE qKR Tryz.f15 ([.s (.str x0)]) ([]) qWK=qCY x0:=by kernel_rfl
def qWI:HA:=fun o vs objs K=>match vs,objs with
 | [.s (.str x0)],[]=>ob (qCY x0) fun z=>K false (.tup [W.s (.sl 0 0 (z.1) true),W.s (.i .i64 (z.2.1)),W.s (.i .i64 (z.2.2.1))]) ([.sli 37 false (.rows [.i .i64,.i .i64,.i .i64,.b] (z.2.2.2.1) (z.2.2.2.2))])
 | _,_=>o 15 vs objs K
def qOq (o:Orc):Orc:=qM 15 (qWI o) o
theorem qWM:OQ Tryz.prog qOq:=fun _ ho=>qQ ho fun vs objs K r h=>by
 unfold qWI at h
 split at h
 ·skip
  obtain ⟨t,h1,h2⟩:=qG h
  refine qAc mixed qWJ (fn:=Tryz.f15) (b:=(Tryz.f15).body.getD .skip) (by kernel_rfl) (by kernel_rfl) (by kernel_rfl) ((qiC _).trans h1) (m:=0) rfl (qR.of (l':=[qI Tryz.f15 5]) (by kernel_rfl) ⟨qiF,trivial⟩) fun v objs' hd=>?_
  unfold qWK at hd;split at hd;(cases hd;exact h2);cases hd
 ·exact ho _ _ _ _ _ h
def qXp:Ctx:=mkC 25 ((qDU (qKx (qCa qL)))) [] qa
theorem qkU:CtxOK Tryz.prog qXp:=mkC_ok ((qD5 _ (qPc _ (qCv _ qN))))
def qXq:V->List Obj->Option (ByteArray):=fun v objs=>match v,objs with
 | .s (.str y0),[]=>some (y0)
 | _,_=>none
theorem qkT (x0:Int):fnE qXp Tryz.f74 ([.s (.i .i8 x0)]) ([]) qXq=qKu x0:=by kernel_rfl
def qXo:HA:=fun o vs objs K=>match vs,objs with
 | [.s (.i .i8 x0)],[]=>ob (qKu x0) fun y0=>K false (.s (.str y0)) ([])
 | _,_=>o 74 vs objs K
def qXr (o:Orc):Orc:=qM 74 (qXo o) o
theorem qkV:OQ Tryz.prog qXr:=fun _ ho=>qQ ho fun vs objs K r h=>by
 unfold qXo at h
 split at h
 ·skip
  obtain ⟨t,h1,h2⟩:=qG h
  refine qd mixed qkU ((qkT _).trans h1) (by kernel_rfl) fun v objs' hd=>?_
  unfold qXq at hd;split at hd;(cases hd;exact h2);cases hd
 ·exact ho _ _ _ _ _ h
def qW9:Ctx:=mkC 19 ((qLX (qLR qL))) [] qa
theorem qiz:CtxOK Tryz.prog qW9:=mkC_ok ((qQa _ (qQQ _ qN)))
def qXA:V->List Obj->Option (ByteArray):=fun v objs=>match v,objs with
 | .s (.str y0),[]=>some (y0)
 | _,_=>none
theorem qiy (x0:Int):fnE qW9 Tryz.f75 ([.s (.i .i64 x0)]) ([]) qXA=qEx x0:=by kernel_rfl
def qW8:HA:=fun o vs objs K=>match vs,objs with
 | [.s (.i .i64 x0)],[]=>ob (qEx x0) fun y0=>K false (.s (.str y0)) ([])
 | _,_=>o 75 vs objs K
def qXB (o:Orc):Orc:=qM 75 (qW8 o) o
theorem qi0:OQ Tryz.prog qXB:=fun _ ho=>qQ ho fun vs objs K r h=>by
 unfold qW8 at h
 split at h
 ·skip
  obtain ⟨t,h1,h2⟩:=qG h
  refine qd mixed qiz ((qiy _).trans h1) (by kernel_rfl) fun v objs' hd=>?_
  unfold qXA at hd;split at hd;(cases hd;exact h2);cases hd
 ·exact ho _ _ _ _ _ h
def qXD:Ctx:=mkC 38 ((qXB (qXr (qDS (qPC qL))))) [] qa
theorem qi2:CtxOK Tryz.prog qXD:=mkC_ok ((qi0 _ (qkV _ (qD4 _ (qW2 _ qN)))))
def qXE:V->List Obj->Option (ByteArray):=fun v objs=>match v,objs with
 | .s (.str y0),[]=>some (y0)
 | _,_=>none
theorem qi1 (x0 x1 x2:Int) (x3:Bool):fnE qXD Tryz.f34 ([.agg [.one [.i .i64 x0,.i .i64 x1,.i .i64 x2,.b x3]]]) ([]) qXE=qCs x0 x1 x2 x3:=by kernel_rfl
def qXC:HA:=fun o vs objs K=>match vs,objs with
 | [.agg [.one [.i .i64 x0,.i .i64 x1,.i .i64 x2,.b x3]]],[]=>ob (qCs x0 x1 x2 x3) fun y0=>K false (.s (.str y0)) ([])
 | _,_=>o 34 vs objs K
def qPG (o:Orc):Orc:=qM 34 (qXC o) o
theorem qXF:OQ Tryz.prog qPG:=fun _ ho=>qQ ho fun vs objs K r h=>by
 unfold qXC at h
 split at h
 ·skip
  obtain ⟨t,h1,h2⟩:=qG h
  refine qd mixed qi2 ((qi1 _ _ _ _).trans h1) (by kernel_rfl) fun v objs' hd=>?_
  unfold qXE at hd;split at hd;(cases hd;exact h2);cases hd
 ·exact ho _ _ _ _ _ h
def qn9:Ctx:=mkC 75 (qL) [] qa
theorem qpJ:CtxOK Tryz.prog qn9:=mkC_ok (qN)
def qbL:V->List Obj->Option (ByteArray):=fun v objs=>match v,objs with
 | .s (.str y0),[]=>some (y0)
 | _,_=>none
theorem qn8 (x0:Nat) (x1:ByteArray) (x2:Nat) (x3:LL):qI8 35 ([.s (.sl 0 0 x0 true),.s (.str x1)]) ([.sli 9 true (.rows [CK.s] x2 x3)]) (qAE 1 qbL)=strings_Join x0 x1 x2 x3:=by kernel_rfl
def qbK:HA:=fun o vs objs K=>match vs,List.map Obj.toRO objs with
 | [.s (.sl 0 0 x0 true),.s (.str x1)],[.sli 9 true (.rows [CK.s] x2 x3)]=>ob (strings_Join x0 x1 x2 x3) fun y0=>K true (.s (.str y0)) ([])
 | _,_=>o 35 vs objs K
def qQ8 (o:Orc):Orc:=qM 35 (qbK o) o
theorem qbM:OQ Tryz.prog qQ8:=fun _ ho=>qQ ho fun vs objs K r h=>by
 unfold qbK at h
 split at h
 ·skip
  have hq:List.map Obj.toRO objs=_:=(by rename_i hq;first | exact hq | assumption)
  obtain ⟨t,h1,h2⟩:=qG h
  refine qok told_ok (f:=35) (by rfl) (m:=1) hq (by kernel_rfl) (by kernel_rfl) ((qn8 _ _ _ _).trans h1) fun v objs' hd=>?_
  unfold qbL at hd;split at hd;(cases hd;exact h2);cases hd
 ·exact ho _ _ _ _ _ h
def qOz:Ex->List V->List Obj->Option (Nat×Nat×LL×Nat×LL):=fun e vs objs=>match e,vs,objs with
 | .exit 0,[.s (.sl 1 0 y0 true)],[.sli 37 true (.rows [.i .i64,.i .i64,.i .i64,.b] y1 y2),.sli 9 false (.rows [CK.s] y3 y4)]=>some (y0,y1,y2,y3,y4)
 | _,_,_=>none
def qO2:HL:=fun vs objs K=>match vs,objs with
 | [.s (.sl 1 0 x0 true),.s (.sl 0 0 x1 true),.s (.i .i64 x2),.s (.i .i64 x3)],[.sli 37 true (.rows [.i .i64,.i .i64,.i .i64,.b] x4 x5),.sli 9 false (.rows [CK.s] x6 x7)]=>ob (qFf qD x0 x1 x2 x3 x4 x5 x6 x7) fun z=>K (.exit 0) ([.s (.sl 1 0 (z.1) true)]) ([.sli 37 true (.rows [.i .i64,.i .i64,.i .i64,.b] (z.2.1) (z.2.2.1)),.sli 9 false (.rows [CK.s] (z.2.2.2.1) (z.2.2.2.2))])
 | _,_=>none
def qiS:{R:Type}->Nat->List V->List Obj->(Ex->List V->List Obj->Option R)->Option R:=fun q vs objs K=>bif Nat.beq q 3 then qO2 vs objs K else none
def qKX:Ctx:=mkC 20 ((qQ8 (qPG qL))) [(3,[3,6,7,8],[3])] qiS
theorem qWZ:CtxOK Tryz.prog qKX:=mkC_ok ((qbM _ (qXF _ qN)))
def qO0 (f:Nat) (x0 x1:Nat) (x2 x3:Int) (x4:Nat) (x5:LL) (x6:Nat) (x7:LL):Option (Nat×Nat×LL×Nat×LL):=qi qKX 1 [3,6,7,8] [3] (qI Tryz.f14 3) f ([.s (.sl 1 0 x0 true),.s (.sl 0 0 x1 true),.s (.i .i64 x2),.s (.i .i64 x3)]) ([.sli 37 true (.rows [.i .i64,.i .i64,.i .i64,.b] x4 x5),.sli 9 false (.rows [CK.s] x6 x7)]) qOz
theorem qiR (f:Nat) (x0 x1:Nat) (x2 x3:Int) (x4:Nat) (x5:LL) (x6:Nat) (x7:LL):qO0 (f+1) x0 x1 x2 x3 x4 x5 x6 x7=qKY (qO0 f) x0 x1 x2 x3 x4 x5 x6 x7:=by kernel_rfl
theorem qWb:∀ f,qO0 f=qFf f
 | 0=>rfl
 | f+1=>by funext x0 x1 x2 x3 x4 x5 x6 x7;rw [qiR,qWb f];rfl
theorem qiT:qe Tryz.prog qKX 1 (qI Tryz.f14 3):=
 qj mixed qWZ (qR.of (l':=[]) (by kernel_rfl) trivial) (q:=3) (kin:=[3,6,7,8]) (kout:=[3]) (by kernel_rfl) (by kernel_rfl) fun vs objs K r h=>by
  replace h:qO2 vs objs K=some r:=h
  unfold qO2 at h
  split at h
  ·skip
   obtain ⟨t,h1,h2⟩:=qG h
   rw [<- qWb] at h1
   refine ⟨_,qOz,t,qD,h1,fun e vs' objs' hd=>?_⟩
   unfold qOz at hd;split at hd;(cases hd;exact h2);cases hd
  ·cases h
def qWa:V->List Obj->Option (ByteArray):=fun v objs=>match v,objs with
 | .s (.str y0),[]=>some (y0)
 | _,_=>none
theorem qiL (x0 x1:Nat) (x2:LL):fnE qKX Tryz.f14 ([.s (.sl 0 0 x0 true)]) ([.sli 37 true (.rows [.i .i64,.i .i64,.i .i64,.b] x1 x2)]) (qAE 1 qWa)=qDz x0 x1 x2:=by kernel_rfl
def qWY:HA:=fun o vs objs K=>match vs,List.map Obj.toRO objs with
 | [.s (.sl 0 0 x0 true)],[.sli 37 true (.rows [.i .i64,.i .i64,.i .i64,.b] x1 x2)]=>ob (qDz x0 x1 x2) fun y0=>K true (.s (.str y0)) ([])
 | _,_=>o 14 vs objs K
def qO1 (o:Orc):Orc:=qM 14 (qWY o) o
theorem qWc:OQ Tryz.prog qO1:=fun _ ho=>qQ ho fun vs objs K r h=>by
 unfold qWY at h
 split at h
 ·skip
  have hq:List.map Obj.toRO objs=_:=(by rename_i hq;first | exact hq | assumption)
  obtain ⟨t,h1,h2⟩:=qG h
  refine qAU mixed qWZ (m:=1) (fn:=Tryz.f14) (b:=(Tryz.f14).body.getD .skip) (by kernel_rfl) (by kernel_rfl) (by kernel_rfl) hq (by kernel_rfl) (by kernel_rfl) (qR.of (l':=[qI Tryz.f14 3]) (by kernel_rfl) ⟨qiT,trivial⟩) ((qiL _ _ _).trans h1) fun v objs' hd=>?_
  unfold qWa at hd;split at hd;(cases hd;exact h2);cases hd
 ·exact ho _ _ _ _ _ h
def qVj:Ctx:=mkC 46 ((qO1 (qOq (qWS (qS4 qL))))) [] qa
theorem qVk:CtxOK Tryz.prog qVj:=mkC_ok ((qWc _ (qWM _ (qiJ _ (qeE _ qN)))))
def qOU:V->List Obj->Option (Bool):=fun v objs=>match v,objs with
 | .s (.b y0),[]=>some (y0)
 | _,_=>none
theorem qVh:fnE qVj Tryz.f8 ([]) ([]) qOU=qIP  := by kernel_rfl
def qVi:HA:=fun o vs objs K=>match vs,objs with
 | [],[]=>ob (qIP ) fun y0=>K false (.s (.b y0)) ([])
 | _,_=>o 8 vs objs K
def qVl (o:Orc):Orc:=qM 8 (qVi o) o
theorem qpI {vs:List V} {objs:List Obj} {R:Type} {K:Bool->V->List Obj->Option R} {r:R} (hv:vs=[]) (ho:objs=[]) (h:ob (qIP ) (fun y0=>K false (.s (.b y0)) ([]))=some r):
  ∃ p v objs',K p v objs'=some r /\ qC6 Tryz.prog 8 vs objs p v objs':=by
 subst hv
 subst ho
 obtain ⟨t,h1,h2⟩:=qG h
 refine qd mixed qVk ((qVh).trans h1) (by kernel_rfl) fun v objs' hd=>?_
 unfold qOU at hd;split at hd;(cases hd;exact h2);cases hd
theorem qhf:OQ Tryz.prog qVl:=fun _ ho=>qQ ho fun vs objs K r h=>by
 unfold qVi at h
 split at h
 ·skip
  obtain ⟨t,h1,h2⟩:=qG h
  refine qd mixed qVk ((qVh).trans h1) (by kernel_rfl) fun v objs' hd=>?_
  unfold qOU at hd;split at hd;(cases hd;exact h2);cases hd
 ·exact ho _ _ _ _ _ h
end
end Go.Kk.KkLN
