/- Printed by a tool of this project (KkGen): the program's functions come to the plain ones. -/
import Derived.Test.YtpppdecfohkkfaaGreatDoorKkLNd
namespace Go.Kk.KkLN
noncomputable section
open Go.Proofs Go.Kk.Pl
set_option maxRecDepth 100000
set_option maxHeartbeats 4000000
def qRM:Ex->List V->List Obj->Option (Nat×Nat×LI):=fun e vs objs=>match e,vs,objs with
 | .exit 0,[.s (.sl 0 0 y0 true)],[.sli 3 false (.arr .i64 y1 y2)]=>some (y0,y1,y2)
 | _,_,_=>none
def qRO:HL:=fun vs objs K=>match vs,objs with
 | [.s (.i .i64 x0),.s (.sl 0 0 x1 true),.s (.i .i64 x2),.s (.i .i64 x3)],[.sli 3 false (.arr .i64 x4 x5)]=>ob (qFj qB x0 x1 x2 x3 x4 x5) fun z=>K (.exit 0) ([.s (.sl 0 0 (z.1) true)]) ([.sli 3 false (.arr .i64 (z.2.1) (z.2.2))])
 | _,_=>none
def qqh:{R:Type}->Nat->List V->List Obj->(Ex->List V->List Obj->Option R)->Option R:=fun q vs objs K=>bif Nat.beq q 6 then qRO vs objs K else none
def qMU:Ctx:=mkC 41 ((qcE (qRS qI))) [(6,[1,5,6,7],[5])] qqh
theorem qbv:CtxOK Tryz.prog qMU:=mkC_ok ((qqv _ (qb7 _ qL)))
def qRN (f:Nat) (x0:Int) (x1:Nat) (x2 x3:Int) (x4:Nat) (x5:LI):Option (Nat×Nat×LI):=qf qMU 0 [1,5,6,7] [5] (qE Tryz.f117 6) f ([.s (.i .i64 x0),.s (.sl 0 0 x1 true),.s (.i .i64 x2),.s (.i .i64 x3)]) ([.sli 3 false (.arr .i64 x4 x5)]) qRM
theorem qqg (f:Nat) (x0:Int) (x1:Nat) (x2 x3:Int) (x4:Nat) (x5:LI):qRN (f+1) x0 x1 x2 x3 x4 x5=qIA (qRN f) x0 x1 x2 x3 x4 x5:=by kernel_rfl
theorem qbx:∀ f,qRN f=qFj f
 | 0=>rfl
 | f+1=>by funext x0 x1 x2 x3 x4 x5;rw[qqg,qbx f];rfl
theorem qqj:qY Tryz.prog qMU 0 (qE Tryz.f117 6):=
 qg mixed qbv (qN.of (l':=[]) (by kernel_rfl) trivial) (q:=6) (kin:=[1,5,6,7]) (kout:=[5]) (by kernel_rfl) (by kernel_rfl) fun vs objs K r h=>by
  replace h:qRO vs objs K=some r:=h
  unfold qRO at h
  split at h
  ·skip
   obtain⟨t,h1,h2⟩:=qD h
   rw[<- qbx] at h1
   refine⟨_,qRM,t,qB,h1,fun e vs' objs' hd=>?_⟩
   unfold qRM at hd;split at hd;(cases hd;exact h2);cases hd
  ·cases h
def qbw:V->List Obj->Option (Nat×Nat×LI):=fun v objs=>match v,objs with
 | .s (.sl 0 0 y0 true),[.sli 3 false (.arr .i64 y1 y2)]=>some (y0,y1,y2)
 | _,_=>none
theorem qqf (x0 x1:Int):fnE qMU Tryz.f117 ([.s (.i .i64 x0),.s (.i .i64 x1)]) ([]) qbw=qJl x0 x1:=by kernel_rfl
def qbu:HA:=fun o vs objs K=>match vs,objs with
 | [.s (.i .i64 x0),.s (.i .i64 x1)],[]=>ob (qJl x0 x1) fun z=>K false (.s (.sl 0 0 (z.1) true)) ([.sli 3 false (.arr .i64 (z.2.1) (z.2.2))])
 | _,_=>o 117 vs objs K
def qby (o:Orc):Orc:=qK 117 (qbu o) o
theorem qqi:OQ Tryz.prog qby:=fun _ ho=>qM ho fun vs objs K r h=>by
 unfold qbu at h
 split at h
 ·skip
  obtain⟨t,h1,h2⟩:=qD h
  refine q7 mixed qbv (fn:=Tryz.f117) (b:=(Tryz.f117).body.getD .skip) (by kernel_rfl) (by kernel_rfl) (by kernel_rfl) ((qqf _ _).trans h1) (m:=0) rfl (qN.of (l':=[qE Tryz.f117 6]) (by kernel_rfl) ⟨qqj,trivial⟩) fun v objs' hd=>?_
  unfold qbw at hd;split at hd;(cases hd;exact h2);cases hd
 ·exact ho _ _ _ _ _ h
def qRP:Ex->List V->List Obj->Option ((Bool)⊕(Unit)):=fun e vs objs=>match e,vs,objs with
 | .ret,[.s (.b y0)],[]=>some (.inl (y0))
 | .exit 0,[.s .bad],[]=>some (.inr ())
 | _,_,_=>none
def qRR:HL:=fun vs objs K=>match vs,objs with
 | [.s (.ptr 0 0 none 0),.s (.sl 1 0 x0 true),.s (.i .i64 x1)],[.cells 87 [Seg.barr 81 x2],.sli 3 false (.arr .i64 x3 x4)]=>ob (qFk qB x0 x1 x2 x3 x4) fun t0=>sw t0 (fun y0=>K (.ret) ([.s (.b y0)]) ([])) (fun _=>K (.exit 0) ([.s .bad]) ([]))
 | _,_=>none
def qqm:{R:Type}->Nat->List V->List Obj->(Ex->List V->List Obj->Option R)->Option R:=fun q vs objs K=>bif Nat.beq q 3 then qRR vs objs K else none
def qMV:Ctx:=mkC 24 ((qby qI)) [(3,[5,7,8],[6])] qqm
theorem qb0:CtxOK Tryz.prog qMV:=mkC_ok ((qqi _ qL))
def qRQ (f:Nat) (x0:Nat) (x1:Int) (x2:List Bool) (x3:Nat) (x4:LI):Option ((Bool)⊕(Unit)):=qf qMV 0 [5,7,8] [6] (qE Tryz.f89 3) f ([.s (.ptr 0 0 none 0),.s (.sl 1 0 x0 true),.s (.i .i64 x1)]) ([.cells 87 [Seg.barr 81 x2],.sli 3 false (.arr .i64 x3 x4)]) qRP
theorem qql (f:Nat) (x0:Nat) (x1:Int) (x2:List Bool) (x3:Nat) (x4:LI):qRQ (f+1) x0 x1 x2 x3 x4=qIB (qRQ f) x0 x1 x2 x3 x4:=by kernel_rfl
theorem qb2:∀ f,qRQ f=qFk f
 | 0=>rfl
 | f+1=>by funext x0 x1 x2 x3 x4;rw[qql,qb2 f];rfl
theorem qqo:qY Tryz.prog qMV 0 (qE Tryz.f89 3):=
 qg mixed qb0 (qN.of (l':=[]) (by kernel_rfl) trivial) (q:=3) (kin:=[5,7,8]) (kout:=[6]) (by kernel_rfl) (by kernel_rfl) fun vs objs K r h=>by
  replace h:qRR vs objs K=some r:=h
  unfold qRR at h
  split at h
  ·skip
   obtain⟨t,h1,h2⟩:=qD h
   rw[<- qb2] at h1
   refine⟨_,qRP,t,qB,h1,fun e vs' objs' hd=>?_⟩
   unfold qRP at hd
   split at hd
   ·skip
    cases hd
    exact h2
   ·skip
    cases hd
    exact h2
   ·cases hd
  ·cases h
def qb1:V->List Obj->Option (Bool):=fun v objs=>match v,objs with
 | .s (.b y0),[]=>some (y0)
 | _,_=>none
theorem qqk (x0 x1:Int) (x2:List Bool):fnE qMV Tryz.f89 ([.s (.i .i64 x0),.s (.i .i64 x1),.agg [Seg.barr 81 x2]]) ([]) qb1=qAs x0 x1 x2:=by kernel_rfl
def qbz:HA:=fun o vs objs K=>match vs,objs with
 | [.s (.i .i64 x0),.s (.i .i64 x1),.agg [Seg.barr 81 x2]],[]=>ob (qAs x0 x1 x2) fun y0=>K false (.s (.b y0)) ([])
 | _,_=>o 89 vs objs K
def qb3 (o:Orc):Orc:=qK 89 (qbz o) o
theorem qqn:OQ Tryz.prog qb3:=fun _ ho=>qM ho fun vs objs K r h=>by
 unfold qbz at h
 split at h
 ·skip
  obtain⟨t,h1,h2⟩:=qD h
  refine q7 mixed qb0 (fn:=Tryz.f89) (b:=(Tryz.f89).body.getD .skip) (by kernel_rfl) (by kernel_rfl) (by kernel_rfl) ((qqk _ _ _).trans h1) (m:=0) rfl (qN.of (l':=[qE Tryz.f89 3]) (by kernel_rfl) ⟨qqo,trivial⟩) fun v objs' hd=>?_
  unfold qb1 at hd;split at hd;(cases hd;exact h2);cases hd
 ·exact ho _ _ _ _ _ h
def qb9:Ctx:=mkC 63 ((qb3 (qDH (qFh (qRS (qbp qI)))))) [] qU
theorem qqs:CtxOK Tryz.prog qb9:=mkC_ok ((qqn _ (qDs _ (qGg _ (qb7 _ (qqb _ qL))))))
def qcA:V->List Obj->Option (Bool):=fun v objs=>match v,objs with
 | .s (.b y0),[]=>some (y0)
 | _,_=>none
theorem qqr (x0 x1 x2:Int) (x3:List Bool):fnE qb9 Tryz.f47 ([.s (.i .i64 x0),.s (.i .i64 x1),.s (.i .i64 x2),.agg [Seg.barr 81 x3]]) ([]) qcA=qFl x0 x1 x2 x3:=by kernel_rfl
def qb8:HA:=fun o vs objs K=>match vs,objs with
 | [.s (.i .i64 x0),.s (.i .i64 x1),.s (.i .i64 x2),.agg [Seg.barr 81 x3]],[]=>ob (qFl x0 x1 x2 x3) fun y0=>K false (.s (.b y0)) ([])
 | _,_=>o 47 vs objs K
def qMW (o:Orc):Orc:=qK 47 (qb8 o) o
theorem qRT:OQ Tryz.prog qMW:=fun _ ho=>qM ho fun vs objs K r h=>by
 unfold qb8 at h
 split at h
 ·skip
  obtain⟨t,h1,h2⟩:=qD h
  refine qX mixed qqs ((qqr _ _ _ _).trans h1) (by kernel_rfl) fun v objs' hd=>?_
  unfold qcA at hd;split at hd;(cases hd;exact h2);cases hd
 ·exact ho _ _ _ _ _ h
def qR0:Ex->List V->List Obj->Option ((Bool)⊕(Unit)):=fun e vs objs=>match e,vs,objs with
 | .ret,[.s (.b y0)],[]=>some (.inl (y0))
 | .exit 0,[.s .bad],[]=>some (.inr ())
 | _,_,_=>none
def qR2:HL:=fun vs objs K=>match vs,objs with
 | [.s (.i .i64 x0),.s (.ptr 0 0 none 0),.s (.ptr 1 0 none 0),.s (.i .i64 x1),.s (.i .i64 x2)],[.cells 28 [.arr .i8 81 x3,.arr .i8 16 x4,.one [.i .i8 x5]],.cells 87 [Seg.barr 81 x6]]=>ob (qFo qB x0 x1 x2 x3 x4 x5 x6) fun t0=>sw t0 (fun y0=>K (.ret) ([.s (.b y0)]) ([])) (fun _=>K (.exit 0) ([.s .bad]) ([]))
 | _,_=>none
def qrb:{R:Type}->Nat->List V->List Obj->(Ex->List V->List Obj->Option R)->Option R:=fun q vs objs K=>bif Nat.beq q 6 then qR2 vs objs K else none
def qMd:Ctx:=mkC 39 ((qMW (qFh (qcw (qMb qI))))) [(6,[1,2,5,6,7],[4])] qrb
theorem qcp:CtxOK Tryz.prog qMd:=mkC_ok ((qRT _ (qGg _ (qrg _ (qRv _ qL)))))
def qR1 (f:Nat) (x0 x1 x2:Int) (x3 x4:LI) (x5:Int) (x6:List Bool):Option ((Bool)⊕(Unit)):=qf qMd 0 [1,2,5,6,7] [4] (qE Tryz.f20 6) f ([.s (.i .i64 x0),.s (.ptr 0 0 none 0),.s (.ptr 1 0 none 0),.s (.i .i64 x1),.s (.i .i64 x2)]) ([.cells 28 [.arr .i8 81 x3,.arr .i8 16 x4,.one [.i .i8 x5]],.cells 87 [Seg.barr 81 x6]]) qR0
theorem qra (f:Nat) (x0 x1 x2:Int) (x3 x4:LI) (x5:Int) (x6:List Bool):qR1 (f+1) x0 x1 x2 x3 x4 x5 x6=qIG (qR1 f) x0 x1 x2 x3 x4 x5 x6:=by kernel_rfl
theorem qcr:∀ f,qR1 f=qFo f
 | 0=>rfl
 | f+1=>by funext x0 x1 x2 x3 x4 x5 x6;rw[qra,qcr f];rfl
theorem qrc:qY Tryz.prog qMd 0 (qE Tryz.f20 6):=
 qg mixed qcp (qN.of (l':=[]) (by kernel_rfl) trivial) (q:=6) (kin:=[1,2,5,6,7]) (kout:=[4]) (by kernel_rfl) (by kernel_rfl) fun vs objs K r h=>by
  replace h:qR2 vs objs K=some r:=h
  unfold qR2 at h
  split at h
  ·skip
   obtain⟨t,h1,h2⟩:=qD h
   rw[<- qcr] at h1
   refine⟨_,qR0,t,qB,h1,fun e vs' objs' hd=>?_⟩
   unfold qR0 at hd
   split at hd
   ·skip
    cases hd
    exact h2
   ·skip
    cases hd
    exact h2
   ·cases hd
  ·cases h
def qcq:V->List Obj->Option (Bool):=fun v objs=>match v,objs with
 | .s (.b y0),[]=>some (y0)
 | _,_=>none
theorem qrZ (x0 x1:LI) (x2 x3:Int):fnE qMd Tryz.f20 ([.agg [.arr .i8 81 x0,.arr .i8 16 x1,.one [.i .i8 x2]],.s (.i .i64 x3)]) ([]) qcq=qD2 x0 x1 x2 x3:=by kernel_rfl
def qco:HA:=fun o vs objs K=>match vs,objs with
 | [.agg [.arr .i8 81 x0,.arr .i8 16 x1,.one [.i .i8 x2]],.s (.i .i64 x3)],[]=>ob (qD2 x0 x1 x2 x3) fun y0=>K false (.s (.b y0)) ([])
 | _,_=>o 20 vs objs K
def qIH (o:Orc):Orc:=qK 20 (qco o) o
theorem qJp:OQ Tryz.prog qIH:=fun _ ho=>qM ho fun vs objs K r h=>by
 unfold qco at h
 split at h
 ·skip
  obtain⟨t,h1,h2⟩:=qD h
  refine q7 mixed qcp (fn:=Tryz.f20) (b:=(Tryz.f20).body.getD .skip) (by kernel_rfl) (by kernel_rfl) (by kernel_rfl) ((qrZ _ _ _ _).trans h1) (m:=0) rfl (qN.of (l':=[qE Tryz.f20 6]) (by kernel_rfl) ⟨qrc,trivial⟩) fun v objs' hd=>?_
  unfold qcq at hd;split at hd;(cases hd;exact h2);cases hd
 ·exact ho _ _ _ _ _ h
def qcl:Ctx:=mkC 15 ((qIH (qcN qI))) [] qU
theorem qrX:CtxOK Tryz.prog qcl:=mkC_ok ((qJp _ (qq4 _ qL)))
def qcm:V->List Obj->Option (Int):=fun v objs=>match v,objs with
 | .s (.i .i64 y0),[]=>some (y0)
 | _,_=>none
theorem qrW (x0 x1:LI) (x2:Int):fnE qcl Tryz.f10 ([.agg [.arr .i8 81 x0,.arr .i8 16 x1,.one [.i .i8 x2]]]) ([]) qcm=qJo x0 x1 x2:=by kernel_rfl
def qck:HA:=fun o vs objs K=>match vs,objs with
 | [.agg [.arr .i8 81 x0,.arr .i8 16 x1,.one [.i .i8 x2]]],[]=>ob (qJo x0 x1 x2) fun y0=>K false (.s (.i .i64 y0)) ([])
 | _,_=>o 10 vs objs K
def qcn (o:Orc):Orc:=qK 10 (qck o) o
theorem qrY:OQ Tryz.prog qcn:=fun _ ho=>qM ho fun vs objs K r h=>by
 unfold qck at h
 split at h
 ·skip
  obtain⟨t,h1,h2⟩:=qD h
  refine qX mixed qrX ((qrW _ _ _).trans h1) (by kernel_rfl) fun v objs' hd=>?_
  unfold qcm at hd;split at hd;(cases hd;exact h2);cases hd
 ·exact ho _ _ _ _ _ h
def qch:Ctx:=mkC 44 (qI) [] qU
theorem qrU:CtxOK Tryz.prog qch:=mkC_ok (qL)
def qci:V->List Obj->Option (Int):=fun v objs=>match v,objs with
 | .s (.i .i64 y0),[]=>some (y0)
 | _,_=>none
theorem qrT (x0 x1 x2:Int) (x3:Bool):fnE qch Tryz.f32 ([.agg [.one [.i .i64 x0,.i .i64 x1,.i .i64 x2,.b x3]]]) ([]) qci=qJn x0 x1 x2 x3:=by kernel_rfl
def qcg:HA:=fun o vs objs K=>match vs,objs with
 | [.agg [.one [.i .i64 x0,.i .i64 x1,.i .i64 x2,.b x3]]],[]=>ob (qJn x0 x1 x2 x3) fun y0=>K false (.s (.i .i64 y0)) ([])
 | _,_=>o 32 vs objs K
def qcj (o:Orc):Orc:=qK 32 (qcg o) o
theorem qrV:OQ Tryz.prog qcj:=fun _ ho=>qM ho fun vs objs K r h=>by
 unfold qcg at h
 split at h
 ·skip
  obtain⟨t,h1,h2⟩:=qD h
  refine qX mixed qrU ((qrT _ _ _ _).trans h1) (by kernel_rfl) fun v objs' hd=>?_
  unfold qci at hd;split at hd;(cases hd;exact h2);cases hd
 ·exact ho _ _ _ _ _ h
def qbd:Ctx:=mkC 15 (qI) [] qU
theorem qqU:CtxOK Tryz.prog qbd:=mkC_ok (qL)
def qbe:V->List Obj->Option (Int):=fun v objs=>match v,objs with
 | .s (.i .i64 y0),[]=>some (y0)
 | _,_=>none
theorem qqT (x0:Int):fnE qbd Tryz.f103 ([.s (.i .i64 x0)]) ([]) qbe=qEc x0:=by kernel_rfl
def qbc:HA:=fun o vs objs K=>match vs,objs with
 | [.s (.i .i64 x0)],[]=>ob (qEc x0) fun y0=>K false (.s (.i .i64 y0)) ([])
 | _,_=>o 103 vs objs K
def qMS (o:Orc):Orc:=qK 103 (qbc o) o
theorem qRJ:OQ Tryz.prog qMS:=fun _ ho=>qM ho fun vs objs K r h=>by
 unfold qbc at h
 split at h
 ·skip
  obtain⟨t,h1,h2⟩:=qD h
  refine qX mixed qqU ((qqT _).trans h1) (by kernel_rfl) fun v objs' hd=>?_
  unfold qbe at hd;split at hd;(cases hd;exact h2);cases hd
 ·exact ho _ _ _ _ _ h
def qc1:Ctx:=mkC 75 ((qMS (qDH (qFh (qcj qI))))) [] qU
theorem qrl:CtxOK Tryz.prog qc1:=mkC_ok ((qRJ _ (qDs _ (qGg _ (qrV _ qL)))))
def qc2:V->List Obj->Option (Bool):=fun v objs=>match v,objs with
 | .s (.b y0),[]=>some (y0)
 | _,_=>none
theorem qrk (x0 x1:LI) (x2 x3:Int) (x4 x5:Int) (x6:Bool):fnE qc1 Tryz.f68 ([.agg [.arr .i8 81 x0,.arr .i8 16 x1,.one [.i .i8 x2]],.agg [.one [.i .i64 x3,.i .i64 x4,.i .i64 x5,.b x6]]]) ([]) qc2=qJr x0 x1 x2 x3 x4 x5 x6:=by kernel_rfl
def qc0:HA:=fun o vs objs K=>match vs,objs with
 | [.agg [.arr .i8 81 x0,.arr .i8 16 x1,.one [.i .i8 x2]],.agg [.one [.i .i64 x3,.i .i64 x4,.i .i64 x5,.b x6]]],[]=>ob (qJr x0 x1 x2 x3 x4 x5 x6) fun y0=>K false (.s (.b y0)) ([])
 | _,_=>o 68 vs objs K
def qc3 (o:Orc):Orc:=qK 68 (qc0 o) o
theorem qrm:OQ Tryz.prog qc3:=fun _ ho=>qM ho fun vs objs K r h=>by
 unfold qc0 at h
 split at h
 ·skip
  obtain⟨t,h1,h2⟩:=qD h
  refine qX mixed qrl ((qrk _ _ _ _ _ _ _).trans h1) (by kernel_rfl) fun v objs' hd=>?_
  unfold qc2 at hd;split at hd;(cases hd;exact h2);cases hd
 ·exact ho _ _ _ _ _ h
def qdC:Ctx:=mkC 35 ((qRL (qFh (qMS (qDH qI))))) [] qU
theorem qry:CtxOK Tryz.prog qdC:=mkC_ok ((qbl _ (qGg _ (qRJ _ (qDs _ qL)))))
def qdD:V->List Obj->Option (Bool):=fun v objs=>match v,objs with
 | .s (.b y0),[]=>some (y0)
 | _,_=>none
theorem qrx (x0 x1 x2:Int):fnE qdC Tryz.f69 ([.s (.i .i64 x0),.s (.i .i64 x1),.s (.i .i64 x2)]) ([]) qdD=qJt x0 x1 x2:=by kernel_rfl
def qdB:HA:=fun o vs objs K=>match vs,objs with
 | [.s (.i .i64 x0),.s (.i .i64 x1),.s (.i .i64 x2)],[]=>ob (qJt x0 x1 x2) fun y0=>K false (.s (.b y0)) ([])
 | _,_=>o 69 vs objs K
def qdE (o:Orc):Orc:=qK 69 (qdB o) o
theorem qrz:OQ Tryz.prog qdE:=fun _ ho=>qM ho fun vs objs K r h=>by
 unfold qdB at h
 split at h
 ·skip
  obtain⟨t,h1,h2⟩:=qD h
  refine qX mixed qry ((qrx _ _ _).trans h1) (by kernel_rfl) fun v objs' hd=>?_
  unfold qdD at hd;split at hd;(cases hd;exact h2);cases hd
 ·exact ho _ _ _ _ _ h
def qdK:Ctx:=mkC 14 ((qMT (qMS (qDH qI)))) [] qU
theorem qr3:CtxOK Tryz.prog qdK:=mkC_ok ((qRK _ (qRJ _ (qDs _ qL))))
def qdL:V->List Obj->Option (Bool):=fun v objs=>match v,objs with
 | .s (.b y0),[]=>some (y0)
 | _,_=>none
theorem qr2 (x0 x1:Int):fnE qdK Tryz.f70 ([.s (.i .i64 x0),.s (.i .i64 x1)]) ([]) qdL=qJu x0 x1:=by kernel_rfl
def qdJ:HA:=fun o vs objs K=>match vs,objs with
 | [.s (.i .i64 x0),.s (.i .i64 x1)],[]=>ob (qJu x0 x1) fun y0=>K false (.s (.b y0)) ([])
 | _,_=>o 70 vs objs K
def qdM (o:Orc):Orc:=qK 70 (qdJ o) o
theorem qr4:OQ Tryz.prog qdM:=fun _ ho=>qM ho fun vs objs K r h=>by
 unfold qdJ at h
 split at h
 ·skip
  obtain⟨t,h1,h2⟩:=qD h
  refine qX mixed qr3 ((qr2 _ _).trans h1) (by kernel_rfl) fun v objs' hd=>?_
  unfold qdL at hd;split at hd;(cases hd;exact h2);cases hd
 ·exact ho _ _ _ _ _ h
def qdG:Ctx:=mkC 70 ((qdM (qdE (qMW (qMb (qMZ (qMT (qc3 qI)))))))) [] qU
theorem qr1:CtxOK Tryz.prog qdG:=mkC_ok ((qr4 _ (qrz _ (qRT _ (qRv _ (qRr _ (qRK _ (qrm _ qL))))))))
def qdH:V->List Obj->Option (Bool):=fun v objs=>match v,objs with
 | .s (.b y0),[]=>some (y0)
 | _,_=>none
theorem qr0 (x0 x1:LI) (x2 x3:Int) (x4 x5:Int) (x6:Bool):fnE qdG Tryz.f28 ([.agg [.arr .i8 81 x0,.arr .i8 16 x1,.one [.i .i8 x2]],.agg [.one [.i .i64 x3,.i .i64 x4,.i .i64 x5,.b x6]]]) ([]) qdH=qEg x0 x1 x2 x3 x4 x5 x6:=by kernel_rfl
def qdF:HA:=fun o vs objs K=>match vs,objs with
 | [.agg [.arr .i8 81 x0,.arr .i8 16 x1,.one [.i .i8 x2]],.agg [.one [.i .i64 x3,.i .i64 x4,.i .i64 x5,.b x6]]],[]=>ob (qEg x0 x1 x2 x3 x4 x5 x6) fun y0=>K false (.s (.b y0)) ([])
 | _,_=>o 28 vs objs K
def qSK (o:Orc):Orc:=qK 28 (qdF o) o
theorem qdI:OQ Tryz.prog qSK:=fun _ ho=>qM ho fun vs objs K r h=>by
 unfold qdF at h
 split at h
 ·skip
  obtain⟨t,h1,h2⟩:=qD h
  refine qX mixed qr1 ((qr0 _ _ _ _ _ _ _).trans h1) (by kernel_rfl) fun v objs' hd=>?_
  unfold qdH at hd;split at hd;(cases hd;exact h2);cases hd
 ·exact ho _ _ _ _ _ h
def qcy:Ctx:=mkC 82 ((qRI (qDH qI))) [] qU
theorem qrj:CtxOK Tryz.prog qcy:=mkC_ok ((qbU _ (qDs _ qL)))
def qcz:V->List Obj->Option (LI×LI×Int):=fun v objs=>match v,objs with
 | .agg [.arr .i8 81 y0,.arr .i8 16 y1,.one [.i .i8 y2]],[]=>some (y0,y1,y2)
 | _,_=>none
theorem qri (x0 x1:LI) (x2 x3:Int) (x4 x5:Int) (x6:Bool):fnE qcy Tryz.f12 ([.agg [.arr .i8 81 x0,.arr .i8 16 x1,.one [.i .i8 x2]],.agg [.one [.i .i64 x3,.i .i64 x4,.i .i64 x5,.b x6]]]) ([]) qcz=qEf x0 x1 x2 x3 x4 x5 x6:=by kernel_rfl
def qcx:HA:=fun o vs objs K=>match vs,objs with
 | [.agg [.arr .i8 81 x0,.arr .i8 16 x1,.one [.i .i8 x2]],.agg [.one [.i .i64 x3,.i .i64 x4,.i .i64 x5,.b x6]]],[]=>ob (qEf x0 x1 x2 x3 x4 x5 x6) fun z=>K false (.agg [.arr .i8 81 (z.1),.arr .i8 16 (z.2.1),.one [.i .i8 (z.2.2)]]) ([])
 | _,_=>o 12 vs objs K
def qMf (o:Orc):Orc:=qK 12 (qcx o) o
theorem qR6:OQ Tryz.prog qMf:=fun _ ho=>qM ho fun vs objs K r h=>by
 unfold qcx at h
 split at h
 ·skip
  obtain⟨t,h1,h2⟩:=qD h
  refine qX mixed qrj ((qri _ _ _ _ _ _ _).trans h1) (by kernel_rfl) fun v objs' hd=>?_
  unfold qcz at hd;split at hd;(cases hd;exact h2);cases hd
 ·exact ho _ _ _ _ _ h
def qdb:Ctx:=mkC 13 ((qIH (qMf qI))) [] qU
theorem qsG:CtxOK Tryz.prog qdb:=mkC_ok ((qJp _ (qR6 _ qL)))
def qdc:V->List Obj->Option (Bool):=fun v objs=>match v,objs with
 | .s (.b y0),[]=>some (y0)
 | _,_=>none
theorem qsF (x0 x1:LI) (x2 x3:Int) (x4 x5:Int) (x6:Bool):fnE qdb Tryz.f71 ([.agg [.arr .i8 81 x0,.arr .i8 16 x1,.one [.i .i8 x2]],.agg [.one [.i .i64 x3,.i .i64 x4,.i .i64 x5,.b x6]]]) ([]) qdc=qIQ x0 x1 x2 x3 x4 x5 x6:=by kernel_rfl
def qda:HA:=fun o vs objs K=>match vs,objs with
 | [.agg [.arr .i8 81 x0,.arr .i8 16 x1,.one [.i .i8 x2]],.agg [.one [.i .i64 x3,.i .i64 x4,.i .i64 x5,.b x6]]],[]=>ob (qIQ x0 x1 x2 x3 x4 x5 x6) fun y0=>K false (.s (.b y0)) ([])
 | _,_=>o 71 vs objs K
def qSP (o:Orc):Orc:=qK 71 (qda o) o
theorem qdd:OQ Tryz.prog qSP:=fun _ ho=>qM ho fun vs objs K r h=>by
 unfold qda at h
 split at h
 ·skip
  obtain⟨t,h1,h2⟩:=qD h
  refine qX mixed qsG ((qsF _ _ _ _ _ _ _).trans h1) (by kernel_rfl) fun v objs' hd=>?_
  unfold qdc at hd;split at hd;(cases hd;exact h2);cases hd
 ·exact ho _ _ _ _ _ h
def qR7:Ex->List V->List Obj->Option (Nat×Int×LI×LI×Int×Nat×LL×List Bool):=fun e vs objs=>match e,vs,objs with
 | .exit 2,[.s (.ptr 0 0 none 0),.s (.sl 1 0 y0 true),.s (.ptr 2 0 none 0),.s (.i .i64 y1)],[.cells 28 [.arr .i8 81 y2,.arr .i8 16 y3,.one [.i .i8 y4]],.sli 37 false (.rows [.i .i64,.i .i64,.i .i64,.b] y5 y6),.cells 87 [Seg.barr 81 y7]]=>some (y0,y1,y2,y3,y4,y5,y6,y7)
 | _,_,_=>none
def qSD:Ex->List V->List Obj->Option (Nat×LI×LI×Int×Nat×LL):=fun e vs objs=>match e,vs,objs with
 | .exit 0,[.s (.ptr 0 0 none 0),.s (.sl 1 0 y0 true)],[.cells 28 [.arr .i8 81 y1,.arr .i8 16 y2,.one [.i .i8 y3]],.sli 37 false (.rows [.i .i64,.i .i64,.i .i64,.b] y4 y5)]=>some (y0,y1,y2,y3,y4,y5)
 | _,_,_=>none
def qSB:Ex->List V->List Obj->Option (Nat×Int×LI×LI×Int×Nat×LL):=fun e vs objs=>match e,vs,objs with
 | .exit 6,[.s (.ptr 0 0 none 0),.s (.sl 1 0 y0 true),.s (.i .i64 y1)],[.cells 28 [.arr .i8 81 y2,.arr .i8 16 y3,.one [.i .i8 y4]],.sli 37 false (.rows [.i .i64,.i .i64,.i .i64,.b] y5 y6)]=>some (y0,y1,y2,y3,y4,y5,y6)
 | _,_,_=>none
def qR9:Ex->List V->List Obj->Option (Nat×Nat×LL):=fun e vs objs=>match e,vs,objs with
 | .exit 4,[.s (.sl 0 0 y0 true)],[.sli 37 false (.rows [.i .i64,.i .i64,.i .i64,.b] y1 y2)]=>some (y0,y1,y2)
 | _,_,_=>none
def qSG:HL:=fun vs objs K=>match vs,objs with
 | [.s (.ptr 0 0 none 0),.s (.sl 1 0 x0 true),.s (.ptr 2 0 none 0),.s (.i .i64 x1),.s (.i .i64 x2)],[.cells 28 [.arr .i8 81 x3,.arr .i8 16 x4,.one [.i .i8 x5]],.sli 37 false (.rows [.i .i64,.i .i64,.i .i64,.b] x6 x7),.cells 87 [Seg.barr 81 x8]]=>ob (qFq qB x0 x1 x2 x3 x4 x5 x6 x7 x8) fun z=>K (.exit 2) ([.s (.ptr 0 0 none 0),.s (.sl 1 0 (z.1) true),.s (.ptr 2 0 none 0),.s (.i .i64 (z.2.1))]) ([.cells 28 [.arr .i8 81 (z.2.2.1),.arr .i8 16 (z.2.2.2.1),.one [.i .i8 (z.2.2.2.2.1)]],.sli 37 false (.rows [.i .i64,.i .i64,.i .i64,.b] (z.2.2.2.2.2.1) (z.2.2.2.2.2.2.1)),.cells 87 [Seg.barr 81 (z.2.2.2.2.2.2.2)]])
 | _,_=>none
def qSJ:HL:=fun vs objs K=>match vs,objs with
 | [.s (.ptr 0 0 none 0),.s (.sl 1 0 x0 true),.s (.ptr 2 0 none 0),.s (.i .i64 x1)],[.cells 28 [.arr .i8 81 x2,.arr .i8 16 x3,.one [.i .i8 x4]],.sli 37 false (.rows [.i .i64,.i .i64,.i .i64,.b] x5 x6),.cells 87 [Seg.barr 81 x7]]=>ob (qD5 qB x0 x1 x2 x3 x4 x5 x6 x7) fun z=>K (.exit 0) ([.s (.ptr 0 0 none 0),.s (.sl 1 0 (z.1) true)]) ([.cells 28 [.arr .i8 81 (z.2.1),.arr .i8 16 (z.2.2.1),.one [.i .i8 (z.2.2.2.1)]],.sli 37 false (.rows [.i .i64,.i .i64,.i .i64,.b] (z.2.2.2.2.1) (z.2.2.2.2.2))])
 | _,_=>none
def qSI:HL:=fun vs objs K=>match vs,objs with
 | [.s (.ptr 0 0 none 0),.s (.sl 1 0 x0 true),.s (.i .i64 x1),.s (.i .i64 x2)],[.cells 28 [.arr .i8 81 x3,.arr .i8 16 x4,.one [.i .i8 x5]],.sli 37 false (.rows [.i .i64,.i .i64,.i .i64,.b] x6 x7)]=>ob (qFr qB x0 x1 x2 x3 x4 x5 x6 x7) fun z=>K (.exit 6) ([.s (.ptr 0 0 none 0),.s (.sl 1 0 (z.1) true),.s (.i .i64 (z.2.1))]) ([.cells 28 [.arr .i8 81 (z.2.2.1),.arr .i8 16 (z.2.2.2.1),.one [.i .i8 (z.2.2.2.2.1)]],.sli 37 false (.rows [.i .i64,.i .i64,.i .i64,.b] (z.2.2.2.2.2.1) (z.2.2.2.2.2.2))])
 | _,_=>none
def qSH:HL:=fun vs objs K=>match vs,objs with
 | [.s (.ptr 0 0 none 0),.s (.sl 1 0 x0 true),.s (.i .i64 x1)],[.cells 28 [.arr .i8 81 x2,.arr .i8 16 x3,.one [.i .i8 x4]],.sli 37 false (.rows [.i .i64,.i .i64,.i .i64,.b] x5 x6)]=>ob (qD4 qB x0 x1 x2 x3 x4 x5 x6) fun z=>K (.exit 4) ([.s (.sl 0 0 (z.1) true)]) ([.sli 37 false (.rows [.i .i64,.i .i64,.i .i64,.b] (z.2.1) (z.2.2))])
 | _,_=>none
def qrs:{R:Type}->Nat->List V->List Obj->(Ex->List V->List Obj->Option R)->Option R:=fun q vs objs K=>bif Nat.beq q 10 then qSG vs objs K else bif Nat.beq q 6 then qSJ vs objs K else bif Nat.beq q 23 then qSI vs objs K else bif Nat.beq q 20 then qSH vs objs K else none
def qD3:Ctx:=mkC 98 ((qSK (qMW (qFh (qMb qI))))) [(6,[1,3,4,5],[1,3]),(10,[1,3,4,5,6],[1,3,4,5]),(20,[1,3,8],[3]),(23,[1,3,8,9],[1,3,8])] qrs
theorem qJs:CtxOK Tryz.prog qD3:=mkC_ok ((qdI _ (qRT _ (qGg _ (qRv _ qL)))))
def qR8 (f:Nat) (x0:Nat) (x1 x2:Int) (x3 x4:LI) (x5:Int) (x6:Nat) (x7:LL) (x8:List Bool):Option (Nat×Int×LI×LI×Int×Nat×LL×List Bool):=qf qD3 0 [1,3,4,5,6] [1,3,4,5] (qE Tryz.f40 10) f ([.s (.ptr 0 0 none 0),.s (.sl 1 0 x0 true),.s (.ptr 2 0 none 0),.s (.i .i64 x1),.s (.i .i64 x2)]) ([.cells 28 [.arr .i8 81 x3,.arr .i8 16 x4,.one [.i .i8 x5]],.sli 37 false (.rows [.i .i64,.i .i64,.i .i64,.b] x6 x7),.cells 87 [Seg.barr 81 x8]]) qR7
theorem qro (f:Nat) (x0:Nat) (x1 x2:Int) (x3 x4:LI) (x5:Int) (x6:Nat) (x7:LL) (x8:List Bool):qR8 (f+1) x0 x1 x2 x3 x4 x5 x6 x7 x8=qIK (qR8 f) x0 x1 x2 x3 x4 x5 x6 x7 x8:=by kernel_rfl
theorem qc6:∀ f,qR8 f=qFq f
 | 0=>rfl
 | f+1=>by funext x0 x1 x2 x3 x4 x5 x6 x7 x8;rw[qro,qc6 f];rfl
def qSE (f:Nat) (x0:Nat) (x1:Int) (x2 x3:LI) (x4:Int) (x5:Nat) (x6:LL) (x7:List Bool):Option (Nat×LI×LI×Int×Nat×LL):=qf qD3 0 [1,3,4,5] [1,3] (qE Tryz.f40 6) f ([.s (.ptr 0 0 none 0),.s (.sl 1 0 x0 true),.s (.ptr 2 0 none 0),.s (.i .i64 x1)]) ([.cells 28 [.arr .i8 81 x2,.arr .i8 16 x3,.one [.i .i8 x4]],.sli 37 false (.rows [.i .i64,.i .i64,.i .i64,.b] x5 x6),.cells 87 [Seg.barr 81 x7]]) qSD
theorem qrr (f:Nat) (x0:Nat) (x1:Int) (x2 x3:LI) (x4:Int) (x5:Nat) (x6:LL) (x7:List Bool):qSE (f+1) x0 x1 x2 x3 x4 x5 x6 x7=qIN (qSE f) x0 x1 x2 x3 x4 x5 x6 x7:=by kernel_rfl
theorem qc9:∀ f,qSE f=qD5 f
 | 0=>rfl
 | f+1=>by funext x0 x1 x2 x3 x4 x5 x6 x7;rw[qrr,qc9 f];rfl
def qSC (f:Nat) (x0:Nat) (x1 x2:Int) (x3 x4:LI) (x5:Int) (x6:Nat) (x7:LL):Option (Nat×Int×LI×LI×Int×Nat×LL):=qf qD3 0 [1,3,8,9] [1,3,8] (qE Tryz.f40 23) f ([.s (.ptr 0 0 none 0),.s (.sl 1 0 x0 true),.s (.i .i64 x1),.s (.i .i64 x2)]) ([.cells 28 [.arr .i8 81 x3,.arr .i8 16 x4,.one [.i .i8 x5]],.sli 37 false (.rows [.i .i64,.i .i64,.i .i64,.b] x6 x7)]) qSB
theorem qrq (f:Nat) (x0:Nat) (x1 x2:Int) (x3 x4:LI) (x5:Int) (x6:Nat) (x7:LL):qSC (f+1) x0 x1 x2 x3 x4 x5 x6 x7=qIM (qSC f) x0 x1 x2 x3 x4 x5 x6 x7:=by kernel_rfl
theorem qc8:∀ f,qSC f=qFr f
 | 0=>rfl
 | f+1=>by funext x0 x1 x2 x3 x4 x5 x6 x7;rw[qrq,qc8 f];rfl
def qSA (f:Nat) (x0:Nat) (x1:Int) (x2 x3:LI) (x4:Int) (x5:Nat) (x6:LL):Option (Nat×Nat×LL):=qf qD3 0 [1,3,8] [3] (qE Tryz.f40 20) f ([.s (.ptr 0 0 none 0),.s (.sl 1 0 x0 true),.s (.i .i64 x1)]) ([.cells 28 [.arr .i8 81 x2,.arr .i8 16 x3,.one [.i .i8 x4]],.sli 37 false (.rows [.i .i64,.i .i64,.i .i64,.b] x5 x6)]) qR9
theorem qrp (f:Nat) (x0:Nat) (x1:Int) (x2 x3:LI) (x4:Int) (x5:Nat) (x6:LL):qSA (f+1) x0 x1 x2 x3 x4 x5 x6=qIL (qSA f) x0 x1 x2 x3 x4 x5 x6:=by kernel_rfl
theorem qc7:∀ f,qSA f=qD4 f
 | 0=>rfl
 | f+1=>by funext x0 x1 x2 x3 x4 x5 x6;rw[qrp,qc7 f];rfl
theorem qrt:qY Tryz.prog qD3 0 (qE Tryz.f40 10):=
 qg mixed qJs (qN.of (l':=[]) (by kernel_rfl) trivial) (q:=10) (kin:=[1,3,4,5,6]) (kout:=[1,3,4,5]) (by kernel_rfl) (by kernel_rfl) fun vs objs K r h=>by
  replace h:qSG vs objs K=some r:=h
  unfold qSG at h
  split at h
  ·skip
   obtain⟨t,h1,h2⟩:=qD h
   rw[<- qc6] at h1
   refine⟨_,qR7,t,qB,h1,fun e vs' objs' hd=>?_⟩
   unfold qR7 at hd;split at hd;(cases hd;exact h2);cases hd
  ·cases h
theorem qrv:qY Tryz.prog qD3 0 (qE Tryz.f40 23):=
 qg mixed qJs (qN.of (l':=[]) (by kernel_rfl) trivial) (q:=23) (kin:=[1,3,8,9]) (kout:=[1,3,8]) (by kernel_rfl) (by kernel_rfl) fun vs objs K r h=>by
  replace h:qSI vs objs K=some r:=h
  unfold qSI at h
  split at h
  ·skip
   obtain⟨t,h1,h2⟩:=qD h
   rw[<- qc8] at h1
   refine⟨_,qSB,t,qB,h1,fun e vs' objs' hd=>?_⟩
   unfold qSB at hd;split at hd;(cases hd;exact h2);cases hd
  ·cases h
theorem qrw:qY Tryz.prog qD3 0 (qE Tryz.f40 6):=
 qg mixed qJs (qN.of (l':=[qE Tryz.f40 10]) (by kernel_rfl) ⟨qrt,trivial⟩) (q:=6) (kin:=[1,3,4,5]) (kout:=[1,3]) (by kernel_rfl) (by kernel_rfl) fun vs objs K r h=>by
  replace h:qSJ vs objs K=some r:=h
  unfold qSJ at h
  split at h
  ·skip
   obtain⟨t,h1,h2⟩:=qD h
   rw[<- qc9] at h1
   refine⟨_,qSD,t,qB,h1,fun e vs' objs' hd=>?_⟩
   unfold qSD at hd;split at hd;(cases hd;exact h2);cases hd
  ·cases h
theorem qru:qY Tryz.prog qD3 0 (qE Tryz.f40 20):=
 qg mixed qJs (qN.of (l':=[qE Tryz.f40 23]) (by kernel_rfl) ⟨qrv,trivial⟩) (q:=20) (kin:=[1,3,8]) (kout:=[3]) (by kernel_rfl) (by kernel_rfl) fun vs objs K r h=>by
  replace h:qSH vs objs K=some r:=h
  unfold qSH at h
  split at h
  ·skip
   obtain⟨t,h1,h2⟩:=qD h
   rw[<- qc7] at h1
   refine⟨_,qR9,t,qB,h1,fun e vs' objs' hd=>?_⟩
   unfold qR9 at hd;split at hd;(cases hd;exact h2);cases hd
  ·cases h
def qc5:V->List Obj->Option (Nat×Nat×LL):=fun v objs=>match v,objs with
 | .s (.sl 0 0 y0 true),[.sli 37 false (.rows [.i .i64,.i .i64,.i .i64,.b] y1 y2)]=>some (y0,y1,y2)
 | _,_=>none
theorem qrn (x0 x1:LI) (x2:Int):fnE qD3 Tryz.f40 ([.agg [.arr .i8 81 x0,.arr .i8 16 x1,.one [.i .i8 x2]]]) ([]) qc5=qIJ x0 x1 x2:=by kernel_rfl
def qc4:HA:=fun o vs objs K=>match vs,objs with
 | [.agg [.arr .i8 81 x0,.arr .i8 16 x1,.one [.i .i8 x2]]],[]=>ob (qIJ x0 x1 x2) fun z=>K false (.s (.sl 0 0 (z.1) true)) ([.sli 37 false (.rows [.i .i64,.i .i64,.i .i64,.b] (z.2.1) (z.2.2))])
 | _,_=>o 40 vs objs K
def qSF (o:Orc):Orc:=qK 40 (qc4 o) o
theorem qdA:OQ Tryz.prog qSF:=fun _ ho=>qM ho fun vs objs K r h=>by
 unfold qc4 at h
 split at h
 ·skip
  obtain⟨t,h1,h2⟩:=qD h
  refine q7 mixed qJs (fn:=Tryz.f40) (b:=(Tryz.f40).body.getD .skip) (by kernel_rfl) (by kernel_rfl) (by kernel_rfl) ((qrn _ _ _).trans h1) (m:=0) rfl (qN.of (l':=[qE Tryz.f40 6,qE Tryz.f40 20]) (by kernel_rfl) ⟨qrw,qru,trivial⟩) fun v objs' hd=>?_
  unfold qc5 at hd;split at hd;(cases hd;exact h2);cases hd
 ·exact ho _ _ _ _ _ h
def qSQ:Ex->List V->List Obj->Option ((Bool)⊕(Unit)):=fun e vs objs=>match e,vs,objs with
 | .ret,[.s (.b y0)],[]=>some (.inl (y0))
 | .exit 0,[.s .bad],[]=>some (.inr ())
 | _,_,_=>none
def qSS:HL:=fun vs objs K=>match vs,objs with
 | [.s (.ptr 0 0 none 0),.s (.sl 1 0 x0 true),.s (.i .i64 x1)],[.cells 28 [.arr .i8 81 x2,.arr .i8 16 x3,.one [.i .i8 x4]],.sli 37 false (.rows [.i .i64,.i .i64,.i .i64,.b] x5 x6)]=>ob (qFt qB x0 x1 x2 x3 x4 x5 x6) fun t0=>sw t0 (fun y0=>K (.ret) ([.s (.b y0)]) ([])) (fun _=>K (.exit 0) ([.s .bad]) ([]))
 | _,_=>none
def qsJ:{R:Type}->Nat->List V->List Obj->(Ex->List V->List Obj->Option R)->Option R:=fun q vs objs K=>bif Nat.beq q 3 then qSS vs objs K else none
def qMh:Ctx:=mkC 19 ((qSP (qSF qI))) [(3,[1,3,4],[2])] qsJ
theorem qdf:CtxOK Tryz.prog qMh:=mkC_ok ((qdd _ (qdA _ qL)))
def qSR (f:Nat) (x0:Nat) (x1:Int) (x2 x3:LI) (x4:Int) (x5:Nat) (x6:LL):Option ((Bool)⊕(Unit)):=qf qMh 0 [1,3,4] [2] (qE Tryz.f72 3) f ([.s (.ptr 0 0 none 0),.s (.sl 1 0 x0 true),.s (.i .i64 x1)]) ([.cells 28 [.arr .i8 81 x2,.arr .i8 16 x3,.one [.i .i8 x4]],.sli 37 false (.rows [.i .i64,.i .i64,.i .i64,.b] x5 x6)]) qSQ
theorem qsI (f:Nat) (x0:Nat) (x1:Int) (x2 x3:LI) (x4:Int) (x5:Nat) (x6:LL):qSR (f+1) x0 x1 x2 x3 x4 x5 x6=qIR (qSR f) x0 x1 x2 x3 x4 x5 x6:=by kernel_rfl
theorem qdh:∀ f,qSR f=qFt f
 | 0=>rfl
 | f+1=>by funext x0 x1 x2 x3 x4 x5 x6;rw[qsI,qdh f];rfl
theorem qsL:qY Tryz.prog qMh 0 (qE Tryz.f72 3):=
 qg mixed qdf (qN.of (l':=[]) (by kernel_rfl) trivial) (q:=3) (kin:=[1,3,4]) (kout:=[2]) (by kernel_rfl) (by kernel_rfl) fun vs objs K r h=>by
  replace h:qSS vs objs K=some r:=h
  unfold qSS at h
  split at h
  ·skip
   obtain⟨t,h1,h2⟩:=qD h
   rw[<- qdh] at h1
   refine⟨_,qSQ,t,qB,h1,fun e vs' objs' hd=>?_⟩
   unfold qSQ at hd
   split at hd
   ·skip
    cases hd
    exact h2
   ·skip
    cases hd
    exact h2
   ·cases hd
  ·cases h
def qdg:V->List Obj->Option (Bool):=fun v objs=>match v,objs with
 | .s (.b y0),[]=>some (y0)
 | _,_=>none
theorem qsH (x0 x1:LI) (x2:Int):fnE qMh Tryz.f72 ([.agg [.arr .i8 81 x0,.arr .i8 16 x1,.one [.i .i8 x2]]]) ([]) qdg=qJw x0 x1 x2:=by kernel_rfl
def qde:HA:=fun o vs objs K=>match vs,objs with
 | [.agg [.arr .i8 81 x0,.arr .i8 16 x1,.one [.i .i8 x2]]],[]=>ob (qJw x0 x1 x2) fun y0=>K false (.s (.b y0)) ([])
 | _,_=>o 72 vs objs K
def qdi (o:Orc):Orc:=qK 72 (qde o) o
theorem qsK:OQ Tryz.prog qdi:=fun _ ho=>qM ho fun vs objs K r h=>by
 unfold qde at h
 split at h
 ·skip
  obtain⟨t,h1,h2⟩:=qD h
  refine q7 mixed qdf (fn:=Tryz.f72) (b:=(Tryz.f72).body.getD .skip) (by kernel_rfl) (by kernel_rfl) (by kernel_rfl) ((qsH _ _ _).trans h1) (m:=0) rfl (qN.of (l':=[qE Tryz.f72 3]) (by kernel_rfl) ⟨qsL,trivial⟩) fun v objs' hd=>?_
  unfold qdg at hd;split at hd;(cases hd;exact h2);cases hd
 ·exact ho _ _ _ _ _ h
def qdX:Ctx:=mkC 27 ((qdi (qIH (qMf (qSP qI))))) [] qU
theorem qsE:CtxOK Tryz.prog qdX:=mkC_ok ((qsK _ (qJp _ (qR6 _ (qdd _ qL)))))
def qdY:V->List Obj->Option (Bool):=fun v objs=>match v,objs with
 | .s (.b y0),[]=>some (y0)
 | _,_=>none
theorem qsD (x0 x1:LI) (x2 x3:Int) (x4 x5:Int) (x6:Bool):fnE qdX Tryz.f29 ([.agg [.arr .i8 81 x0,.arr .i8 16 x1,.one [.i .i8 x2]],.agg [.one [.i .i64 x3,.i .i64 x4,.i .i64 x5,.b x6]]]) ([]) qdY=qGi x0 x1 x2 x3 x4 x5 x6:=by kernel_rfl
def qdW:HA:=fun o vs objs K=>match vs,objs with
 | [.agg [.arr .i8 81 x0,.arr .i8 16 x1,.one [.i .i8 x2]],.agg [.one [.i .i64 x3,.i .i64 x4,.i .i64 x5,.b x6]]],[]=>ob (qGi x0 x1 x2 x3 x4 x5 x6) fun y0=>K false (.s (.b y0)) ([])
 | _,_=>o 29 vs objs K
def qSO (o:Orc):Orc:=qK 29 (qdW o) o
theorem qdZ:OQ Tryz.prog qSO:=fun _ ho=>qM ho fun vs objs K r h=>by
 unfold qdW at h
 split at h
 ·skip
  obtain⟨t,h1,h2⟩:=qD h
  refine qX mixed qsE ((qsD _ _ _ _ _ _ _).trans h1) (by kernel_rfl) fun v objs' hd=>?_
  unfold qdY at hd;split at hd;(cases hd;exact h2);cases hd
 ·exact ho _ _ _ _ _ h
def qdT:Ctx:=mkC 13 ((qSO (qSK qI))) [] qU
theorem qsB:CtxOK Tryz.prog qdT:=mkC_ok ((qdZ _ (qdI _ qL)))
def qdU:V->List Obj->Option (Bool):=fun v objs=>match v,objs with
 | .s (.b y0),[]=>some (y0)
 | _,_=>none
theorem qsA (x0 x1:LI) (x2 x3:Int) (x4 x5:Int) (x6:Bool):fnE qdT Tryz.f11 ([.agg [.arr .i8 81 x0,.arr .i8 16 x1,.one [.i .i8 x2]],.agg [.one [.i .i64 x3,.i .i64 x4,.i .i64 x5,.b x6]]]) ([]) qdU=qIP x0 x1 x2 x3 x4 x5 x6:=by kernel_rfl
def qdS:HA:=fun o vs objs K=>match vs,objs with
 | [.agg [.arr .i8 81 x0,.arr .i8 16 x1,.one [.i .i8 x2]],.agg [.one [.i .i64 x3,.i .i64 x4,.i .i64 x5,.b x6]]],[]=>ob (qIP x0 x1 x2 x3 x4 x5 x6) fun y0=>K false (.s (.b y0)) ([])
 | _,_=>o 11 vs objs K
def qdV (o:Orc):Orc:=qK 11 (qdS o) o
theorem qsC:OQ Tryz.prog qdV:=fun _ ho=>qM ho fun vs objs K r h=>by
 unfold qdS at h
 split at h
 ·skip
  obtain⟨t,h1,h2⟩:=qD h
  refine qX mixed qsB ((qsA _ _ _ _ _ _ _).trans h1) (by kernel_rfl) fun v objs' hd=>?_
  unfold qdU at hd;split at hd;(cases hd;exact h2);cases hd
 ·exact ho _ _ _ _ _ h
def qZR:Ctx:=mkC 7 ((qPx qI)) [] qU
theorem qnL:CtxOK Tryz.prog qZR:=mkC_ok ((qYF _ qL))
def qZS:V->List Obj->Option (Bool×LI×LI×Int×LL×LL):=fun v objs=>match v,objs with
 | .s (.b y0),[.cells 72 [.arr .i8 81 y1,.arr .i8 16 y2,.one [.i .i8 y3],.rows [.i .u64,.i .u64] 32 y4,.rows [.i .u64,.i .u64] 2 y5]]=>some (y0,y1,y2,y3,y4,y5)
 | _,_=>none
theorem qnK (x0 x1:LI) (x2:Int) (x3 x4:LL):fnE qZR Tryz.f86 ([.s (.ptr 0 0 none 0)]) ([.cells 72 [.arr .i8 81 x0,.arr .i8 16 x1,.one [.i .i8 x2],.rows [.i .u64,.i .u64] 32 x3,.rows [.i .u64,.i .u64] 2 x4]]) qZS=qJZ x0 x1 x2 x3 x4:=by kernel_rfl
def qZQ:HA:=fun o vs objs K=>match vs,objs with
 | [.s (.ptr 0 0 none 0)],[.cells 72 [.arr .i8 81 x0,.arr .i8 16 x1,.one [.i .i8 x2],.rows [.i .u64,.i .u64] 32 x3,.rows [.i .u64,.i .u64] 2 x4]]=>ob (qJZ x0 x1 x2 x3 x4) fun z=>K false (.s (.b (z.1))) ([.cells 72 [.arr .i8 81 (z.2.1),.arr .i8 16 (z.2.2.1),.one [.i .i8 (z.2.2.2.1)],.rows [.i .u64,.i .u64] 32 (z.2.2.2.2.1),.rows [.i .u64,.i .u64] 2 (z.2.2.2.2.2)]])
 | _,_=>o 86 vs objs K
def qZT (o:Orc):Orc:=qK 86 (qZQ o) o
theorem qnM:OQ Tryz.prog qZT:=fun _ ho=>qM ho fun vs objs K r h=>by
 unfold qZQ at h
 split at h
 ·skip
  obtain⟨t,h1,h2⟩:=qD h
  refine qX mixed qnL ((qnK _ _ _ _ _).trans h1) (by kernel_rfl) fun v objs' hd=>?_
  unfold qZS at hd;split at hd;(cases hd;exact h2);cases hd
 ·exact ho _ _ _ _ _ h
def qZN:Ctx:=mkC 15 ((qZT (qKY qI))) [] qU
theorem qnI:CtxOK Tryz.prog qZN:=mkC_ok ((qnM _ (qNg _ qL)))
def qZO:V->List Obj->Option (Bool×LI×LI×Int×LL×LL):=fun v objs=>match v,objs with
 | .s (.b y0),[.cells 72 [.arr .i8 81 y1,.arr .i8 16 y2,.one [.i .i8 y3],.rows [.i .u64,.i .u64] 32 y4,.rows [.i .u64,.i .u64] 2 y5]]=>some (y0,y1,y2,y3,y4,y5)
 | _,_=>none
theorem qnH (x0 x1:LI) (x2:Int) (x3 x4:LL):fnE qZN Tryz.f43 ([.s (.ptr 0 0 none 0)]) ([.cells 72 [.arr .i8 81 x0,.arr .i8 16 x1,.one [.i .i8 x2],.rows [.i .u64,.i .u64] 32 x3,.rows [.i .u64,.i .u64] 2 x4]]) qZO=qGV x0 x1 x2 x3 x4:=by kernel_rfl
def qZM:HA:=fun o vs objs K=>match vs,objs with
 | [.s (.ptr 0 0 none 0)],[.cells 72 [.arr .i8 81 x0,.arr .i8 16 x1,.one [.i .i8 x2],.rows [.i .u64,.i .u64] 32 x3,.rows [.i .u64,.i .u64] 2 x4]]=>ob (qGV x0 x1 x2 x3 x4) fun z=>K false (.s (.b (z.1))) ([.cells 72 [.arr .i8 81 (z.2.1),.arr .i8 16 (z.2.2.1),.one [.i .i8 (z.2.2.2.1)],.rows [.i .u64,.i .u64] 32 (z.2.2.2.2.1),.rows [.i .u64,.i .u64] 2 (z.2.2.2.2.2)]])
 | _,_=>o 43 vs objs K
def qZP (o:Orc):Orc:=qK 43 (qZM o) o
theorem qnJ:OQ Tryz.prog qZP:=fun _ ho=>qM ho fun vs objs K r h=>by
 unfold qZM at h
 split at h
 ·skip
  obtain⟨t,h1,h2⟩:=qD h
  refine qX mixed qnI ((qnH _ _ _ _ _).trans h1) (by kernel_rfl) fun v objs' hd=>?_
  unfold qZO at hd;split at hd;(cases hd;exact h2);cases hd
 ·exact ho _ _ _ _ _ h
def qQC:Ex->List V->List Obj->Option ((Nat×Nat×Int×Int×Nat×LL)⊕(Nat×Nat×Nat×LL)):=fun e vs objs=>match e,vs,objs with
 | .ret,[.s (.sl 0 y0 y1 false),.s (.i .i64 y2),.s (.i .i64 y3)],[.sli 37 true (.rows [.i .i64,.i .i64,.i .i64,.b] y4 y5)]=>some (.inl (y0,y1,y2,y3,y4,y5))
 | .exit 0,[.s (.sl 0 y0 y1 false),.s .bad,.s .bad],[.sli 37 true (.rows [.i .i64,.i .i64,.i .i64,.b] y2 y3)]=>some (.inr (y0,y1,y2,y3))
 | _,_,_=>none
def qQE:HL:=fun vs objs K=>match vs,objs with
 | [.s (.sl 0 x0 x1 false),.s (.ptr 1 0 none 0),.s (.i .i64 x2),.s (.i .i64 x3)],[.sli 37 true (.rows [.i .i64,.i .i64,.i .i64,.b] x4 x5),.cells 28 [.arr .i8 81 x6,.arr .i8 16 x7,.one [.i .i8 x8]]]=>ob (qDB qB x0 x1 x2 x3 x4 x5 x6 x7 x8) fun t0=>sw t0 (fun z=>K (.ret) ([.s (.sl 0 (z.1) (z.2.1) false),.s (.i .i64 (z.2.2.1)),.s (.i .i64 (z.2.2.2.1))]) ([.sli 37 true (.rows [.i .i64,.i .i64,.i .i64,.b] (z.2.2.2.2.1) (z.2.2.2.2.2))])) (fun z=>K (.exit 0) ([.s (.sl 0 (z.1) (z.2.1) false),.s .bad,.s .bad]) ([.sli 37 true (.rows [.i .i64,.i .i64,.i .i64,.b] (z.2.2.1) (z.2.2.2))]))
 | _,_=>none
def qmj:{R:Type}->Nat->List V->List Obj->(Ex->List V->List Obj->Option R)->Option R:=fun q vs objs K=>bif Nat.beq q 2 then qQE vs objs K else none
def qLY:Ctx:=mkC 66 ((qZP (qKY (qI1 (qYu qI))))) [(2,[1,2,11,12],[1,4,5])] qmj
theorem qYg:CtxOK Tryz.prog qLY:=mkC_ok ((qnJ _ (qNg _ (qKj _ (qmv _ qL)))))
def qQD (f:Nat) (x0 x1:Nat) (x2 x3:Int) (x4:Nat) (x5:LL) (x6 x7:LI) (x8:Int):Option ((Nat×Nat×Int×Int×Nat×LL)⊕(Nat×Nat×Nat×LL)):=qf qLY 1 [1,2,11,12] [1,4,5] (qE Tryz.f19 2) f ([.s (.sl 0 x0 x1 false),.s (.ptr 1 0 none 0),.s (.i .i64 x2),.s (.i .i64 x3)]) ([.sli 37 true (.rows [.i .i64,.i .i64,.i .i64,.b] x4 x5),.cells 28 [.arr .i8 81 x6,.arr .i8 16 x7,.one [.i .i8 x8]]]) qQC
theorem qmi (f:Nat) (x0 x1:Nat) (x2 x3:Int) (x4:Nat) (x5:LL) (x6 x7:LI) (x8:Int):qQD (f+1) x0 x1 x2 x3 x4 x5 x6 x7 x8=qJU (qQD f) x0 x1 x2 x3 x4 x5 x6 x7 x8:=by kernel_rfl
theorem qYi:∀ f,qQD f=qDB f
 | 0=>rfl
 | f+1=>by funext x0 x1 x2 x3 x4 x5 x6 x7 x8;rw[qmi,qYi f];rfl
theorem qml:qY Tryz.prog qLY 1 (qE Tryz.f19 2):=
 qg mixed qYg (qN.of (l':=[]) (by kernel_rfl) trivial) (q:=2) (kin:=[1,2,11,12]) (kout:=[1,4,5]) (by kernel_rfl) (by kernel_rfl) fun vs objs K r h=>by
  replace h:qQE vs objs K=some r:=h
  unfold qQE at h
  split at h
  ·skip
   obtain⟨t,h1,h2⟩:=qD h
   rw[<- qYi] at h1
   refine⟨_,qQC,t,qB,h1,fun e vs' objs' hd=>?_⟩
   unfold qQC at hd
   split at hd
   ·skip
    cases hd
    exact h2
   ·skip
    cases hd
    exact h2
   ·cases hd
  ·cases h
def qYh:V->List Obj->Option (Int×Int):=fun v objs=>match v,objs with
 | .tup [W.s (.i .i64 y0),W.s (.i .i64 y1)],[]=>some (y0,y1)
 | _,_=>none
theorem qmh (x0 x1:LI) (x2:Int) (x3 x4 x5:Nat) (x6:LL):fnE qLY Tryz.f19 ([.agg [.arr .i8 81 x0,.arr .i8 16 x1,.one [.i .i8 x2]],.s (.sl 0 x3 x4 false)]) ([.sli 37 true (.rows [.i .i64,.i .i64,.i .i64,.b] x5 x6)]) (qAG 1 qYh)=qGS x0 x1 x2 x3 x4 x5 x6:=by kernel_rfl
def qYf:HA:=fun o vs objs K=>match vs,List.map Obj.toRO objs with
 | [.agg [.arr .i8 81 x0,.arr .i8 16 x1,.one [.i .i8 x2]],.s (.sl 0 x3 x4 false)],[.sli 37 true (.rows [.i .i64,.i .i64,.i .i64,.b] x5 x6)]=>ob (qGS x0 x1 x2 x3 x4 x5 x6) fun z=>K true (.tup [W.s (.i .i64 (z.1)),W.s (.i .i64 (z.2))]) ([])
 | _,_=>o 19 vs objs K
def qYj (o:Orc):Orc:=qK 19 (qYf o) o
theorem qmk:OQ Tryz.prog qYj:=fun _ ho=>qM ho fun vs objs K r h=>by
 unfold qYf at h
 split at h
 ·skip
  have hq:List.map Obj.toRO objs=_:=(by rename_i hq;first | exact hq | assumption)
  obtain⟨t,h1,h2⟩:=qD h
  refine qAc mixed qYg (m:=1) (fn:=Tryz.f19) (b:=(Tryz.f19).body.getD .skip) (by kernel_rfl) (by kernel_rfl) (by kernel_rfl) hq (by kernel_rfl) (by kernel_rfl) (qN.of (l':=[qE Tryz.f19 2]) (by kernel_rfl) ⟨qml,trivial⟩) ((qmh _ _ _ _ _ _ _).trans h1) fun v objs' hd=>?_
  unfold qYh at hd;split at hd;(cases hd;exact h2);cases hd
 ·exact ho _ _ _ _ _ h
def qSL:Ex->List V->List Obj->Option (Nat×Nat×LL):=fun e vs objs=>match e,vs,objs with
 | .exit 0,[.s (.sl 0 0 y0 true)],[.sli 37 false (.rows [.i .i64,.i .i64,.i .i64,.b] y1 y2)]=>some (y0,y1,y2)
 | _,_,_=>none
def qSN:HL:=fun vs objs K=>match vs,objs with
 | [.s (.ptr 0 0 none 0),.s (.sl 1 0 x0 true),.s (.sl 2 0 x1 true),.s (.i .i64 x2)],[.cells 28 [.arr .i8 81 x3,.arr .i8 16 x4,.one [.i .i8 x5]],.sli 37 false (.rows [.i .i64,.i .i64,.i .i64,.b] x6 x7),.sli 37 false (.rows [.i .i64,.i .i64,.i .i64,.b] x8 x9)]=>ob (qFs qB x0 x1 x2 x3 x4 x5 x6 x7 x8 x9) fun z=>K (.exit 0) ([.s (.sl 0 0 (z.1) true)]) ([.sli 37 false (.rows [.i .i64,.i .i64,.i .i64,.b] (z.2.1) (z.2.2))])
 | _,_=>none
def qr7:{R:Type}->Nat->List V->List Obj->(Ex->List V->List Obj->Option R)->Option R:=fun q vs objs K=>bif Nat.beq q 4 then qSN vs objs K else none
def qMg:Ctx:=mkC 28 ((qSO (qSF qI))) [(4,[1,3,4,5],[3])] qr7
theorem qdO:CtxOK Tryz.prog qMg:=mkC_ok ((qdZ _ (qdA _ qL)))
def qSM (f:Nat) (x0 x1:Nat) (x2:Int) (x3 x4:LI) (x5:Int) (x6:Nat) (x7:LL) (x8:Nat) (x9:LL):Option (Nat×Nat×LL):=qf qMg 0 [1,3,4,5] [3] (qE Tryz.f18 4) f ([.s (.ptr 0 0 none 0),.s (.sl 1 0 x0 true),.s (.sl 2 0 x1 true),.s (.i .i64 x2)]) ([.cells 28 [.arr .i8 81 x3,.arr .i8 16 x4,.one [.i .i8 x5]],.sli 37 false (.rows [.i .i64,.i .i64,.i .i64,.b] x6 x7),.sli 37 false (.rows [.i .i64,.i .i64,.i .i64,.b] x8 x9)]) qSL
theorem qr6 (f:Nat) (x0 x1:Nat) (x2:Int) (x3 x4:LI) (x5:Int) (x6:Nat) (x7:LL) (x8:Nat) (x9:LL):qSM (f+1) x0 x1 x2 x3 x4 x5 x6 x7 x8 x9=qIO (qSM f) x0 x1 x2 x3 x4 x5 x6 x7 x8 x9:=by kernel_rfl
theorem qdQ:∀ f,qSM f=qFs f
 | 0=>rfl
 | f+1=>by funext x0 x1 x2 x3 x4 x5 x6 x7 x8 x9;rw[qr6,qdQ f];rfl
theorem qr9:qY Tryz.prog qMg 0 (qE Tryz.f18 4):=
 qg mixed qdO (qN.of (l':=[]) (by kernel_rfl) trivial) (q:=4) (kin:=[1,3,4,5]) (kout:=[3]) (by kernel_rfl) (by kernel_rfl) fun vs objs K r h=>by
  replace h:qSN vs objs K=some r:=h
  unfold qSN at h
  split at h
  ·skip
   obtain⟨t,h1,h2⟩:=qD h
   rw[<- qdQ] at h1
   refine⟨_,qSL,t,qB,h1,fun e vs' objs' hd=>?_⟩
   unfold qSL at hd;split at hd;(cases hd;exact h2);cases hd
  ·cases h
def qdP:V->List Obj->Option (Nat×Nat×LL):=fun v objs=>match v,objs with
 | .s (.sl 0 0 y0 true),[.sli 37 false (.rows [.i .i64,.i .i64,.i .i64,.b] y1 y2)]=>some (y0,y1,y2)
 | _,_=>none
theorem qr5 (x0 x1:LI) (x2:Int):fnE qMg Tryz.f18 ([.agg [.arr .i8 81 x0,.arr .i8 16 x1,.one [.i .i8 x2]]]) ([]) qdP=qJv x0 x1 x2:=by kernel_rfl
def qdN:HA:=fun o vs objs K=>match vs,objs with
 | [.agg [.arr .i8 81 x0,.arr .i8 16 x1,.one [.i .i8 x2]]],[]=>ob (qJv x0 x1 x2) fun z=>K false (.s (.sl 0 0 (z.1) true)) ([.sli 37 false (.rows [.i .i64,.i .i64,.i .i64,.b] (z.2.1) (z.2.2))])
 | _,_=>o 18 vs objs K
def qdR (o:Orc):Orc:=qK 18 (qdN o) o
theorem qr8:OQ Tryz.prog qdR:=fun _ ho=>qM ho fun vs objs K r h=>by
 unfold qdN at h
 split at h
 ·skip
  obtain⟨t,h1,h2⟩:=qD h
  refine q7 mixed qdO (fn:=Tryz.f18) (b:=(Tryz.f18).body.getD .skip) (by kernel_rfl) (by kernel_rfl) (by kernel_rfl) ((qr5 _ _ _).trans h1) (m:=0) rfl (qN.of (l':=[qE Tryz.f18 4]) (by kernel_rfl) ⟨qr9,trivial⟩) fun v objs' hd=>?_
  unfold qdP at hd;split at hd;(cases hd;exact h2);cases hd
 ·exact ho _ _ _ _ _ h
def qdo:Ctx:=mkC 7 ((qdR qI)) [] qU
theorem qsQ:CtxOK Tryz.prog qdo:=mkC_ok ((qr8 _ qL))
def qdp:V->List Obj->Option (Bool):=fun v objs=>match v,objs with
 | .s (.b y0),[]=>some (y0)
 | _,_=>none
theorem qsP (x0 x1:LI) (x2:Int):fnE qdo Tryz.f48 ([.agg [.arr .i8 81 x0,.arr .i8 16 x1,.one [.i .i8 x2]]]) ([]) qdp=qJx x0 x1 x2:=by kernel_rfl
def qdn:HA:=fun o vs objs K=>match vs,objs with
 | [.agg [.arr .i8 81 x0,.arr .i8 16 x1,.one [.i .i8 x2]]],[]=>ob (qJx x0 x1 x2) fun y0=>K false (.s (.b y0)) ([])
 | _,_=>o 48 vs objs K
def qdq (o:Orc):Orc:=qK 48 (qdn o) o
theorem qsR:OQ Tryz.prog qdq:=fun _ ho=>qM ho fun vs objs K r h=>by
 unfold qdn at h
 split at h
 ·skip
  obtain⟨t,h1,h2⟩:=qD h
  refine qX mixed qsQ ((qsP _ _ _).trans h1) (by kernel_rfl) fun v objs' hd=>?_
  unfold qdp at hd;split at hd;(cases hd;exact h2);cases hd
 ·exact ho _ _ _ _ _ h
def qdk:Ctx:=mkC 12 ((qdq (qIH qI))) [] qU
theorem qsN:CtxOK Tryz.prog qdk:=mkC_ok ((qsR _ (qJp _ qL)))
def qdl:V->List Obj->Option (Bool):=fun v objs=>match v,objs with
 | .s (.b y0),[]=>some (y0)
 | _,_=>none
theorem qsM (x0 x1:LI) (x2:Int):fnE qdk Tryz.f21 ([.agg [.arr .i8 81 x0,.arr .i8 16 x1,.one [.i .i8 x2]]]) ([]) qdl=qGj x0 x1 x2:=by kernel_rfl
def qdj:HA:=fun o vs objs K=>match vs,objs with
 | [.agg [.arr .i8 81 x0,.arr .i8 16 x1,.one [.i .i8 x2]]],[]=>ob (qGj x0 x1 x2) fun y0=>K false (.s (.b y0)) ([])
 | _,_=>o 21 vs objs K
def qdm (o:Orc):Orc:=qK 21 (qdj o) o
theorem qsO:OQ Tryz.prog qdm:=fun _ ho=>qM ho fun vs objs K r h=>by
 unfold qdj at h
 split at h
 ·skip
  obtain⟨t,h1,h2⟩:=qD h
  refine qX mixed qsN ((qsM _ _ _).trans h1) (by kernel_rfl) fun v objs' hd=>?_
  unfold qdl at hd;split at hd;(cases hd;exact h2);cases hd
 ·exact ho _ _ _ _ _ h
def qPl:Ex->List V->List Obj->Option ((Nat×Nat×Bool×Int×Int×Nat×LL)⊕(Nat×Nat×Int×Int×Nat×LL)):=fun e vs objs=>match e,vs,objs with
 | .ret,[.s (.sl 0 y0 y1 false),.s (.b y2),.s (.i .i64 y3),.s (.i .i64 y4)],[.sli 37 true (.rows [.i .i64,.i .i64,.i .i64,.b] y5 y6)]=>some (.inl (y0,y1,y2,y3,y4,y5,y6))
 | .exit 0,[.s (.sl 0 y0 y1 false),.s .bad,.s (.i .i64 y2),.s (.i .i64 y3)],[.sli 37 true (.rows [.i .i64,.i .i64,.i .i64,.b] y4 y5)]=>some (.inr (y0,y1,y2,y3,y4,y5))
 | _,_,_=>none
def qPn:HL:=fun vs objs K=>match vs,objs with
 | [.s (.sl 0 x0 x1 false),.s (.i .i64 x2),.s (.i .i64 x3),.s (.ptr 1 0 none 0),.s (.sl 0 x4 x5 false),.s (.i .i64 x6),.s (.i .i64 x7)],[.sli 37 true (.rows [.i .i64,.i .i64,.i .i64,.b] x8 x9),.cells 28 [.arr .i8 81 x10,.arr .i8 16 x11,.one [.i .i8 x12]]]=>ob (qDl qB x0 x1 x2 x3 x4 x5 x6 x7 x8 x9 x10 x11 x12) fun t0=>sw t0 (fun z=>K (.ret) ([.s (.sl 0 (z.1) (z.2.1) false),.s (.b (z.2.2.1)),.s (.i .i64 (z.2.2.2.1)),.s (.i .i64 (z.2.2.2.2.1))]) ([.sli 37 true (.rows [.i .i64,.i .i64,.i .i64,.b] (z.2.2.2.2.2.1) (z.2.2.2.2.2.2))])) (fun z=>K (.exit 0) ([.s (.sl 0 (z.1) (z.2.1) false),.s .bad,.s (.i .i64 (z.2.2.1)),.s (.i .i64 (z.2.2.2.1))]) ([.sli 37 true (.rows [.i .i64,.i .i64,.i .i64,.b] (z.2.2.2.2.1) (z.2.2.2.2.2))]))
 | _,_=>none
def qmB:{R:Type}->Nat->List V->List Obj->(Ex->List V->List Obj->Option R)->Option R:=fun q vs objs K=>bif Nat.beq q 11 then qPn vs objs K else none
def qLT:Ctx:=mkC 121 ((qdm (qIH (qMf (qdV (qcn (qYj (qYA qI)))))))) [(11,[1,5,6,8,48,49,50],[1,4,5,6])] qmB
theorem qPj:CtxOK Tryz.prog qLT:=mkC_ok ((qsO _ (qJp _ (qR6 _ (qsC _ (qrY _ (qmk _ (qmD _ qL))))))))
def qPm (f:Nat) (x0 x1:Nat) (x2 x3:Int) (x4 x5:Nat) (x6 x7:Int) (x8:Nat) (x9:LL) (x10 x11:LI) (x12:Int):Option ((Nat×Nat×Bool×Int×Int×Nat×LL)⊕(Nat×Nat×Int×Int×Nat×LL)):=qf qLT 1 [1,5,6,8,48,49,50] [1,4,5,6] (qE Tryz.f6 11) f ([.s (.sl 0 x0 x1 false),.s (.i .i64 x2),.s (.i .i64 x3),.s (.ptr 1 0 none 0),.s (.sl 0 x4 x5 false),.s (.i .i64 x6),.s (.i .i64 x7)]) ([.sli 37 true (.rows [.i .i64,.i .i64,.i .i64,.b] x8 x9),.cells 28 [.arr .i8 81 x10,.arr .i8 16 x11,.one [.i .i8 x12]]]) qPl
theorem qmA (f:Nat) (x0 x1:Nat) (x2 x3:Int) (x4 x5:Nat) (x6 x7:Int) (x8:Nat) (x9:LL) (x10 x11:LI) (x12:Int):qPm (f+1) x0 x1 x2 x3 x4 x5 x6 x7 x8 x9 x10 x11 x12=qLU (qPm f) x0 x1 x2 x3 x4 x5 x6 x7 x8 x9 x10 x11 x12:=by kernel_rfl
theorem qX4:∀ f,qPm f=qDl f
 | 0=>rfl
 | f+1=>by funext x0 x1 x2 x3 x4 x5 x6 x7 x8 x9 x10 x11 x12;rw[qmA,qX4 f];rfl
theorem qX5:qY Tryz.prog qLT 1 (qE Tryz.f6 11):=
 qg mixed qPj (qN.of (l':=[]) (by kernel_rfl) trivial) (q:=11) (kin:=[1,5,6,8,48,49,50]) (kout:=[1,4,5,6]) (by kernel_rfl) (by kernel_rfl) fun vs objs K r h=>by
  replace h:qPn vs objs K=some r:=h
  unfold qPn at h
  split at h
  ·skip
   obtain⟨t,h1,h2⟩:=qD h
   rw[<- qX4] at h1
   refine⟨_,qPl,t,qB,h1,fun e vs' objs' hd=>?_⟩
   unfold qPl at hd
   split at hd
   ·skip
    cases hd
    exact h2
   ·skip
    cases hd
    exact h2
   ·cases hd
  ·cases h
def qPk:V->List Obj->Option (Bool):=fun v objs=>match v,objs with
 | .s (.b y0),[]=>some (y0)
 | _,_=>none
theorem qX2 (x0 x1:LI) (x2:Int) (x3 x4 x5:Nat) (x6:LL):fnE qLT Tryz.f6 ([.agg [.arr .i8 81 x0,.arr .i8 16 x1,.one [.i .i8 x2]],.s (.sl 0 x3 x4 false)]) ([.sli 37 true (.rows [.i .i64,.i .i64,.i .i64,.b] x5 x6)]) (qAG 1 qPk)=qJR x0 x1 x2 x3 x4 x5 x6:=by kernel_rfl
def qX3:HA:=fun o vs objs K=>match vs,List.map Obj.toRO objs with
 | [.agg [.arr .i8 81 x0,.arr .i8 16 x1,.one [.i .i8 x2]],.s (.sl 0 x3 x4 false)],[.sli 37 true (.rows [.i .i64,.i .i64,.i .i64,.b] x5 x6)]=>ob (qJR x0 x1 x2 x3 x4 x5 x6) fun y0=>K true (.s (.b y0)) ([])
 | _,_=>o 6 vs objs K
def qmC (o:Orc):Orc:=qK 6 (qX3 o) o
theorem ql9 {vs:List V} {objs:List Obj} (x0 x1:LI) (x2:Int) (x3 x4 x5:Nat) (x6:LL) {R:Type} {K:Bool->V->List Obj->Option R} {r:R} (hv:vs=[.agg [.arr .i8 81 x0,.arr .i8 16 x1,.one [.i .i8 x2]],.s (.sl 0 x3 x4 false)]) (ho:List.map Obj.toRO objs=[.sli 37 true (.rows [.i .i64,.i .i64,.i .i64,.b] x5 x6)]) (h:ob (qJR x0 x1 x2 x3 x4 x5 x6) (fun y0=>K true (.s (.b y0)) ([]))=some r):
  ∃ p v objs',K p v objs'=some r /\ qDR Tryz.prog 6 vs objs p v objs':=by
 subst hv
 obtain⟨t,h1,h2⟩:=qD h
 refine qAc mixed qPj (m:=1) (fn:=Tryz.f6) (b:=(Tryz.f6).body.getD .skip) (by kernel_rfl) (by kernel_rfl) (by kernel_rfl) ho (by kernel_rfl) (by kernel_rfl) (qN.of (l':=[qE Tryz.f6 11]) (by kernel_rfl) ⟨qX5,trivial⟩) ((qX2 _ _ _ _ _ _ _).trans h1) fun v objs' hd=>?_
 unfold qPk at hd;split at hd;(cases hd;exact h2);cases hd
theorem qv0:OQ Tryz.prog qmC:=fun _ ho=>qM ho fun vs objs K r h=>by
 unfold qX3 at h
 split at h
 ·skip
  have hq:List.map Obj.toRO objs=_:=(by rename_i hq;first | exact hq | assumption)
  obtain⟨t,h1,h2⟩:=qD h
  refine qAc mixed qPj (m:=1) (fn:=Tryz.f6) (b:=(Tryz.f6).body.getD .skip) (by kernel_rfl) (by kernel_rfl) (by kernel_rfl) hq (by kernel_rfl) (by kernel_rfl) (qN.of (l':=[qE Tryz.f6 11]) (by kernel_rfl) ⟨qX5,trivial⟩) ((qX2 _ _ _ _ _ _ _).trans h1) fun v objs' hd=>?_
  unfold qPk at hd;split at hd;(cases hd;exact h2);cases hd
 ·exact ho _ _ _ _ _ h
end
end Go.Kk.KkLN
