/- Printed by a tool of this project (KkGen): the program's functions come to the plain ones. -/
import Derived.Test.YtpppdecfohkkfaaGreatDoorKkLNd
namespace Go.Kk.KkLN
noncomputable section
open Go.Proofs Go.Kk.Pl
set_option maxRecDepth 100000
set_option maxHeartbeats 4000000
def qQt:Ex->List V->List Obj->Option (Nat×Nat×LI):=fun e vs objs=>match e,vs,objs with
 | .exit 0,[.s (.sl 0 0 y0 true)],[.sli 3 false (.arr .i64 y1 y2)]=>some (y0,y1,y2)
 | _,_,_=>none
def qQv:HL:=fun vs objs K=>match vs,objs with
 | [.s (.i .i64 x0),.s (.sl 0 0 x1 true),.s (.i .i64 x2),.s (.i .i64 x3)],[.sli 3 false (.arr .i64 x4 x5)]=>ob (qFZ qB x0 x1 x2 x3 x4 x5) fun z=>K (.exit 0) ([.s (.sl 0 0 (z.1) true)]) ([.sli 3 false (.arr .i64 (z.2.1) (z.2.2))])
 | _,_=>none
def qpU:{R:Type}->Nat->List V->List Obj->(Ex->List V->List Obj->Option R)->Option R:=fun q vs objs K=>bif Nat.beq q 6 then qQv vs objs K else none
def qL3:Ctx:=mkC 41 ((qbL (qQz qI))) [(6,[1,5,6,7],[5])] qpU
theorem qa2:CtxOK Tryz.prog qL3:=mkC_ok ((qpi _ (qbE _ qK)))
def qQu (f:Nat) (x0:Int) (x1:Nat) (x2 x3:Int) (x4:Nat) (x5:LI):Option (Nat×Nat×LI):=qe qL3 0 [1,5,6,7] [5] (qE Tryz.f117 6) f ([.s (.i .i64 x0),.s (.sl 0 0 x1 true),.s (.i .i64 x2),.s (.i .i64 x3)]) ([.sli 3 false (.arr .i64 x4 x5)]) qQt
theorem qpT (f:Nat) (x0:Int) (x1:Nat) (x2 x3:Int) (x4:Nat) (x5:LI):qQu (f+1) x0 x1 x2 x3 x4 x5=qHz (qQu f) x0 x1 x2 x3 x4 x5:=by kernel_rfl
theorem qa4:∀ f,qQu f=qFZ f
 | 0=>rfl
 | f+1=>by funext x0 x1 x2 x3 x4 x5; rw [qpT,qa4 f]; rfl
theorem qpW:qa Tryz.prog qL3 0 (qE Tryz.f117 6):=
 qg mixed qa2 (qM.of (l':=[]) (by kernel_rfl) trivial) (q:=6) (kin:=[1,5,6,7]) (kout:=[5]) (by kernel_rfl) (by kernel_rfl) fun vs objs K r h=>by
  replace h:qQv vs objs K=some r:=h
  unfold qQv at h
  split at h
  ·skip
   obtain ⟨t,h1,h2⟩:=qD h
   rw [<- qa4] at h1
   refine ⟨_,qQt,t,qB,h1,fun e vs' objs' hd=>?_⟩
   unfold qQt at hd;split at hd;(cases hd;exact h2);cases hd
  ·cases h
def qa3:V->List Obj->Option (Nat×Nat×LI):=fun v objs=>match v,objs with
 | .s (.sl 0 0 y0 true),[.sli 3 false (.arr .i64 y1 y2)]=>some (y0,y1,y2)
 | _,_=>none
theorem qpS (x0 x1:Int):fnE qL3 Tryz.f117 ([.s (.i .i64 x0),.s (.i .i64 x1)]) ([]) qa3=qJT x0 x1:=by kernel_rfl
def qa1:HA:=fun o vs objs K=>match vs,objs with
 | [.s (.i .i64 x0),.s (.i .i64 x1)],[]=>ob (qJT x0 x1) fun z=>K false (.s (.sl 0 0 (z.1) true)) ([.sli 3 false (.arr .i64 (z.2.1) (z.2.2))])
 | _,_=>o 117 vs objs K
def qa5 (o:Orc):Orc:=qJ 117 (qa1 o) o
theorem qpV:OQ Tryz.prog qa5:=fun _ ho=>qL ho fun vs objs K r h=>by
 unfold qa1 at h
 split at h
 ·skip
  obtain ⟨t,h1,h2⟩:=qD h
  refine q7 mixed qa2 (fn:=Tryz.f117) (b:=(Tryz.f117).body.getD .skip) (by kernel_rfl) (by kernel_rfl) (by kernel_rfl) ((qpS _ _).trans h1) (m:=0) rfl (qM.of (l':=[qE Tryz.f117 6]) (by kernel_rfl) ⟨qpW,trivial⟩) fun v objs' hd=>?_
  unfold qa3 at hd;split at hd;(cases hd;exact h2);cases hd
 ·exact ho _ _ _ _ _ h
def qQw:Ex->List V->List Obj->Option ((Bool) ⊕ (Unit)):=fun e vs objs=>match e,vs,objs with
 | .ret,[.s (.b y0)],[]=>some (.inl (y0))
 | .exit 0,[.s .bad],[]=>some (.inr ())
 | _,_,_=>none
def qQy:HL:=fun vs objs K=>match vs,objs with
 | [.s (.ptr 0 0 none 0),.s (.sl 1 0 x0 true),.s (.i .i64 x1)],[.cells 87 [Seg.barr 81 x2],.sli 3 false (.arr .i64 x3 x4)]=>ob (qFa qB x0 x1 x2 x3 x4) fun t0=>sw t0 (fun y0=>K (.ret) ([.s (.b y0)]) ([])) (fun _=>K (.exit 0) ([.s .bad]) ([]))
 | _,_=>none
def qpZ:{R:Type}->Nat->List V->List Obj->(Ex->List V->List Obj->Option R)->Option R:=fun q vs objs K=>bif Nat.beq q 3 then qQy vs objs K else none
def qL4:Ctx:=mkC 24 ((qa5 qI)) [(3,[5,7,8],[6])] qpZ
theorem qa7:CtxOK Tryz.prog qL4:=mkC_ok ((qpV _ qK))
def qQx (f:Nat) (x0:Nat) (x1:Int) (x2:List Bool) (x3:Nat) (x4:LI):Option ((Bool) ⊕ (Unit)):=qe qL4 0 [5,7,8] [6] (qE Tryz.f89 3) f ([.s (.ptr 0 0 none 0),.s (.sl 1 0 x0 true),.s (.i .i64 x1)]) ([.cells 87 [Seg.barr 81 x2],.sli 3 false (.arr .i64 x3 x4)]) qQw
theorem qpY (f:Nat) (x0:Nat) (x1:Int) (x2:List Bool) (x3:Nat) (x4:LI):qQx (f+1) x0 x1 x2 x3 x4=qH0 (qQx f) x0 x1 x2 x3 x4:=by kernel_rfl
theorem qa9:∀ f,qQx f=qFa f
 | 0=>rfl
 | f+1=>by funext x0 x1 x2 x3 x4; rw [qpY,qa9 f]; rfl
theorem qpb:qa Tryz.prog qL4 0 (qE Tryz.f89 3):=
 qg mixed qa7 (qM.of (l':=[]) (by kernel_rfl) trivial) (q:=3) (kin:=[5,7,8]) (kout:=[6]) (by kernel_rfl) (by kernel_rfl) fun vs objs K r h=>by
  replace h:qQy vs objs K=some r:=h
  unfold qQy at h
  split at h
  ·skip
   obtain ⟨t,h1,h2⟩:=qD h
   rw [<- qa9] at h1
   refine ⟨_,qQw,t,qB,h1,fun e vs' objs' hd=>?_⟩
   unfold qQw at hd
   split at hd
   ·skip
    cases hd
    exact h2
   ·skip
    cases hd
    exact h2
   ·cases hd
  ·cases h
def qa8:V->List Obj->Option (Bool):=fun v objs=>match v,objs with
 | .s (.b y0),[]=>some (y0)
 | _,_=>none
theorem qpX (x0 x1:Int) (x2:List Bool):fnE qL4 Tryz.f89 ([.s (.i .i64 x0),.s (.i .i64 x1),.agg [Seg.barr 81 x2]]) ([]) qa8=qAq x0 x1 x2:=by kernel_rfl
def qa6:HA:=fun o vs objs K=>match vs,objs with
 | [.s (.i .i64 x0),.s (.i .i64 x1),.agg [Seg.barr 81 x2]],[]=>ob (qAq x0 x1 x2) fun y0=>K false (.s (.b y0)) ([])
 | _,_=>o 89 vs objs K
def qbA (o:Orc):Orc:=qJ 89 (qa6 o) o
theorem qpa:OQ Tryz.prog qbA:=fun _ ho=>qL ho fun vs objs K r h=>by
 unfold qa6 at h
 split at h
 ·skip
  obtain ⟨t,h1,h2⟩:=qD h
  refine q7 mixed qa7 (fn:=Tryz.f89) (b:=(Tryz.f89).body.getD .skip) (by kernel_rfl) (by kernel_rfl) (by kernel_rfl) ((qpX _ _ _).trans h1) (m:=0) rfl (qM.of (l':=[qE Tryz.f89 3]) (by kernel_rfl) ⟨qpb,trivial⟩) fun v objs' hd=>?_
  unfold qa8 at hd;split at hd;(cases hd;exact h2);cases hd
 ·exact ho _ _ _ _ _ h
def qbG:Ctx:=mkC 63 ((qbA (qDE (qFX (qQz (qaw qI)))))) [] qU
theorem qpf:CtxOK Tryz.prog qbG:=mkC_ok ((qpa _ (qDn _ (qGU _ (qbE _ (qpO _ qK))))))
def qbH:V->List Obj->Option (Bool):=fun v objs=>match v,objs with
 | .s (.b y0),[]=>some (y0)
 | _,_=>none
theorem qpe (x0 x1 x2:Int) (x3:List Bool):fnE qbG Tryz.f47 ([.s (.i .i64 x0),.s (.i .i64 x1),.s (.i .i64 x2),.agg [Seg.barr 81 x3]]) ([]) qbH=qFb x0 x1 x2 x3:=by kernel_rfl
def qbF:HA:=fun o vs objs K=>match vs,objs with
 | [.s (.i .i64 x0),.s (.i .i64 x1),.s (.i .i64 x2),.agg [Seg.barr 81 x3]],[]=>ob (qFb x0 x1 x2 x3) fun y0=>K false (.s (.b y0)) ([])
 | _,_=>o 47 vs objs K
def qL5 (o:Orc):Orc:=qJ 47 (qbF o) o
theorem qQ0:OQ Tryz.prog qL5:=fun _ ho=>qL ho fun vs objs K r h=>by
 unfold qbF at h
 split at h
 ·skip
  obtain ⟨t,h1,h2⟩:=qD h
  refine qX mixed qpf ((qpe _ _ _ _).trans h1) (by kernel_rfl) fun v objs' hd=>?_
  unfold qbH at hd;split at hd;(cases hd;exact h2);cases hd
 ·exact ho _ _ _ _ _ h
def qRX:Ex->List V->List Obj->Option ((Bool) ⊕ (Unit)):=fun e vs objs=>match e,vs,objs with
 | .ret,[.s (.b y0)],[]=>some (.inl (y0))
 | .exit 0,[.s .bad],[]=>some (.inr ())
 | _,_,_=>none
def qRa:HL:=fun vs objs K=>match vs,objs with
 | [.s (.i .i64 x0),.s (.ptr 0 0 none 0),.s (.ptr 1 0 none 0),.s (.i .i64 x1),.s (.i .i64 x2)],[.cells 28 [.arr .i8 81 x3,.arr .i8 16 x4,.one [.i .i8 x5]],.cells 87 [Seg.barr 81 x6]]=>ob (qFe qB x0 x1 x2 x3 x4 x5 x6) fun t0=>sw t0 (fun y0=>K (.ret) ([.s (.b y0)]) ([])) (fun _=>K (.exit 0) ([.s .bad]) ([]))
 | _,_=>none
def qqO:{R:Type}->Nat->List V->List Obj->(Ex->List V->List Obj->Option R)->Option R:=fun q vs objs K=>bif Nat.beq q 6 then qRa vs objs K else none
def qMC:Ctx:=mkC 39 ((qL5 (qFX (qb3 (qMA qI))))) [(6,[1,2,5,6,7],[4])] qqO
theorem qbw:CtxOK Tryz.prog qMC:=mkC_ok ((qQ0 _ (qGU _ (qqT _ (qRS _ qK)))))
def qRY (f:Nat) (x0 x1 x2:Int) (x3 x4:LI) (x5:Int) (x6:List Bool):Option ((Bool) ⊕ (Unit)):=qe qMC 0 [1,2,5,6,7] [4] (qE Tryz.f20 6) f ([.s (.i .i64 x0),.s (.ptr 0 0 none 0),.s (.ptr 1 0 none 0),.s (.i .i64 x1),.s (.i .i64 x2)]) ([.cells 28 [.arr .i8 81 x3,.arr .i8 16 x4,.one [.i .i8 x5]],.cells 87 [Seg.barr 81 x6]]) qRX
theorem qqN (f:Nat) (x0 x1 x2:Int) (x3 x4:LI) (x5:Int) (x6:List Bool):qRY (f+1) x0 x1 x2 x3 x4 x5 x6=qH5 (qRY f) x0 x1 x2 x3 x4 x5 x6:=by kernel_rfl
theorem qby:∀ f,qRY f=qFe f
 | 0=>rfl
 | f+1=>by funext x0 x1 x2 x3 x4 x5 x6; rw [qqN,qby f]; rfl
theorem qqP:qa Tryz.prog qMC 0 (qE Tryz.f20 6):=
 qg mixed qbw (qM.of (l':=[]) (by kernel_rfl) trivial) (q:=6) (kin:=[1,2,5,6,7]) (kout:=[4]) (by kernel_rfl) (by kernel_rfl) fun vs objs K r h=>by
  replace h:qRa vs objs K=some r:=h
  unfold qRa at h
  split at h
  ·skip
   obtain ⟨t,h1,h2⟩:=qD h
   rw [<- qby] at h1
   refine ⟨_,qRX,t,qB,h1,fun e vs' objs' hd=>?_⟩
   unfold qRX at hd
   split at hd
   ·skip
    cases hd
    exact h2
   ·skip
    cases hd
    exact h2
   ·cases hd
  ·cases h
def qbx:V->List Obj->Option (Bool):=fun v objs=>match v,objs with
 | .s (.b y0),[]=>some (y0)
 | _,_=>none
theorem qqM (x0 x1:LI) (x2 x3:Int):fnE qMC Tryz.f20 ([.agg [.arr .i8 81 x0,.arr .i8 16 x1,.one [.i .i8 x2]],.s (.i .i64 x3)]) ([]) qbx=qGW x0 x1 x2 x3:=by kernel_rfl
def qbv:HA:=fun o vs objs K=>match vs,objs with
 | [.agg [.arr .i8 81 x0,.arr .i8 16 x1,.one [.i .i8 x2]],.s (.i .i64 x3)],[]=>ob (qGW x0 x1 x2 x3) fun y0=>K false (.s (.b y0)) ([])
 | _,_=>o 20 vs objs K
def qMD (o:Orc):Orc:=qJ 20 (qbv o) o
theorem qRZ:OQ Tryz.prog qMD:=fun _ ho=>qL ho fun vs objs K r h=>by
 unfold qbv at h
 split at h
 ·skip
  obtain ⟨t,h1,h2⟩:=qD h
  refine q7 mixed qbw (fn:=Tryz.f20) (b:=(Tryz.f20).body.getD .skip) (by kernel_rfl) (by kernel_rfl) (by kernel_rfl) ((qqM _ _ _ _).trans h1) (m:=0) rfl (qM.of (l':=[qE Tryz.f20 6]) (by kernel_rfl) ⟨qqP,trivial⟩) fun v objs' hd=>?_
  unfold qbx at hd;split at hd;(cases hd;exact h2);cases hd
 ·exact ho _ _ _ _ _ h
def qbs:Ctx:=mkC 15 ((qMD (qbU qI))) [] qU
theorem qqK:CtxOK Tryz.prog qbs:=mkC_ok ((qRZ _ (qpr _ qK)))
def qbt:V->List Obj->Option (Int):=fun v objs=>match v,objs with
 | .s (.i .i64 y0),[]=>some (y0)
 | _,_=>none
theorem qqJ (x0 x1:LI) (x2:Int):fnE qbs Tryz.f10 ([.agg [.arr .i8 81 x0,.arr .i8 16 x1,.one [.i .i8 x2]]]) ([]) qbt=qJW x0 x1 x2:=by kernel_rfl
def qbr:HA:=fun o vs objs K=>match vs,objs with
 | [.agg [.arr .i8 81 x0,.arr .i8 16 x1,.one [.i .i8 x2]]],[]=>ob (qJW x0 x1 x2) fun y0=>K false (.s (.i .i64 y0)) ([])
 | _,_=>o 10 vs objs K
def qbu (o:Orc):Orc:=qJ 10 (qbr o) o
theorem qqL:OQ Tryz.prog qbu:=fun _ ho=>qL ho fun vs objs K r h=>by
 unfold qbr at h
 split at h
 ·skip
  obtain ⟨t,h1,h2⟩:=qD h
  refine qX mixed qqK ((qqJ _ _ _).trans h1) (by kernel_rfl) fun v objs' hd=>?_
  unfold qbt at hd;split at hd;(cases hd;exact h2);cases hd
 ·exact ho _ _ _ _ _ h
def qbo:Ctx:=mkC 44 (qI) [] qU
theorem qqH:CtxOK Tryz.prog qbo:=mkC_ok (qK)
def qbp:V->List Obj->Option (Int):=fun v objs=>match v,objs with
 | .s (.i .i64 y0),[]=>some (y0)
 | _,_=>none
theorem qqG (x0 x1 x2:Int) (x3:Bool):fnE qbo Tryz.f32 ([.agg [.one [.i .i64 x0,.i .i64 x1,.i .i64 x2,.b x3]]]) ([]) qbp=qJV x0 x1 x2 x3:=by kernel_rfl
def qbn:HA:=fun o vs objs K=>match vs,objs with
 | [.agg [.one [.i .i64 x0,.i .i64 x1,.i .i64 x2,.b x3]]],[]=>ob (qJV x0 x1 x2 x3) fun y0=>K false (.s (.i .i64 y0)) ([])
 | _,_=>o 32 vs objs K
def qbq (o:Orc):Orc:=qJ 32 (qbn o) o
theorem qqI:OQ Tryz.prog qbq:=fun _ ho=>qL ho fun vs objs K r h=>by
 unfold qbn at h
 split at h
 ·skip
  obtain ⟨t,h1,h2⟩:=qD h
  refine qX mixed qqH ((qqG _ _ _ _).trans h1) (by kernel_rfl) fun v objs' hd=>?_
  unfold qbp at hd;split at hd;(cases hd;exact h2);cases hd
 ·exact ho _ _ _ _ _ h
def qak:Ctx:=mkC 15 (qI) [] qU
theorem qpH:CtxOK Tryz.prog qak:=mkC_ok (qK)
def qal:V->List Obj->Option (Int):=fun v objs=>match v,objs with
 | .s (.i .i64 y0),[]=>some (y0)
 | _,_=>none
theorem qpG (x0:Int):fnE qak Tryz.f103 ([.s (.i .i64 x0)]) ([]) qal=qEV x0:=by kernel_rfl
def qaj:HA:=fun o vs objs K=>match vs,objs with
 | [.s (.i .i64 x0)],[]=>ob (qEV x0) fun y0=>K false (.s (.i .i64 y0)) ([])
 | _,_=>o 103 vs objs K
def qL1 (o:Orc):Orc:=qJ 103 (qaj o) o
theorem qQq:OQ Tryz.prog qL1:=fun _ ho=>qL ho fun vs objs K r h=>by
 unfold qaj at h
 split at h
 ·skip
  obtain ⟨t,h1,h2⟩:=qD h
  refine qX mixed qpH ((qpG _).trans h1) (by kernel_rfl) fun v objs' hd=>?_
  unfold qal at hd;split at hd;(cases hd;exact h2);cases hd
 ·exact ho _ _ _ _ _ h
def qb8:Ctx:=mkC 75 ((qL1 (qDE (qFX (qbq qI))))) [] qU
theorem qqY:CtxOK Tryz.prog qb8:=mkC_ok ((qQq _ (qDn _ (qGU _ (qqI _ qK)))))
def qb9:V->List Obj->Option (Bool):=fun v objs=>match v,objs with
 | .s (.b y0),[]=>some (y0)
 | _,_=>none
theorem qqX (x0 x1:LI) (x2 x3:Int) (x4 x5:Int) (x6:Bool):fnE qb8 Tryz.f68 ([.agg [.arr .i8 81 x0,.arr .i8 16 x1,.one [.i .i8 x2]],.agg [.one [.i .i64 x3,.i .i64 x4,.i .i64 x5,.b x6]]]) ([]) qb9=qJY x0 x1 x2 x3 x4 x5 x6:=by kernel_rfl
def qb7:HA:=fun o vs objs K=>match vs,objs with
 | [.agg [.arr .i8 81 x0,.arr .i8 16 x1,.one [.i .i8 x2]],.agg [.one [.i .i64 x3,.i .i64 x4,.i .i64 x5,.b x6]]],[]=>ob (qJY x0 x1 x2 x3 x4 x5 x6) fun y0=>K false (.s (.b y0)) ([])
 | _,_=>o 68 vs objs K
def qcA (o:Orc):Orc:=qJ 68 (qb7 o) o
theorem qqZ:OQ Tryz.prog qcA:=fun _ ho=>qL ho fun vs objs K r h=>by
 unfold qb7 at h
 split at h
 ·skip
  obtain ⟨t,h1,h2⟩:=qD h
  refine qX mixed qqY ((qqX _ _ _ _ _ _ _).trans h1) (by kernel_rfl) fun v objs' hd=>?_
  unfold qb9 at hd;split at hd;(cases hd;exact h2);cases hd
 ·exact ho _ _ _ _ _ h
def qcJ:Ctx:=mkC 35 ((qQs (qFX (qL1 (qDE qI))))) [] qU
theorem qqm:CtxOK Tryz.prog qcJ:=mkC_ok ((qas _ (qGU _ (qQq _ (qDn _ qK)))))
def qcK:V->List Obj->Option (Bool):=fun v objs=>match v,objs with
 | .s (.b y0),[]=>some (y0)
 | _,_=>none
theorem qql (x0 x1 x2:Int):fnE qcJ Tryz.f69 ([.s (.i .i64 x0),.s (.i .i64 x1),.s (.i .i64 x2)]) ([]) qcK=qJb x0 x1 x2:=by kernel_rfl
def qcI:HA:=fun o vs objs K=>match vs,objs with
 | [.s (.i .i64 x0),.s (.i .i64 x1),.s (.i .i64 x2)],[]=>ob (qJb x0 x1 x2) fun y0=>K false (.s (.b y0)) ([])
 | _,_=>o 69 vs objs K
def qcL (o:Orc):Orc:=qJ 69 (qcI o) o
theorem qqn:OQ Tryz.prog qcL:=fun _ ho=>qL ho fun vs objs K r h=>by
 unfold qcI at h
 split at h
 ·skip
  obtain ⟨t,h1,h2⟩:=qD h
  refine qX mixed qqm ((qql _ _ _).trans h1) (by kernel_rfl) fun v objs' hd=>?_
  unfold qcK at hd;split at hd;(cases hd;exact h2);cases hd
 ·exact ho _ _ _ _ _ h
def qcR:Ctx:=mkC 14 ((qL2 (qL1 (qDE qI)))) [] qU
theorem qqr:CtxOK Tryz.prog qcR:=mkC_ok ((qQr _ (qQq _ (qDn _ qK))))
def qcS:V->List Obj->Option (Bool):=fun v objs=>match v,objs with
 | .s (.b y0),[]=>some (y0)
 | _,_=>none
theorem qqq (x0 x1:Int):fnE qcR Tryz.f70 ([.s (.i .i64 x0),.s (.i .i64 x1)]) ([]) qcS=qJc x0 x1:=by kernel_rfl
def qcQ:HA:=fun o vs objs K=>match vs,objs with
 | [.s (.i .i64 x0),.s (.i .i64 x1)],[]=>ob (qJc x0 x1) fun y0=>K false (.s (.b y0)) ([])
 | _,_=>o 70 vs objs K
def qcT (o:Orc):Orc:=qJ 70 (qcQ o) o
theorem qqs:OQ Tryz.prog qcT:=fun _ ho=>qL ho fun vs objs K r h=>by
 unfold qcQ at h
 split at h
 ·skip
  obtain ⟨t,h1,h2⟩:=qD h
  refine qX mixed qqr ((qqq _ _).trans h1) (by kernel_rfl) fun v objs' hd=>?_
  unfold qcS at hd;split at hd;(cases hd;exact h2);cases hd
 ·exact ho _ _ _ _ _ h
def qcN:Ctx:=mkC 70 ((qcT (qcL (qL5 (qMA (qL8 (qL2 (qcA qI)))))))) [] qU
theorem qqp:CtxOK Tryz.prog qcN:=mkC_ok ((qqs _ (qqn _ (qQ0 _ (qRS _ (qRO _ (qQr _ (qqZ _ qK))))))))
def qcO:V->List Obj->Option (Bool):=fun v objs=>match v,objs with
 | .s (.b y0),[]=>some (y0)
 | _,_=>none
theorem qqo (x0 x1:LI) (x2 x3:Int) (x4 x5:Int) (x6:Bool):fnE qcN Tryz.f28 ([.agg [.arr .i8 81 x0,.arr .i8 16 x1,.one [.i .i8 x2]],.agg [.one [.i .i64 x3,.i .i64 x4,.i .i64 x5,.b x6]]]) ([]) qcO=qEY x0 x1 x2 x3 x4 x5 x6:=by kernel_rfl
def qcM:HA:=fun o vs objs K=>match vs,objs with
 | [.agg [.arr .i8 81 x0,.arr .i8 16 x1,.one [.i .i8 x2]],.agg [.one [.i .i64 x3,.i .i64 x4,.i .i64 x5,.b x6]]],[]=>ob (qEY x0 x1 x2 x3 x4 x5 x6) fun y0=>K false (.s (.b y0)) ([])
 | _,_=>o 28 vs objs K
def qRr (o:Orc):Orc:=qJ 28 (qcM o) o
theorem qcP:OQ Tryz.prog qRr:=fun _ ho=>qL ho fun vs objs K r h=>by
 unfold qcM at h
 split at h
 ·skip
  obtain ⟨t,h1,h2⟩:=qD h
  refine qX mixed qqp ((qqo _ _ _ _ _ _ _).trans h1) (by kernel_rfl) fun v objs' hd=>?_
  unfold qcO at hd;split at hd;(cases hd;exact h2);cases hd
 ·exact ho _ _ _ _ _ h
def qb5:Ctx:=mkC 82 ((qQp (qDE qI))) [] qU
theorem qqW:CtxOK Tryz.prog qb5:=mkC_ok ((qab _ (qDn _ qK)))
def qb6:V->List Obj->Option (LI×LI×Int):=fun v objs=>match v,objs with
 | .agg [.arr .i8 81 y0,.arr .i8 16 y1,.one [.i .i8 y2]],[]=>some (y0,y1,y2)
 | _,_=>none
theorem qqV (x0 x1:LI) (x2 x3:Int) (x4 x5:Int) (x6:Bool):fnE qb5 Tryz.f12 ([.agg [.arr .i8 81 x0,.arr .i8 16 x1,.one [.i .i8 x2]],.agg [.one [.i .i64 x3,.i .i64 x4,.i .i64 x5,.b x6]]]) ([]) qb6=qFg x0 x1 x2 x3 x4 x5 x6:=by kernel_rfl
def qb4:HA:=fun o vs objs K=>match vs,objs with
 | [.agg [.arr .i8 81 x0,.arr .i8 16 x1,.one [.i .i8 x2]],.agg [.one [.i .i64 x3,.i .i64 x4,.i .i64 x5,.b x6]]],[]=>ob (qFg x0 x1 x2 x3 x4 x5 x6) fun z=>K false (.agg [.arr .i8 81 (z.1),.arr .i8 16 (z.2.1),.one [.i .i8 (z.2.2)]]) ([])
 | _,_=>o 12 vs objs K
def qMF (o:Orc):Orc:=qJ 12 (qb4 o) o
theorem qRe:OQ Tryz.prog qMF:=fun _ ho=>qL ho fun vs objs K r h=>by
 unfold qb4 at h
 split at h
 ·skip
  obtain ⟨t,h1,h2⟩:=qD h
  refine qX mixed qqW ((qqV _ _ _ _ _ _ _).trans h1) (by kernel_rfl) fun v objs' hd=>?_
  unfold qb6 at hd;split at hd;(cases hd;exact h2);cases hd
 ·exact ho _ _ _ _ _ h
def qcd:Ctx:=mkC 13 ((qMD (qMF qI))) [] qU
theorem qq0:CtxOK Tryz.prog qcd:=mkC_ok ((qRZ _ (qRe _ qK)))
def qce:V->List Obj->Option (Bool):=fun v objs=>match v,objs with
 | .s (.b y0),[]=>some (y0)
 | _,_=>none
theorem qqz (x0 x1:LI) (x2 x3:Int) (x4 x5:Int) (x6:Bool):fnE qcd Tryz.f71 ([.agg [.arr .i8 81 x0,.arr .i8 16 x1,.one [.i .i8 x2]],.agg [.one [.i .i64 x3,.i .i64 x4,.i .i64 x5,.b x6]]]) ([]) qce=qID x0 x1 x2 x3 x4 x5 x6:=by kernel_rfl
def qcc:HA:=fun o vs objs K=>match vs,objs with
 | [.agg [.arr .i8 81 x0,.arr .i8 16 x1,.one [.i .i8 x2]],.agg [.one [.i .i64 x3,.i .i64 x4,.i .i64 x5,.b x6]]],[]=>ob (qID x0 x1 x2 x3 x4 x5 x6) fun y0=>K false (.s (.b y0)) ([])
 | _,_=>o 71 vs objs K
def qRs (o:Orc):Orc:=qJ 71 (qcc o) o
theorem qcf:OQ Tryz.prog qRs:=fun _ ho=>qL ho fun vs objs K r h=>by
 unfold qcc at h
 split at h
 ·skip
  obtain ⟨t,h1,h2⟩:=qD h
  refine qX mixed qq0 ((qqz _ _ _ _ _ _ _).trans h1) (by kernel_rfl) fun v objs' hd=>?_
  unfold qce at hd;split at hd;(cases hd;exact h2);cases hd
 ·exact ho _ _ _ _ _ h
def qRf:Ex->List V->List Obj->Option (Nat×Int×LI×LI×Int×Nat×LL×List Bool):=fun e vs objs=>match e,vs,objs with
 | .exit 2,[.s (.ptr 0 0 none 0),.s (.sl 1 0 y0 true),.s (.ptr 2 0 none 0),.s (.i .i64 y1)],[.cells 28 [.arr .i8 81 y2,.arr .i8 16 y3,.one [.i .i8 y4]],.sli 37 false (.rows [.i .i64,.i .i64,.i .i64,.b] y5 y6),.cells 87 [Seg.barr 81 y7]]=>some (y0,y1,y2,y3,y4,y5,y6,y7)
 | _,_,_=>none
def qRl:Ex->List V->List Obj->Option (Nat×LI×LI×Int×Nat×LL):=fun e vs objs=>match e,vs,objs with
 | .exit 0,[.s (.ptr 0 0 none 0),.s (.sl 1 0 y0 true)],[.cells 28 [.arr .i8 81 y1,.arr .i8 16 y2,.one [.i .i8 y3]],.sli 37 false (.rows [.i .i64,.i .i64,.i .i64,.b] y4 y5)]=>some (y0,y1,y2,y3,y4,y5)
 | _,_,_=>none
def qRj:Ex->List V->List Obj->Option (Nat×Int×LI×LI×Int×Nat×LL):=fun e vs objs=>match e,vs,objs with
 | .exit 6,[.s (.ptr 0 0 none 0),.s (.sl 1 0 y0 true),.s (.i .i64 y1)],[.cells 28 [.arr .i8 81 y2,.arr .i8 16 y3,.one [.i .i8 y4]],.sli 37 false (.rows [.i .i64,.i .i64,.i .i64,.b] y5 y6)]=>some (y0,y1,y2,y3,y4,y5,y6)
 | _,_,_=>none
def qRh:Ex->List V->List Obj->Option (Nat×Nat×LL):=fun e vs objs=>match e,vs,objs with
 | .exit 4,[.s (.sl 0 0 y0 true)],[.sli 37 false (.rows [.i .i64,.i .i64,.i .i64,.b] y1 y2)]=>some (y0,y1,y2)
 | _,_,_=>none
def qRn:HL:=fun vs objs K=>match vs,objs with
 | [.s (.ptr 0 0 none 0),.s (.sl 1 0 x0 true),.s (.ptr 2 0 none 0),.s (.i .i64 x1),.s (.i .i64 x2)],[.cells 28 [.arr .i8 81 x3,.arr .i8 16 x4,.one [.i .i8 x5]],.sli 37 false (.rows [.i .i64,.i .i64,.i .i64,.b] x6 x7),.cells 87 [Seg.barr 81 x8]]=>ob (qFh qB x0 x1 x2 x3 x4 x5 x6 x7 x8) fun z=>K (.exit 2) ([.s (.ptr 0 0 none 0),.s (.sl 1 0 (z.1) true),.s (.ptr 2 0 none 0),.s (.i .i64 (z.2.1))]) ([.cells 28 [.arr .i8 81 (z.2.2.1),.arr .i8 16 (z.2.2.2.1),.one [.i .i8 (z.2.2.2.2.1)]],.sli 37 false (.rows [.i .i64,.i .i64,.i .i64,.b] (z.2.2.2.2.2.1) (z.2.2.2.2.2.2.1)),.cells 87 [Seg.barr 81 (z.2.2.2.2.2.2.2)]])
 | _,_=>none
def qRq:HL:=fun vs objs K=>match vs,objs with
 | [.s (.ptr 0 0 none 0),.s (.sl 1 0 x0 true),.s (.ptr 2 0 none 0),.s (.i .i64 x1)],[.cells 28 [.arr .i8 81 x2,.arr .i8 16 x3,.one [.i .i8 x4]],.sli 37 false (.rows [.i .i64,.i .i64,.i .i64,.b] x5 x6),.cells 87 [Seg.barr 81 x7]]=>ob (qDz qB x0 x1 x2 x3 x4 x5 x6 x7) fun z=>K (.exit 0) ([.s (.ptr 0 0 none 0),.s (.sl 1 0 (z.1) true)]) ([.cells 28 [.arr .i8 81 (z.2.1),.arr .i8 16 (z.2.2.1),.one [.i .i8 (z.2.2.2.1)]],.sli 37 false (.rows [.i .i64,.i .i64,.i .i64,.b] (z.2.2.2.2.1) (z.2.2.2.2.2))])
 | _,_=>none
def qRp:HL:=fun vs objs K=>match vs,objs with
 | [.s (.ptr 0 0 none 0),.s (.sl 1 0 x0 true),.s (.i .i64 x1),.s (.i .i64 x2)],[.cells 28 [.arr .i8 81 x3,.arr .i8 16 x4,.one [.i .i8 x5]],.sli 37 false (.rows [.i .i64,.i .i64,.i .i64,.b] x6 x7)]=>ob (qFi qB x0 x1 x2 x3 x4 x5 x6 x7) fun z=>K (.exit 6) ([.s (.ptr 0 0 none 0),.s (.sl 1 0 (z.1) true),.s (.i .i64 (z.2.1))]) ([.cells 28 [.arr .i8 81 (z.2.2.1),.arr .i8 16 (z.2.2.2.1),.one [.i .i8 (z.2.2.2.2.1)]],.sli 37 false (.rows [.i .i64,.i .i64,.i .i64,.b] (z.2.2.2.2.2.1) (z.2.2.2.2.2.2))])
 | _,_=>none
def qRo:HL:=fun vs objs K=>match vs,objs with
 | [.s (.ptr 0 0 none 0),.s (.sl 1 0 x0 true),.s (.i .i64 x1)],[.cells 28 [.arr .i8 81 x2,.arr .i8 16 x3,.one [.i .i8 x4]],.sli 37 false (.rows [.i .i64,.i .i64,.i .i64,.b] x5 x6)]=>ob (qDy qB x0 x1 x2 x3 x4 x5 x6) fun z=>K (.exit 4) ([.s (.sl 0 0 (z.1) true)]) ([.sli 37 false (.rows [.i .i64,.i .i64,.i .i64,.b] (z.2.1) (z.2.2))])
 | _,_=>none
def qqf:{R:Type}->Nat->List V->List Obj->(Ex->List V->List Obj->Option R)->Option R:=fun q vs objs K=>bif Nat.beq q 10 then qRn vs objs K else bif Nat.beq q 6 then qRq vs objs K else bif Nat.beq q 23 then qRp vs objs K else bif Nat.beq q 20 then qRo vs objs K else none
def qDx:Ctx:=mkC 98 ((qRr (qL5 (qFX (qMA qI))))) [(6,[1,3,4,5],[1,3]),(10,[1,3,4,5,6],[1,3,4,5]),(20,[1,3,8],[3]),(23,[1,3,8,9],[1,3,8])] qqf
theorem qJa:CtxOK Tryz.prog qDx:=mkC_ok ((qcP _ (qQ0 _ (qGU _ (qRS _ qK)))))
def qRg (f:Nat) (x0:Nat) (x1 x2:Int) (x3 x4:LI) (x5:Int) (x6:Nat) (x7:LL) (x8:List Bool):Option (Nat×Int×LI×LI×Int×Nat×LL×List Bool):=qe qDx 0 [1,3,4,5,6] [1,3,4,5] (qE Tryz.f40 10) f ([.s (.ptr 0 0 none 0),.s (.sl 1 0 x0 true),.s (.ptr 2 0 none 0),.s (.i .i64 x1),.s (.i .i64 x2)]) ([.cells 28 [.arr .i8 81 x3,.arr .i8 16 x4,.one [.i .i8 x5]],.sli 37 false (.rows [.i .i64,.i .i64,.i .i64,.b] x6 x7),.cells 87 [Seg.barr 81 x8]]) qRf
theorem qqb (f:Nat) (x0:Nat) (x1 x2:Int) (x3 x4:LI) (x5:Int) (x6:Nat) (x7:LL) (x8:List Bool):qRg (f+1) x0 x1 x2 x3 x4 x5 x6 x7 x8=qH7 (qRg f) x0 x1 x2 x3 x4 x5 x6 x7 x8:=by kernel_rfl
theorem qcD:∀ f,qRg f=qFh f
 | 0=>rfl
 | f+1=>by funext x0 x1 x2 x3 x4 x5 x6 x7 x8; rw [qqb,qcD f]; rfl
def qRm (f:Nat) (x0:Nat) (x1:Int) (x2 x3:LI) (x4:Int) (x5:Nat) (x6:LL) (x7:List Bool):Option (Nat×LI×LI×Int×Nat×LL):=qe qDx 0 [1,3,4,5] [1,3] (qE Tryz.f40 6) f ([.s (.ptr 0 0 none 0),.s (.sl 1 0 x0 true),.s (.ptr 2 0 none 0),.s (.i .i64 x1)]) ([.cells 28 [.arr .i8 81 x2,.arr .i8 16 x3,.one [.i .i8 x4]],.sli 37 false (.rows [.i .i64,.i .i64,.i .i64,.b] x5 x6),.cells 87 [Seg.barr 81 x7]]) qRl
theorem qqe (f:Nat) (x0:Nat) (x1:Int) (x2 x3:LI) (x4:Int) (x5:Nat) (x6:LL) (x7:List Bool):qRm (f+1) x0 x1 x2 x3 x4 x5 x6 x7=qIA (qRm f) x0 x1 x2 x3 x4 x5 x6 x7:=by kernel_rfl
theorem qcG:∀ f,qRm f=qDz f
 | 0=>rfl
 | f+1=>by funext x0 x1 x2 x3 x4 x5 x6 x7; rw [qqe,qcG f]; rfl
def qRk (f:Nat) (x0:Nat) (x1 x2:Int) (x3 x4:LI) (x5:Int) (x6:Nat) (x7:LL):Option (Nat×Int×LI×LI×Int×Nat×LL):=qe qDx 0 [1,3,8,9] [1,3,8] (qE Tryz.f40 23) f ([.s (.ptr 0 0 none 0),.s (.sl 1 0 x0 true),.s (.i .i64 x1),.s (.i .i64 x2)]) ([.cells 28 [.arr .i8 81 x3,.arr .i8 16 x4,.one [.i .i8 x5]],.sli 37 false (.rows [.i .i64,.i .i64,.i .i64,.b] x6 x7)]) qRj
theorem qqd (f:Nat) (x0:Nat) (x1 x2:Int) (x3 x4:LI) (x5:Int) (x6:Nat) (x7:LL):qRk (f+1) x0 x1 x2 x3 x4 x5 x6 x7=qH9 (qRk f) x0 x1 x2 x3 x4 x5 x6 x7:=by kernel_rfl
theorem qcF:∀ f,qRk f=qFi f
 | 0=>rfl
 | f+1=>by funext x0 x1 x2 x3 x4 x5 x6 x7; rw [qqd,qcF f]; rfl
def qRi (f:Nat) (x0:Nat) (x1:Int) (x2 x3:LI) (x4:Int) (x5:Nat) (x6:LL):Option (Nat×Nat×LL):=qe qDx 0 [1,3,8] [3] (qE Tryz.f40 20) f ([.s (.ptr 0 0 none 0),.s (.sl 1 0 x0 true),.s (.i .i64 x1)]) ([.cells 28 [.arr .i8 81 x2,.arr .i8 16 x3,.one [.i .i8 x4]],.sli 37 false (.rows [.i .i64,.i .i64,.i .i64,.b] x5 x6)]) qRh
theorem qqc (f:Nat) (x0:Nat) (x1:Int) (x2 x3:LI) (x4:Int) (x5:Nat) (x6:LL):qRi (f+1) x0 x1 x2 x3 x4 x5 x6=qH8 (qRi f) x0 x1 x2 x3 x4 x5 x6:=by kernel_rfl
theorem qcE:∀ f,qRi f=qDy f
 | 0=>rfl
 | f+1=>by funext x0 x1 x2 x3 x4 x5 x6; rw [qqc,qcE f]; rfl
theorem qqh:qa Tryz.prog qDx 0 (qE Tryz.f40 10):=
 qg mixed qJa (qM.of (l':=[]) (by kernel_rfl) trivial) (q:=10) (kin:=[1,3,4,5,6]) (kout:=[1,3,4,5]) (by kernel_rfl) (by kernel_rfl) fun vs objs K r h=>by
  replace h:qRn vs objs K=some r:=h
  unfold qRn at h
  split at h
  ·skip
   obtain ⟨t,h1,h2⟩:=qD h
   rw [<- qcD] at h1
   refine ⟨_,qRf,t,qB,h1,fun e vs' objs' hd=>?_⟩
   unfold qRf at hd;split at hd;(cases hd;exact h2);cases hd
  ·cases h
theorem qqj:qa Tryz.prog qDx 0 (qE Tryz.f40 23):=
 qg mixed qJa (qM.of (l':=[]) (by kernel_rfl) trivial) (q:=23) (kin:=[1,3,8,9]) (kout:=[1,3,8]) (by kernel_rfl) (by kernel_rfl) fun vs objs K r h=>by
  replace h:qRp vs objs K=some r:=h
  unfold qRp at h
  split at h
  ·skip
   obtain ⟨t,h1,h2⟩:=qD h
   rw [<- qcF] at h1
   refine ⟨_,qRj,t,qB,h1,fun e vs' objs' hd=>?_⟩
   unfold qRj at hd;split at hd;(cases hd;exact h2);cases hd
  ·cases h
theorem qqk:qa Tryz.prog qDx 0 (qE Tryz.f40 6):=
 qg mixed qJa (qM.of (l':=[qE Tryz.f40 10]) (by kernel_rfl) ⟨qqh,trivial⟩) (q:=6) (kin:=[1,3,4,5]) (kout:=[1,3]) (by kernel_rfl) (by kernel_rfl) fun vs objs K r h=>by
  replace h:qRq vs objs K=some r:=h
  unfold qRq at h
  split at h
  ·skip
   obtain ⟨t,h1,h2⟩:=qD h
   rw [<- qcG] at h1
   refine ⟨_,qRl,t,qB,h1,fun e vs' objs' hd=>?_⟩
   unfold qRl at hd;split at hd;(cases hd;exact h2);cases hd
  ·cases h
theorem qqi:qa Tryz.prog qDx 0 (qE Tryz.f40 20):=
 qg mixed qJa (qM.of (l':=[qE Tryz.f40 23]) (by kernel_rfl) ⟨qqj,trivial⟩) (q:=20) (kin:=[1,3,8]) (kout:=[3]) (by kernel_rfl) (by kernel_rfl) fun vs objs K r h=>by
  replace h:qRo vs objs K=some r:=h
  unfold qRo at h
  split at h
  ·skip
   obtain ⟨t,h1,h2⟩:=qD h
   rw [<- qcE] at h1
   refine ⟨_,qRh,t,qB,h1,fun e vs' objs' hd=>?_⟩
   unfold qRh at hd;split at hd;(cases hd;exact h2);cases hd
  ·cases h
def qcC:V->List Obj->Option (Nat×Nat×LL):=fun v objs=>match v,objs with
 | .s (.sl 0 0 y0 true),[.sli 37 false (.rows [.i .i64,.i .i64,.i .i64,.b] y1 y2)]=>some (y0,y1,y2)
 | _,_=>none
theorem qqa (x0 x1:LI) (x2:Int):fnE qDx Tryz.f40 ([.agg [.arr .i8 81 x0,.arr .i8 16 x1,.one [.i .i8 x2]]]) ([]) qcC=qJZ x0 x1 x2:=by kernel_rfl
def qcB:HA:=fun o vs objs K=>match vs,objs with
 | [.agg [.arr .i8 81 x0,.arr .i8 16 x1,.one [.i .i8 x2]]],[]=>ob (qJZ x0 x1 x2) fun z=>K false (.s (.sl 0 0 (z.1) true)) ([.sli 37 false (.rows [.i .i64,.i .i64,.i .i64,.b] (z.2.1) (z.2.2))])
 | _,_=>o 40 vs objs K
def qcH (o:Orc):Orc:=qJ 40 (qcB o) o
theorem qqg:OQ Tryz.prog qcH:=fun _ ho=>qL ho fun vs objs K r h=>by
 unfold qcB at h
 split at h
 ·skip
  obtain ⟨t,h1,h2⟩:=qD h
  refine q7 mixed qJa (fn:=Tryz.f40) (b:=(Tryz.f40).body.getD .skip) (by kernel_rfl) (by kernel_rfl) (by kernel_rfl) ((qqa _ _ _).trans h1) (m:=0) rfl (qM.of (l':=[qE Tryz.f40 6,qE Tryz.f40 20]) (by kernel_rfl) ⟨qqk,qqi,trivial⟩) fun v objs' hd=>?_
  unfold qcC at hd;split at hd;(cases hd;exact h2);cases hd
 ·exact ho _ _ _ _ _ h
def qRt:Ex->List V->List Obj->Option ((Bool) ⊕ (Unit)):=fun e vs objs=>match e,vs,objs with
 | .ret,[.s (.b y0)],[]=>some (.inl (y0))
 | .exit 0,[.s .bad],[]=>some (.inr ())
 | _,_,_=>none
def qRv:HL:=fun vs objs K=>match vs,objs with
 | [.s (.ptr 0 0 none 0),.s (.sl 1 0 x0 true),.s (.i .i64 x1)],[.cells 28 [.arr .i8 81 x2,.arr .i8 16 x3,.one [.i .i8 x4]],.sli 37 false (.rows [.i .i64,.i .i64,.i .i64,.b] x5 x6)]=>ob (qFj qB x0 x1 x2 x3 x4 x5 x6) fun t0=>sw t0 (fun y0=>K (.ret) ([.s (.b y0)]) ([])) (fun _=>K (.exit 0) ([.s .bad]) ([]))
 | _,_=>none
def qq3:{R:Type}->Nat->List V->List Obj->(Ex->List V->List Obj->Option R)->Option R:=fun q vs objs K=>bif Nat.beq q 3 then qRv vs objs K else none
def qMG:Ctx:=mkC 19 ((qRs (qcH qI))) [(3,[1,3,4],[2])] qq3
theorem qch:CtxOK Tryz.prog qMG:=mkC_ok ((qcf _ (qqg _ qK)))
def qRu (f:Nat) (x0:Nat) (x1:Int) (x2 x3:LI) (x4:Int) (x5:Nat) (x6:LL):Option ((Bool) ⊕ (Unit)):=qe qMG 0 [1,3,4] [2] (qE Tryz.f72 3) f ([.s (.ptr 0 0 none 0),.s (.sl 1 0 x0 true),.s (.i .i64 x1)]) ([.cells 28 [.arr .i8 81 x2,.arr .i8 16 x3,.one [.i .i8 x4]],.sli 37 false (.rows [.i .i64,.i .i64,.i .i64,.b] x5 x6)]) qRt
theorem qq2 (f:Nat) (x0:Nat) (x1:Int) (x2 x3:LI) (x4:Int) (x5:Nat) (x6:LL):qRu (f+1) x0 x1 x2 x3 x4 x5 x6=qIE (qRu f) x0 x1 x2 x3 x4 x5 x6:=by kernel_rfl
theorem qcj:∀ f,qRu f=qFj f
 | 0=>rfl
 | f+1=>by funext x0 x1 x2 x3 x4 x5 x6; rw [qq2,qcj f]; rfl
theorem qq5:qa Tryz.prog qMG 0 (qE Tryz.f72 3):=
 qg mixed qch (qM.of (l':=[]) (by kernel_rfl) trivial) (q:=3) (kin:=[1,3,4]) (kout:=[2]) (by kernel_rfl) (by kernel_rfl) fun vs objs K r h=>by
  replace h:qRv vs objs K=some r:=h
  unfold qRv at h
  split at h
  ·skip
   obtain ⟨t,h1,h2⟩:=qD h
   rw [<- qcj] at h1
   refine ⟨_,qRt,t,qB,h1,fun e vs' objs' hd=>?_⟩
   unfold qRt at hd
   split at hd
   ·skip
    cases hd
    exact h2
   ·skip
    cases hd
    exact h2
   ·cases hd
  ·cases h
def qci:V->List Obj->Option (Bool):=fun v objs=>match v,objs with
 | .s (.b y0),[]=>some (y0)
 | _,_=>none
theorem qq1 (x0 x1:LI) (x2:Int):fnE qMG Tryz.f72 ([.agg [.arr .i8 81 x0,.arr .i8 16 x1,.one [.i .i8 x2]]]) ([]) qci=qJd x0 x1 x2:=by kernel_rfl
def qcg:HA:=fun o vs objs K=>match vs,objs with
 | [.agg [.arr .i8 81 x0,.arr .i8 16 x1,.one [.i .i8 x2]]],[]=>ob (qJd x0 x1 x2) fun y0=>K false (.s (.b y0)) ([])
 | _,_=>o 72 vs objs K
def qck (o:Orc):Orc:=qJ 72 (qcg o) o
theorem qq4:OQ Tryz.prog qck:=fun _ ho=>qL ho fun vs objs K r h=>by
 unfold qcg at h
 split at h
 ·skip
  obtain ⟨t,h1,h2⟩:=qD h
  refine q7 mixed qch (fn:=Tryz.f72) (b:=(Tryz.f72).body.getD .skip) (by kernel_rfl) (by kernel_rfl) (by kernel_rfl) ((qq1 _ _ _).trans h1) (m:=0) rfl (qM.of (l':=[qE Tryz.f72 3]) (by kernel_rfl) ⟨qq5,trivial⟩) fun v objs' hd=>?_
  unfold qci at hd;split at hd;(cases hd;exact h2);cases hd
 ·exact ho _ _ _ _ _ h
def qcZ:Ctx:=mkC 27 ((qck (qMD (qMF (qRs qI))))) [] qU
theorem qqx:CtxOK Tryz.prog qcZ:=mkC_ok ((qq4 _ (qRZ _ (qRe _ (qcf _ qK)))))
def qca:V->List Obj->Option (Bool):=fun v objs=>match v,objs with
 | .s (.b y0),[]=>some (y0)
 | _,_=>none
theorem qqw (x0 x1:LI) (x2 x3:Int) (x4 x5:Int) (x6:Bool):fnE qcZ Tryz.f29 ([.agg [.arr .i8 81 x0,.arr .i8 16 x1,.one [.i .i8 x2]],.agg [.one [.i .i64 x3,.i .i64 x4,.i .i64 x5,.b x6]]]) ([]) qca=qIC x0 x1 x2 x3 x4 x5 x6:=by kernel_rfl
def qcY:HA:=fun o vs objs K=>match vs,objs with
 | [.agg [.arr .i8 81 x0,.arr .i8 16 x1,.one [.i .i8 x2]],.agg [.one [.i .i64 x3,.i .i64 x4,.i .i64 x5,.b x6]]],[]=>ob (qIC x0 x1 x2 x3 x4 x5 x6) fun y0=>K false (.s (.b y0)) ([])
 | _,_=>o 29 vs objs K
def qcb (o:Orc):Orc:=qJ 29 (qcY o) o
theorem qqy:OQ Tryz.prog qcb:=fun _ ho=>qL ho fun vs objs K r h=>by
 unfold qcY at h
 split at h
 ·skip
  obtain ⟨t,h1,h2⟩:=qD h
  refine qX mixed qqx ((qqw _ _ _ _ _ _ _).trans h1) (by kernel_rfl) fun v objs' hd=>?_
  unfold qca at hd;split at hd;(cases hd;exact h2);cases hd
 ·exact ho _ _ _ _ _ h
def qcV:Ctx:=mkC 13 ((qcb (qRr qI))) [] qU
theorem qqu:CtxOK Tryz.prog qcV:=mkC_ok ((qqy _ (qcP _ qK)))
def qcW:V->List Obj->Option (Bool):=fun v objs=>match v,objs with
 | .s (.b y0),[]=>some (y0)
 | _,_=>none
theorem qqt (x0 x1:LI) (x2 x3:Int) (x4 x5:Int) (x6:Bool):fnE qcV Tryz.f11 ([.agg [.arr .i8 81 x0,.arr .i8 16 x1,.one [.i .i8 x2]],.agg [.one [.i .i64 x3,.i .i64 x4,.i .i64 x5,.b x6]]]) ([]) qcW=qIB x0 x1 x2 x3 x4 x5 x6:=by kernel_rfl
def qcU:HA:=fun o vs objs K=>match vs,objs with
 | [.agg [.arr .i8 81 x0,.arr .i8 16 x1,.one [.i .i8 x2]],.agg [.one [.i .i64 x3,.i .i64 x4,.i .i64 x5,.b x6]]],[]=>ob (qIB x0 x1 x2 x3 x4 x5 x6) fun y0=>K false (.s (.b y0)) ([])
 | _,_=>o 11 vs objs K
def qcX (o:Orc):Orc:=qJ 11 (qcU o) o
theorem qqv:OQ Tryz.prog qcX:=fun _ ho=>qL ho fun vs objs K r h=>by
 unfold qcU at h
 split at h
 ·skip
  obtain ⟨t,h1,h2⟩:=qD h
  refine qX mixed qqu ((qqt _ _ _ _ _ _ _).trans h1) (by kernel_rfl) fun v objs' hd=>?_
  unfold qcW at hd;split at hd;(cases hd;exact h2);cases hd
 ·exact ho _ _ _ _ _ h
def qPL:Ex->List V->List Obj->Option (Nat×Nat×Int×Int×Int×Nat×LL×LI×LI×Int×LI×LI×Int):=fun e vs objs=>match e,vs,objs with
 | .exit 0,[.s (.sl 0 y0 y1 false),.s (.i .i64 y2),.s (.ptr 1 0 none 0),.s (.i .i64 y3),.s (.ptr 2 0 none 0),.s (.i .i64 y4)],[.sli 37 true (.rows [.i .i64,.i .i64,.i .i64,.b] y5 y6),.cells 28 [.arr .i8 81 y7,.arr .i8 16 y8,.one [.i .i8 y9]],.cells 28 [.arr .i8 81 y10,.arr .i8 16 y11,.one [.i .i8 y12]]]=>some (y0,y1,y2,y3,y4,y5,y6,y7,y8,y9,y10,y11,y12)
 | _,_,_=>none
def qPN:HL:=fun vs objs K=>match vs,objs with
 | [.s (.sl 0 x0 x1 false),.s (.i .i64 x2),.s (.ptr 1 0 none 0),.s (.i .i64 x3),.s (.ptr 2 0 none 0),.s (.i .i64 x4)],[.sli 37 true (.rows [.i .i64,.i .i64,.i .i64,.b] x5 x6),.cells 28 [.arr .i8 81 x7,.arr .i8 16 x8,.one [.i .i8 x9]],.cells 28 [.arr .i8 81 x10,.arr .i8 16 x11,.one [.i .i8 x12]]]=>ob (qGG qB x0 x1 x2 x3 x4 x5 x6 x7 x8 x9 x10 x11 x12) fun z=>K (.exit 0) ([.s (.sl 0 (z.1) (z.2.1) false),.s (.i .i64 (z.2.2.1)),.s (.ptr 1 0 none 0),.s (.i .i64 (z.2.2.2.1)),.s (.ptr 2 0 none 0),.s (.i .i64 (z.2.2.2.2.1))]) ([.sli 37 true (.rows [.i .i64,.i .i64,.i .i64,.b] (z.2.2.2.2.2.1) (z.2.2.2.2.2.2.1)),.cells 28 [.arr .i8 81 (z.2.2.2.2.2.2.2.1),.arr .i8 16 (z.2.2.2.2.2.2.2.2.1),.one [.i .i8 (z.2.2.2.2.2.2.2.2.2.1)]],.cells 28 [.arr .i8 81 (z.2.2.2.2.2.2.2.2.2.2.1),.arr .i8 16 (z.2.2.2.2.2.2.2.2.2.2.2.1),.one [.i .i8 (z.2.2.2.2.2.2.2.2.2.2.2.2)]]])
 | _,_=>none
def qk9:{R:Type}->Nat->List V->List Obj->(Ex->List V->List Obj->Option R)->Option R:=fun q vs objs K=>bif Nat.beq q 10 then qPN vs objs K else none
def qK7:Ctx:=mkC 85 ((qMF (qcX (qbu (qYG (qXa qI)))))) [(10,[1,5,6,7,9,10],[1,5,6,7,9,10])] qk9
theorem qPJ:CtxOK Tryz.prog qK7:=mkC_ok ((qRe _ (qqv _ (qqL _ (qlp _ (qlB _ qK))))))
def qPM (f:Nat) (x0 x1:Nat) (x2 x3 x4:Int) (x5:Nat) (x6:LL) (x7 x8:LI) (x9:Int) (x10 x11:LI) (x12:Int):Option (Nat×Nat×Int×Int×Int×Nat×LL×LI×LI×Int×LI×LI×Int):=qe qK7 1 [1,5,6,7,9,10] [1,5,6,7,9,10] (qE Tryz.f3 10) f ([.s (.sl 0 x0 x1 false),.s (.i .i64 x2),.s (.ptr 1 0 none 0),.s (.i .i64 x3),.s (.ptr 2 0 none 0),.s (.i .i64 x4)]) ([.sli 37 true (.rows [.i .i64,.i .i64,.i .i64,.b] x5 x6),.cells 28 [.arr .i8 81 x7,.arr .i8 16 x8,.one [.i .i8 x9]],.cells 28 [.arr .i8 81 x10,.arr .i8 16 x11,.one [.i .i8 x12]]]) qPL
theorem qk8 (f:Nat) (x0 x1:Nat) (x2 x3 x4:Int) (x5:Nat) (x6:LL) (x7 x8:LI) (x9:Int) (x10 x11:LI) (x12:Int):qPM (f+1) x0 x1 x2 x3 x4 x5 x6 x7 x8 x9 x10 x11 x12=qK8 (qPM f) x0 x1 x2 x3 x4 x5 x6 x7 x8 x9 x10 x11 x12:=by kernel_rfl
theorem qXU:∀ f,qPM f=qGG f
 | 0=>rfl
 | f+1=>by funext x0 x1 x2 x3 x4 x5 x6 x7 x8 x9 x10 x11 x12; rw [qk8,qXU f]; rfl
theorem qXV:qa Tryz.prog qK7 1 (qE Tryz.f3 10):=
 qg mixed qPJ (qM.of (l':=[]) (by kernel_rfl) trivial) (q:=10) (kin:=[1,5,6,7,9,10]) (kout:=[1,5,6,7,9,10]) (by kernel_rfl) (by kernel_rfl) fun vs objs K r h=>by
  replace h:qPN vs objs K=some r:=h
  unfold qPN at h
  split at h
  ·skip
   obtain ⟨t,h1,h2⟩:=qD h
   rw [<- qXU] at h1
   refine ⟨_,qPL,t,qB,h1,fun e vs' objs' hd=>?_⟩
   unfold qPL at hd;split at hd;(cases hd;exact h2);cases hd
  ·cases h
def qPK:V->List Obj->Option (Bool):=fun v objs=>match v,objs with
 | .s (.b y0),[]=>some (y0)
 | _,_=>none
theorem qXS (x0 x1:LI) (x2:Int) (x3 x4 x5:Nat) (x6:LL):fnE qK7 Tryz.f3 ([.agg [.arr .i8 81 x0,.arr .i8 16 x1,.one [.i .i8 x2]],.s (.sl 0 x3 x4 false)]) ([.sli 37 true (.rows [.i .i64,.i .i64,.i .i64,.b] x5 x6)]) (qAK 1 qPK)=qJC x0 x1 x2 x3 x4 x5 x6:=by kernel_rfl
def qXT:HA:=fun o vs objs K=>match vs,List.map Obj.toRO objs with
 | [.agg [.arr .i8 81 x0,.arr .i8 16 x1,.one [.i .i8 x2]],.s (.sl 0 x3 x4 false)],[.sli 37 true (.rows [.i .i64,.i .i64,.i .i64,.b] x5 x6)]=>ob (qJC x0 x1 x2 x3 x4 x5 x6) fun y0=>K true (.s (.b y0)) ([])
 | _,_=>o 3 vs objs K
def qlA (o:Orc):Orc:=qJ 3 (qXT o) o
theorem qk7 {vs:List V} {objs:List Obj} (x0 x1:LI) (x2:Int) (x3 x4 x5:Nat) (x6:LL) {R:Type} {K:Bool->V->List Obj->Option R} {r:R} (hv:vs=[.agg [.arr .i8 81 x0,.arr .i8 16 x1,.one [.i .i8 x2]],.s (.sl 0 x3 x4 false)]) (ho:List.map Obj.toRO objs=[.sli 37 true (.rows [.i .i64,.i .i64,.i .i64,.b] x5 x6)]) (h:ob (qJC x0 x1 x2 x3 x4 x5 x6) (fun y0=>K true (.s (.b y0)) ([]))=some r):
  ∃ p v objs',K p v objs'=some r /\ qDO Tryz.prog 3 vs objs p v objs':=by
 subst hv
 obtain ⟨t,h1,h2⟩:=qD h
 refine qAc mixed qPJ (m:=1) (fn:=Tryz.f3) (b:=(Tryz.f3).body.getD .skip) (by kernel_rfl) (by kernel_rfl) (by kernel_rfl) ho (by kernel_rfl) (by kernel_rfl) (qM.of (l':=[qE Tryz.f3 10]) (by kernel_rfl) ⟨qXV,trivial⟩) ((qXS _ _ _ _ _ _ _).trans h1) fun v objs' hd=>?_
 unfold qPK at hd;split at hd;(cases hd;exact h2);cases hd
theorem qud:OQ Tryz.prog qlA:=fun _ ho=>qL ho fun vs objs K r h=>by
 unfold qXT at h
 split at h
 ·skip
  have hq:List.map Obj.toRO objs=_:=(by rename_i hq; first | exact hq | assumption)
  obtain ⟨t,h1,h2⟩:=qD h
  refine qAc mixed qPJ (m:=1) (fn:=Tryz.f3) (b:=(Tryz.f3).body.getD .skip) (by kernel_rfl) (by kernel_rfl) (by kernel_rfl) hq (by kernel_rfl) (by kernel_rfl) (qM.of (l':=[qE Tryz.f3 10]) (by kernel_rfl) ⟨qXV,trivial⟩) ((qXS _ _ _ _ _ _ _).trans h1) fun v objs' hd=>?_
  unfold qPK at hd;split at hd;(cases hd;exact h2);cases hd
 ·exact ho _ _ _ _ _ h
end
end Go.Kk.KkLN
