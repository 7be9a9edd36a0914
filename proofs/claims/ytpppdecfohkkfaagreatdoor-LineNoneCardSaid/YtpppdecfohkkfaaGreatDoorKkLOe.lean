/- Printed by a tool of this project (KkGen): the program's functions come to the plain ones. -/
import Derived.Test.YtpppdecfohkkfaaGreatDoorKkLOd
namespace Go.Kk.KkLO
noncomputable section
open Go.Proofs Go.Kk.Pl
set_option maxRecDepth 100000
set_option maxHeartbeats 4000000
def qQw:Ex->List V->List Obj->Option ((Bool)⊕(Unit)):=fun e vs objs=>match e,vs,objs with
 | .ret,[.s (.b y0)],[]=>some (.inl (y0))
 | .exit 0,[.s .bad],[]=>some (.inr ())
 | _,_,_=>none
def qQy:HL:=fun vs objs K=>match vs,objs with
 | [.s (.ptr 0 0 none 0),.s (.sl 1 0 x0 true),.s (.i .i64 x1)],[.cells 87 [Seg.barr 81 x2],.sli 3 false (.arr .i64 x3 x4)]=>ob (qFT qB x0 x1 x2 x3 x4) fun t0=>sw t0 (fun y0=>K (.ret) ([.s (.b y0)]) ([])) (fun _=>K (.exit 0) ([.s .bad]) ([]))
 | _,_=>none
def qpN:{R:Type}->Nat->List V->List Obj->(Ex->List V->List Obj->Option R)->Option R:=fun q vs objs K=>bif Nat.beq q 3 then qQy vs objs K else none
def qLv:Ctx:=mkC 24 ((qay qK)) [(3,[5,7,8],[6])] qpN
theorem qa0:CtxOK Tryz.prog qLv:=mkC_ok ((qpJ _ qM))
def qQx (f:Nat) (x0:Nat) (x1:Int) (x2:List Bool) (x3:Nat) (x4:LI):Option ((Bool)⊕(Unit)):=qg qLv 0 [5,7,8] [6] (qG Tryz.f89 3) f ([.s (.ptr 0 0 none 0),.s (.sl 1 0 x0 true),.s (.i .i64 x1)]) ([.cells 87 [Seg.barr 81 x2],.sli 3 false (.arr .i64 x3 x4)]) qQw
theorem qpM (f:Nat) (x0:Nat) (x1:Int) (x2:List Bool) (x3:Nat) (x4:LI):qQx (f+1) x0 x1 x2 x3 x4=qHt (qQx f) x0 x1 x2 x3 x4:=by kernel_rfl
theorem qa2:∀ f,qQx f=qFT f
 | 0=>rfl
 | f+1=>by funext x0 x1 x2 x3 x4;rw [qpM,qa2 f];rfl
theorem qpP:qe Tryz.prog qLv 0 (qG Tryz.f89 3):=
 qh mixed qa0 (qO.of (l':=[]) (by kernel_rfl) trivial) (q:=3) (kin:=[5,7,8]) (kout:=[6]) (by kernel_rfl) (by kernel_rfl) fun vs objs K r h=>by
  replace h:qQy vs objs K=some r:=h
  unfold qQy at h
  split at h
  ·skip
   obtain ⟨t,h1,h2⟩:=qE h
   rw [<- qa2] at h1
   refine ⟨_,qQw,t,qB,h1,fun e vs' objs' hd=>?_⟩
   unfold qQw at hd
   split at hd
   ·skip
    cases hd
    exact h2
   ·skip
    cases hd
    exact h2
   ·cases hd
  ·cases h
def qa1:V->List Obj->Option (Bool):=fun v objs=>match v,objs with
 | .s (.b y0),[]=>some (y0)
 | _,_=>none
theorem qpL (x0 x1:Int) (x2:List Bool):fnE qLv Tryz.f89 ([.s (.i .i64 x0),.s (.i .i64 x1),.agg [Seg.barr 81 x2]]) ([]) qa1=qAv x0 x1 x2:=by kernel_rfl
def qaz:HA:=fun o vs objs K=>match vs,objs with
 | [.s (.i .i64 x0),.s (.i .i64 x1),.agg [Seg.barr 81 x2]],[]=>ob (qAv x0 x1 x2) fun y0=>K false (.s (.b y0)) ([])
 | _,_=>o 89 vs objs K
def qa3 (o:Orc):Orc:=qL 89 (qaz o) o
theorem qpO:OQ Tryz.prog qa3:=fun _ ho=>qN ho fun vs objs K r h=>by
 unfold qaz at h
 split at h
 ·skip
  obtain ⟨t,h1,h2⟩:=qE h
  refine q8 mixed qa0 (fn:=Tryz.f89) (b:=(Tryz.f89).body.getD .skip) (by kernel_rfl) (by kernel_rfl) (by kernel_rfl) ((qpL _ _ _).trans h1) (m:=0) rfl (qO.of (l':=[qG Tryz.f89 3]) (by kernel_rfl) ⟨qpP,trivial⟩) fun v objs' hd=>?_
  unfold qa1 at hd;split at hd;(cases hd;exact h2);cases hd
 ·exact ho _ _ _ _ _ h
def qa9:Ctx:=mkC 63 ((qa3 (qGI (qJJ (qQz (qap qK)))))) [] qX
theorem qpT:CtxOK Tryz.prog qa9:=mkC_ok ((qpO _ (qHr _ (qLt _ (qa7 _ (qpC _ qM))))))
def qbA:V->List Obj->Option (Bool):=fun v objs=>match v,objs with
 | .s (.b y0),[]=>some (y0)
 | _,_=>none
theorem qpS (x0 x1 x2:Int) (x3:List Bool):fnE qa9 Tryz.f47 ([.s (.i .i64 x0),.s (.i .i64 x1),.s (.i .i64 x2),.agg [Seg.barr 81 x3]]) ([]) qbA=qHv x0 x1 x2 x3:=by kernel_rfl
def qa8:HA:=fun o vs objs K=>match vs,objs with
 | [.s (.i .i64 x0),.s (.i .i64 x1),.s (.i .i64 x2),.agg [Seg.barr 81 x3]],[]=>ob (qHv x0 x1 x2 x3) fun y0=>K false (.s (.b y0)) ([])
 | _,_=>o 47 vs objs K
def qbB (o:Orc):Orc:=qL 47 (qa8 o) o
theorem qpU:OQ Tryz.prog qbB:=fun _ ho=>qN ho fun vs objs K r h=>by
 unfold qa8 at h
 split at h
 ·skip
  obtain ⟨t,h1,h2⟩:=qE h
  refine qf mixed qpT ((qpS _ _ _ _).trans h1) (by kernel_rfl) fun v objs' hd=>?_
  unfold qbA at hd;split at hd;(cases hd;exact h2);cases hd
 ·exact ho _ _ _ _ _ h
def qRV:Ex->List V->List Obj->Option ((Bool)⊕(Unit)):=fun e vs objs=>match e,vs,objs with
 | .ret,[.s (.b y0)],[]=>some (.inl (y0))
 | .exit 0,[.s .bad],[]=>some (.inr ())
 | _,_,_=>none
def qRX:HL:=fun vs objs K=>match vs,objs with
 | [.s (.i .i64 x0),.s (.ptr 0 0 none 0),.s (.ptr 1 0 none 0),.s (.i .i64 x1),.s (.i .i64 x2)],[.cells 28 [.arr .i8 81 x3,.arr .i8 16 x4,.one [.i .i8 x5]],.cells 87 [Seg.barr 81 x6]]=>ob (qFW qB x0 x1 x2 x3 x4 x5 x6) fun t0=>sw t0 (fun y0=>K (.ret) ([.s (.b y0)]) ([])) (fun _=>K (.exit 0) ([.s .bad]) ([]))
 | _,_=>none
def qqK:{R:Type}->Nat->List V->List Obj->(Ex->List V->List Obj->Option R)->Option R:=fun q vs objs K=>bif Nat.beq q 6 then qRX vs objs K else none
def qL0:Ctx:=mkC 39 ((qbB (qJJ (qb8 (qbd qK))))) [(6,[1,2,5,6,7],[4])] qqK
theorem qb0:CtxOK Tryz.prog qL0:=mkC_ok ((qpU _ (qLt _ (qqQ _ (qpz _ qM)))))
def qRW (f:Nat) (x0 x1 x2:Int) (x3 x4:LI) (x5:Int) (x6:List Bool):Option ((Bool)⊕(Unit)):=qg qL0 0 [1,2,5,6,7] [4] (qG Tryz.f20 6) f ([.s (.i .i64 x0),.s (.ptr 0 0 none 0),.s (.ptr 1 0 none 0),.s (.i .i64 x1),.s (.i .i64 x2)]) ([.cells 28 [.arr .i8 81 x3,.arr .i8 16 x4,.one [.i .i8 x5]],.cells 87 [Seg.barr 81 x6]]) qRV
theorem qqJ (f:Nat) (x0 x1 x2:Int) (x3 x4:LI) (x5:Int) (x6:List Bool):qRW (f+1) x0 x1 x2 x3 x4 x5 x6=qH0 (qRW f) x0 x1 x2 x3 x4 x5 x6:=by kernel_rfl
theorem qb2:∀ f,qRW f=qFW f
 | 0=>rfl
 | f+1=>by funext x0 x1 x2 x3 x4 x5 x6;rw [qqJ,qb2 f];rfl
theorem qqM:qe Tryz.prog qL0 0 (qG Tryz.f20 6):=
 qh mixed qb0 (qO.of (l':=[]) (by kernel_rfl) trivial) (q:=6) (kin:=[1,2,5,6,7]) (kout:=[4]) (by kernel_rfl) (by kernel_rfl) fun vs objs K r h=>by
  replace h:qRX vs objs K=some r:=h
  unfold qRX at h
  split at h
  ·skip
   obtain ⟨t,h1,h2⟩:=qE h
   rw [<- qb2] at h1
   refine ⟨_,qRV,t,qB,h1,fun e vs' objs' hd=>?_⟩
   unfold qRV at hd
   split at hd
   ·skip
    cases hd
    exact h2
   ·skip
    cases hd
    exact h2
   ·cases hd
  ·cases h
def qb1:V->List Obj->Option (Bool):=fun v objs=>match v,objs with
 | .s (.b y0),[]=>some (y0)
 | _,_=>none
theorem qqI (x0 x1:LI) (x2 x3:Int):fnE qL0 Tryz.f20 ([.agg [.arr .i8 81 x0,.arr .i8 16 x1,.one [.i .i8 x2]],.s (.i .i64 x3)]) ([]) qb1=qJQ x0 x1 x2 x3:=by kernel_rfl
def qbz:HA:=fun o vs objs K=>match vs,objs with
 | [.agg [.arr .i8 81 x0,.arr .i8 16 x1,.one [.i .i8 x2]],.s (.i .i64 x3)],[]=>ob (qJQ x0 x1 x2 x3) fun y0=>K false (.s (.b y0)) ([])
 | _,_=>o 20 vs objs K
def qb3 (o:Orc):Orc:=qL 20 (qbz o) o
theorem qqL:OQ Tryz.prog qb3:=fun _ ho=>qN ho fun vs objs K r h=>by
 unfold qbz at h
 split at h
 ·skip
  obtain ⟨t,h1,h2⟩:=qE h
  refine q8 mixed qb0 (fn:=Tryz.f20) (b:=(Tryz.f20).body.getD .skip) (by kernel_rfl) (by kernel_rfl) (by kernel_rfl) ((qqI _ _ _ _).trans h1) (m:=0) rfl (qO.of (l':=[qG Tryz.f20 6]) (by kernel_rfl) ⟨qqM,trivial⟩) fun v objs' hd=>?_
  unfold qb1 at hd;split at hd;(cases hd;exact h2);cases hd
 ·exact ho _ _ _ _ _ h
def qbw:Ctx:=mkC 15 ((qb3 (qbO qK))) [] qX
theorem qqG:CtxOK Tryz.prog qbw:=mkC_ok ((qqL _ (qpg _ qM)))
def qbx:V->List Obj->Option (Int):=fun v objs=>match v,objs with
 | .s (.i .i64 y0),[]=>some (y0)
 | _,_=>none
theorem qqF (x0 x1:LI) (x2:Int):fnE qbw Tryz.f10 ([.agg [.arr .i8 81 x0,.arr .i8 16 x1,.one [.i .i8 x2]]]) ([]) qbx=qJP x0 x1 x2:=by kernel_rfl
def qbv:HA:=fun o vs objs K=>match vs,objs with
 | [.agg [.arr .i8 81 x0,.arr .i8 16 x1,.one [.i .i8 x2]]],[]=>ob (qJP x0 x1 x2) fun y0=>K false (.s (.i .i64 y0)) ([])
 | _,_=>o 10 vs objs K
def qby (o:Orc):Orc:=qL 10 (qbv o) o
theorem qqH:OQ Tryz.prog qby:=fun _ ho=>qN ho fun vs objs K r h=>by
 unfold qbv at h
 split at h
 ·skip
  obtain ⟨t,h1,h2⟩:=qE h
  refine qf mixed qqG ((qqF _ _ _).trans h1) (by kernel_rfl) fun v objs' hd=>?_
  unfold qbx at hd;split at hd;(cases hd;exact h2);cases hd
 ·exact ho _ _ _ _ _ h
def qPp:Ex->List V->List Obj->Option (Nat×Nat×LL):=fun e vs objs=>match e,vs,objs with
 | .exit 0,[.s (.sl 0 0 y0 true)],[.sli 9 false (.rows [CK.s] y1 y2)]=>some (y0,y1,y2)
 | _,_,_=>none
def qPr:HL:=fun vs objs K=>match vs,objs with
 | [.s (.sl 0 0 x0 true),.s S.nils,.s (.i .i64 x1),.s (.i .i64 x2)],[.sli 9 false (.rows [CK.s] x3 x4)]=>ob (qHZ qB x0 x1 x2 x3 x4) fun z=>K (.exit 0) ([.s (.sl 0 0 (z.1) true)]) ([.sli 9 false (.rows [CK.s] (z.2.1) (z.2.2))])
 | _,_=>none
def qlh:{R:Type}->Nat->List V->List Obj->(Ex->List V->List Obj->Option R)->Option R:=fun q vs objs K=>bif Nat.beq q 3 then qPr vs objs K else none
def qLA:Ctx:=mkC 20 ((qSd qK)) [(3,[3,6,7,8],[3])] qlh
theorem qX8:CtxOK Tryz.prog qLA:=mkC_ok ((qeE _ qM))
def qPq (f:Nat) (x0:Nat) (x1 x2:Int) (x3:Nat) (x4:LL):Option (Nat×Nat×LL):=qg qLA 0 [3,6,7,8] [3] (qG Tryz.f14 3) f ([.s (.sl 0 0 x0 true),.s S.nils,.s (.i .i64 x1),.s (.i .i64 x2)]) ([.sli 9 false (.rows [CK.s] x3 x4)]) qPp
theorem qlg (f:Nat) (x0:Nat) (x1 x2:Int) (x3:Nat) (x4:LL):qPq (f+1) x0 x1 x2 x3 x4=qYB (qPq f) x0 x1 x2 x3 x4:=by kernel_rfl
theorem qYA:∀ f,qPq f=qHZ f
 | 0=>rfl
 | f+1=>by funext x0 x1 x2 x3 x4;rw [qlg,qYA f];rfl
theorem qlj:qe Tryz.prog qLA 0 (qG Tryz.f14 3):=
 qh mixed qX8 (qO.of (l':=[]) (by kernel_rfl) trivial) (q:=3) (kin:=[3,6,7,8]) (kout:=[3]) (by kernel_rfl) (by kernel_rfl) fun vs objs K r h=>by
  replace h:qPr vs objs K=some r:=h
  unfold qPr at h
  split at h
  ·skip
   obtain ⟨t,h1,h2⟩:=qE h
   rw [<- qYA] at h1
   refine ⟨_,qPp,t,qB,h1,fun e vs' objs' hd=>?_⟩
   unfold qPp at hd;split at hd;(cases hd;exact h2);cases hd
  ·cases h
def qX9:V->List Obj->Option (ByteArray):=fun v objs=>match v,objs with
 | .s (.str y0),[]=>some (y0)
 | _,_=>none
theorem qlf:fnE qLA Tryz.f14 ([.s S.nils]) ([]) qX9=qI5  := by kernel_rfl
def qX7:HA:=fun o vs objs K=>match vs,objs with
 | [.s S.nils],[]=>ob (qI5 ) fun y0=>K false (.s (.str y0)) ([])
 | _,_=>o 14 vs objs K
def qYC (o:Orc):Orc:=qL 14 (qX7 o) o
theorem qli:OQ Tryz.prog qYC:=fun _ ho=>qN ho fun vs objs K r h=>by
 unfold qX7 at h
 split at h
 ·skip
  obtain ⟨t,h1,h2⟩:=qE h
  refine q8 mixed qX8 (fn:=Tryz.f14) (b:=(Tryz.f14).body.getD .skip) (by kernel_rfl) (by kernel_rfl) (by kernel_rfl) ((qlf).trans h1) (m:=0) rfl (qO.of (l':=[qG Tryz.f14 3]) (by kernel_rfl) ⟨qlj,trivial⟩) fun v objs' hd=>?_
  unfold qX9 at hd;split at hd;(cases hd;exact h2);cases hd
 ·exact ho _ _ _ _ _ h
def qPZ:Ex->List V->List Obj->Option (Unit):=fun e vs objs=>match e,vs,objs with
 | .exit 0,[.s S.nils,.s .bad,.s .bad],[]=>some ()
 | _,_,_=>none
def qPb:HL:=fun vs objs K=>match vs,objs with
 | [.s S.nils,.s (.ptr 0 0 none 0),.s (.i .i64 x0),.s (.i .i64 x1)],[.cells 28 [.arr .i8 81 x2,.arr .i8 16 x3,.one [.i .i8 x4]]]=>ob (qI2 qB x0 x1 x2 x3 x4) fun _=>K (.exit 0) ([.s S.nils,.s .bad,.s .bad]) ([])
 | _,_=>none
def qlN:{R:Type}->Nat->List V->List Obj->(Ex->List V->List Obj->Option R)->Option R:=fun q vs objs K=>bif Nat.beq q 2 then qPb vs objs K else none
def qK4:Ctx:=mkC 66 (qK) [(2,[1,2,11,12],[1,4,5])] qlN
theorem qXm:CtxOK Tryz.prog qK4:=mkC_ok (qM)
def qPa (f:Nat) (x0 x1:Int) (x2 x3:LI) (x4:Int):Option (Unit):=qg qK4 0 [1,2,11,12] [1,4,5] (qG Tryz.f19 2) f ([.s S.nils,.s (.ptr 0 0 none 0),.s (.i .i64 x0),.s (.i .i64 x1)]) ([.cells 28 [.arr .i8 81 x2,.arr .i8 16 x3,.one [.i .i8 x4]]]) qPZ
theorem qlM (f:Nat) (x0 x1:Int) (x2 x3:LI) (x4:Int):qPa (f+1) x0 x1 x2 x3 x4=qXp (qPa f) x0 x1 x2 x3 x4:=by kernel_rfl
theorem qXo:∀ f,qPa f=qI2 f
 | 0=>rfl
 | f+1=>by funext x0 x1 x2 x3 x4;rw [qlM,qXo f];rfl
theorem qlP:qe Tryz.prog qK4 0 (qG Tryz.f19 2):=
 qh mixed qXm (qO.of (l':=[]) (by kernel_rfl) trivial) (q:=2) (kin:=[1,2,11,12]) (kout:=[1,4,5]) (by kernel_rfl) (by kernel_rfl) fun vs objs K r h=>by
  replace h:qPb vs objs K=some r:=h
  unfold qPb at h
  split at h
  ·skip
   obtain ⟨t,h1,h2⟩:=qE h
   rw [<- qXo] at h1
   refine ⟨_,qPZ,t,qB,h1,fun e vs' objs' hd=>?_⟩
   unfold qPZ at hd;split at hd;(cases hd;exact h2);cases hd
  ·cases h
def qXn:V->List Obj->Option (Int×Int):=fun v objs=>match v,objs with
 | .tup [W.s (.i .i64 y0),W.s (.i .i64 y1)],[]=>some (y0,y1)
 | _,_=>none
theorem qlL (x0 x1:LI) (x2:Int):fnE qK4 Tryz.f19 ([.agg [.arr .i8 81 x0,.arr .i8 16 x1,.one [.i .i8 x2]],.s S.nils]) ([]) qXn=qI1 x0 x1 x2:=by kernel_rfl
def qXl:HA:=fun o vs objs K=>match vs,objs with
 | [.agg [.arr .i8 81 x0,.arr .i8 16 x1,.one [.i .i8 x2]],.s S.nils],[]=>ob (qI1 x0 x1 x2) fun z=>K false (.tup [W.s (.i .i64 (z.1)),W.s (.i .i64 (z.2))]) ([])
 | _,_=>o 19 vs objs K
def qXq (o:Orc):Orc:=qL 19 (qXl o) o
theorem qlO:OQ Tryz.prog qXq:=fun _ ho=>qN ho fun vs objs K r h=>by
 unfold qXl at h
 split at h
 ·skip
  obtain ⟨t,h1,h2⟩:=qE h
  refine q8 mixed qXm (fn:=Tryz.f19) (b:=(Tryz.f19).body.getD .skip) (by kernel_rfl) (by kernel_rfl) (by kernel_rfl) ((qlL _ _ _).trans h1) (m:=0) rfl (qO.of (l':=[qG Tryz.f19 2]) (by kernel_rfl) ⟨qlP,trivial⟩) fun v objs' hd=>?_
  unfold qXn at hd;split at hd;(cases hd;exact h2);cases hd
 ·exact ho _ _ _ _ _ h
def qbk:Ctx:=mkC 44 (qK) [] qX
theorem qp7:CtxOK Tryz.prog qbk:=mkC_ok (qM)
def qbl:V->List Obj->Option (Int):=fun v objs=>match v,objs with
 | .s (.i .i64 y0),[]=>some (y0)
 | _,_=>none
theorem qp6 (x0 x1 x2:Int) (x3:Bool):fnE qbk Tryz.f32 ([.agg [.one [.i .i64 x0,.i .i64 x1,.i .i64 x2,.b x3]]]) ([]) qbl=qGM x0 x1 x2 x3:=by kernel_rfl
def qbj:HA:=fun o vs objs K=>match vs,objs with
 | [.agg [.one [.i .i64 x0,.i .i64 x1,.i .i64 x2,.b x3]]],[]=>ob (qGM x0 x1 x2 x3) fun y0=>K false (.s (.i .i64 y0)) ([])
 | _,_=>o 32 vs objs K
def qbm (o:Orc):Orc:=qL 32 (qbj o) o
theorem qp8:OQ Tryz.prog qbm:=fun _ ho=>qN ho fun vs objs K r h=>by
 unfold qbj at h
 split at h
 ·skip
  obtain ⟨t,h1,h2⟩:=qE h
  refine qf mixed qp7 ((qp6 _ _ _ _).trans h1) (by kernel_rfl) fun v objs' hd=>?_
  unfold qbl at hd;split at hd;(cases hd;exact h2);cases hd
 ·exact ho _ _ _ _ _ h
def qbo:Ctx:=mkC 16 (qK) [] qX
theorem qqA:CtxOK Tryz.prog qbo:=mkC_ok (qM)
def qbp:V->List Obj->Option (ByteArray):=fun v objs=>match v,objs with
 | .s (.str y0),[]=>some (y0)
 | _,_=>none
theorem qp9 (x0:Int):fnE qbo Tryz.f33 ([.s (.i .i64 x0)]) ([]) qbp=qHz x0:=by kernel_rfl
def qbn:HA:=fun o vs objs K=>match vs,objs with
 | [.s (.i .i64 x0)],[]=>ob (qHz x0) fun y0=>K false (.s (.str y0)) ([])
 | _,_=>o 33 vs objs K
def qbq (o:Orc):Orc:=qL 33 (qbn o) o
theorem qqB:OQ Tryz.prog qbq:=fun _ ho=>qN ho fun vs objs K r h=>by
 unfold qbn at h
 split at h
 ·skip
  obtain ⟨t,h1,h2⟩:=qE h
  refine qf mixed qqA ((qp9 _).trans h1) (by kernel_rfl) fun v objs' hd=>?_
  unfold qbp at hd;split at hd;(cases hd;exact h2);cases hd
 ·exact ho _ _ _ _ _ h
def qbs:Ctx:=mkC 33 ((qbq (qbm qK))) [] qX
theorem qqD:CtxOK Tryz.prog qbs:=mkC_ok ((qqB _ (qp8 _ qM)))
def qbt:V->List Obj->Option (ByteArray):=fun v objs=>match v,objs with
 | .s (.str y0),[]=>some (y0)
 | _,_=>none
theorem qqC (x0 x1 x2:Int) (x3:Bool):fnE qbs Tryz.f13 ([.agg [.one [.i .i64 x0,.i .i64 x1,.i .i64 x2,.b x3]]]) ([]) qbt=qCX x0 x1 x2 x3:=by kernel_rfl
def qbr:HA:=fun o vs objs K=>match vs,objs with
 | [.agg [.one [.i .i64 x0,.i .i64 x1,.i .i64 x2,.b x3]]],[]=>ob (qCX x0 x1 x2 x3) fun y0=>K false (.s (.str y0)) ([])
 | _,_=>o 13 vs objs K
def qbu (o:Orc):Orc:=qL 13 (qbr o) o
theorem qqE:OQ Tryz.prog qbu:=fun _ ho=>qN ho fun vs objs K r h=>by
 unfold qbr at h
 split at h
 ·skip
  obtain ⟨t,h1,h2⟩:=qE h
  refine qf mixed qqD ((qqC _ _ _ _).trans h1) (by kernel_rfl) fun v objs' hd=>?_
  unfold qbt at hd;split at hd;(cases hd;exact h2);cases hd
 ·exact ho _ _ _ _ _ h
def qPD:Ex->List V->List Obj->Option ((Int×Bool×ByteArray×Nat×LL)⊕(Int×ByteArray×Nat×LL)):=fun e vs objs=>match e,vs,objs with
 | .ret,[.s (.i .i64 y0),.s (.b y1),.s (.str y2)],[.sli 37 true (.rows [.i .i64,.i .i64,.i .i64,.b] y3 y4)]=>some (.inl (y0,y1,y2,y3,y4))
 | .exit 0,[.s (.i .i64 y0),.s .bad,.s (.str y1)],[.sli 37 true (.rows [.i .i64,.i .i64,.i .i64,.b] y2 y3)]=>some (.inr (y0,y1,y2,y3))
 | _,_,_=>none
def qPF:HL:=fun vs objs K=>match vs,objs with
 | [.s (.i .i64 x0),.s (.str x1),.s (.sl 0 x2 x3 false),.s (.i .i64 x4),.s (.i .i64 x5)],[.sli 37 true (.rows [.i .i64,.i .i64,.i .i64,.b] x6 x7)]=>ob (qCq qB x0 x1 x2 x3 x4 x5 x6 x7) fun t0=>sw t0 (fun z=>K (.ret) ([.s (.i .i64 (z.1)),.s (.b (z.2.1)),.s (.str (z.2.2.1))]) ([.sli 37 true (.rows [.i .i64,.i .i64,.i .i64,.b] (z.2.2.2.1) (z.2.2.2.2))])) (fun z=>K (.exit 0) ([.s (.i .i64 (z.1)),.s .bad,.s (.str (z.2.1))]) ([.sli 37 true (.rows [.i .i64,.i .i64,.i .i64,.b] (z.2.2.1) (z.2.2.2))]))
 | _,_=>none
def qkj:{R:Type}->Nat->List V->List Obj->(Ex->List V->List Obj->Option R)->Option R:=fun q vs objs K=>bif Nat.beq q 13 then qPF vs objs K else none
def qKx:Ctx:=mkC 109 ((qPe (qbu (qXq (qYC (qby (qX0 (qXF qK)))))))) [(13,[2,12,67,68,69],[2,6,12])] qkj
theorem qPB:CtxOK Tryz.prog qKx:=mkC_ok ((qXv _ (qqE _ (qlO _ (qli _ (qqH _ (qlY _ (qkn _ qM))))))))
def qPE (f:Nat) (x0:Int) (x1:ByteArray) (x2 x3:Nat) (x4 x5:Int) (x6:Nat) (x7:LL):Option ((Int×Bool×ByteArray×Nat×LL)⊕(Int×ByteArray×Nat×LL)):=qg qKx 1 [2,12,67,68,69] [2,6,12] (qG Tryz.f7 13) f ([.s (.i .i64 x0),.s (.str x1),.s (.sl 0 x2 x3 false),.s (.i .i64 x4),.s (.i .i64 x5)]) ([.sli 37 true (.rows [.i .i64,.i .i64,.i .i64,.b] x6 x7)]) qPD
theorem qki (f:Nat) (x0:Int) (x1:ByteArray) (x2 x3:Nat) (x4 x5:Int) (x6:Nat) (x7:LL):qPE (f+1) x0 x1 x2 x3 x4 x5 x6 x7=qKy (qPE f) x0 x1 x2 x3 x4 x5 x6 x7:=by kernel_rfl
theorem qXA:∀ f,qPE f=qCq f
 | 0=>rfl
 | f+1=>by funext x0 x1 x2 x3 x4 x5 x6 x7;rw [qki,qXA f];rfl
theorem qXB:qe Tryz.prog qKx 1 (qG Tryz.f7 13):=
 qh mixed qPB (qO.of (l':=[]) (by kernel_rfl) trivial) (q:=13) (kin:=[2,12,67,68,69]) (kout:=[2,6,12]) (by kernel_rfl) (by kernel_rfl) fun vs objs K r h=>by
  replace h:qPF vs objs K=some r:=h
  unfold qPF at h
  split at h
  ·skip
   obtain ⟨t,h1,h2⟩:=qE h
   rw [<- qXA] at h1
   refine ⟨_,qPD,t,qB,h1,fun e vs' objs' hd=>?_⟩
   unfold qPD at hd
   split at hd
   ·skip
    cases hd
    exact h2
   ·skip
    cases hd
    exact h2
   ·cases hd
  ·cases h
def qPC:V->List Obj->Option (Bool):=fun v objs=>match v,objs with
 | .s (.b y0),[]=>some (y0)
 | _,_=>none
theorem qW8 (x0 x1:LI) (x2:Int) (x3 x4 x5:Nat) (x6:LL) (x7:Int):fnE qKx Tryz.f7 ([.agg [.arr .i8 81 x0,.arr .i8 16 x1,.one [.i .i8 x2]],.s (.sl 0 x3 x4 false),.s (.i .i64 x7)]) ([.sli 37 true (.rows [.i .i64,.i .i64,.i .i64,.b] x5 x6)]) (qAP 1 qPC)=qIy x0 x1 x2 x3 x4 x5 x6 x7:=by kernel_rfl
def qW9:HA:=fun o vs objs K=>match vs,List.map Obj.toRO objs with
 | [.agg [.arr .i8 81 x0,.arr .i8 16 x1,.one [.i .i8 x2]],.s (.sl 0 x3 x4 false),.s (.i .i64 x7)],[.sli 37 true (.rows [.i .i64,.i .i64,.i .i64,.b] x5 x6)]=>ob (qIy x0 x1 x2 x3 x4 x5 x6 x7) fun y0=>K true (.s (.b y0)) ([])
 | _,_=>o 7 vs objs K
def qkk (o:Orc):Orc:=qL 7 (qW9 o) o
theorem qkh {vs:List V} {objs:List Obj} (x0 x1:LI) (x2:Int) (x3 x4 x5:Nat) (x6:LL) (x7:Int) {R:Type} {K:Bool->V->List Obj->Option R} {r:R} (hv:vs=[.agg [.arr .i8 81 x0,.arr .i8 16 x1,.one [.i .i8 x2]],.s (.sl 0 x3 x4 false),.s (.i .i64 x7)]) (ho:List.map Obj.toRO objs=[.sli 37 true (.rows [.i .i64,.i .i64,.i .i64,.b] x5 x6)]) (h:ob (qIy x0 x1 x2 x3 x4 x5 x6 x7) (fun y0=>K true (.s (.b y0)) ([]))=some r):
  ∃ p v objs',K p v objs'=some r /\ qD8 Tryz.prog 7 vs objs p v objs':=by
 subst hv
 obtain ⟨t,h1,h2⟩:=qE h
 refine qAn mixed qPB (m:=1) (fn:=Tryz.f7) (b:=(Tryz.f7).body.getD .skip) (by kernel_rfl) (by kernel_rfl) (by kernel_rfl) ho (by kernel_rfl) (by kernel_rfl) (qO.of (l':=[qG Tryz.f7 13]) (by kernel_rfl) ⟨qXB,trivial⟩) ((qW8 _ _ _ _ _ _ _ _).trans h1) fun v objs' hd=>?_
 unfold qPC at hd;split at hd;(cases hd;exact h2);cases hd
theorem qt5:OQ Tryz.prog qkk:=fun _ ho=>qN ho fun vs objs K r h=>by
 unfold qW9 at h
 split at h
 ·skip
  have hq:List.map Obj.toRO objs=_:=(by rename_i hq;first | exact hq | assumption)
  obtain ⟨t,h1,h2⟩:=qE h
  refine qAn mixed qPB (m:=1) (fn:=Tryz.f7) (b:=(Tryz.f7).body.getD .skip) (by kernel_rfl) (by kernel_rfl) (by kernel_rfl) hq (by kernel_rfl) (by kernel_rfl) (qO.of (l':=[qG Tryz.f7 13]) (by kernel_rfl) ⟨qXB,trivial⟩) ((qW8 _ _ _ _ _ _ _ _).trans h1) fun v objs' hd=>?_
  unfold qPC at hd;split at hd;(cases hd;exact h2);cases hd
 ·exact ho _ _ _ _ _ h
end
end Go.Kk.KkLO
