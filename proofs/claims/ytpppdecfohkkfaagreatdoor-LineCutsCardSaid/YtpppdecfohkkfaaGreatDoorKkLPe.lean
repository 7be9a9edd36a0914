/- Printed by a tool of this project (KkGen): the program's functions come to the plain ones. -/
import Derived.Test.YtpppdecfohkkfaaGreatDoorKkLPd
namespace Go.Kk.KkLP
noncomputable section
open Go.Proofs Go.Kk.Pl
set_option maxRecDepth 100000
set_option maxHeartbeats 4000000
def qRc:Ex->List V->List Obj->Option ((Bool)⊕(Unit)):=fun e vs objs=>match e,vs,objs with
 | .ret,[.s (.b y0)],[]=>some (.inl (y0))
 | .exit 0,[.s .bad],[]=>some (.inr ())
 | _,_,_=>none
def qRf:HL:=fun vs objs K=>match vs,objs with
 | [.s (.i .i64 x0),.s (.ptr 0 0 none 0),.s (.ptr 1 0 none 0),.s (.i .i64 x1),.s (.i .i64 x2)],[.cells 28 [.arr .i8 81 x3,.arr .i8 16 x4,.one [.i .i8 x5]],.cells 87 [Seg.barr 81 x6]]=>ob (qFg qB x0 x1 x2 x3 x4 x5 x6) fun t0=>sw t0 (fun y0=>K (.ret) ([.s (.b y0)]) ([])) (fun _=>K (.exit 0) ([.s .bad]) ([]))
 | _,_=>none
def qqh:{R:Type}->Nat->List V->List Obj->(Ex->List V->List Obj->Option R)->Option R:=fun q vs objs K=>bif Nat.beq q 6 then qRf vs objs K else none
def qML:Ctx:=mkC 39 ((qME (qFZ (qcE (qMJ qI))))) [(6,[1,2,5,6,7],[4])] qqh
theorem qb7:CtxOK Tryz.prog qML:=mkC_ok ((qQ5 _ (qGZ _ (qqm _ (qRX _ qK)))))
def qRd (f:Nat) (x0 x1 x2:Int) (x3 x4:LI) (x5:Int) (x6:List Bool):Option ((Bool)⊕(Unit)):=qf qML 0 [1,2,5,6,7] [4] (qD Tryz.f20 6) f ([.s (.i .i64 x0),.s (.ptr 0 0 none 0),.s (.ptr 1 0 none 0),.s (.i .i64 x1),.s (.i .i64 x2)]) ([.cells 28 [.arr .i8 81 x3,.arr .i8 16 x4,.one [.i .i8 x5]],.cells 87 [Seg.barr 81 x6]]) qRc
theorem qqg (f:Nat) (x0 x1 x2:Int) (x3 x4:LI) (x5:Int) (x6:List Bool):qRd (f+1) x0 x1 x2 x3 x4 x5 x6=qIE (qRd f) x0 x1 x2 x3 x4 x5 x6:=by kernel_rfl
theorem qb9:∀ f,qRd f=qFg f
 | 0=>rfl
 | f+1=>by funext x0 x1 x2 x3 x4 x5 x6;rw[qqg,qb9 f];rfl
theorem qqi:qZ Tryz.prog qML 0 (qD Tryz.f20 6):=
 qg mixed qb7 (qM.of (l':=[]) (by kernel_rfl) trivial) (q:=6) (kin:=[1,2,5,6,7]) (kout:=[4]) (by kernel_rfl) (by kernel_rfl) fun vs objs K r h=>by
  replace h:qRf vs objs K=some r:=h
  unfold qRf at h
  split at h
  ·skip
   obtain⟨t,h1,h2⟩:=qE h
   rw[<- qb9] at h1
   refine⟨_,qRc,t,qB,h1,fun e vs' objs' hd=>?_⟩
   unfold qRc at hd
   split at hd
   ·skip
    cases hd
    exact h2
   ·skip
    cases hd
    exact h2
   ·cases hd
  ·cases h
def qb8:V->List Obj->Option (Bool):=fun v objs=>match v,objs with
 | .s (.b y0),[]=>some (y0)
 | _,_=>none
theorem qqf (x0 x1:LI) (x2 x3:Int):fnE qML Tryz.f20 ([.agg [.arr .i8 81 x0,.arr .i8 16 x1,.one [.i .i8 x2]],.s (.i .i64 x3)]) ([]) qb8=qGb x0 x1 x2 x3:=by kernel_rfl
def qb6:HA:=fun o vs objs K=>match vs,objs with
 | [.agg [.arr .i8 81 x0,.arr .i8 16 x1,.one [.i .i8 x2]],.s (.i .i64 x3)],[]=>ob (qGb x0 x1 x2 x3) fun y0=>K false (.s (.b y0)) ([])
 | _,_=>o 20 vs objs K
def qMM (o:Orc):Orc:=qJ 20 (qb6 o) o
theorem qRe:OQ Tryz.prog qMM:=fun _ ho=>qL ho fun vs objs K r h=>by
 unfold qb6 at h
 split at h
 ·skip
  obtain⟨t,h1,h2⟩:=qE h
  refine q7 mixed qb7 (fn:=Tryz.f20) (b:=(Tryz.f20).body.getD .skip) (by kernel_rfl) (by kernel_rfl) (by kernel_rfl) ((qqf _ _ _ _).trans h1) (m:=0) rfl (qM.of (l':=[qD Tryz.f20 6]) (by kernel_rfl) ⟨qqi,trivial⟩) fun v objs' hd=>?_
  unfold qb8 at hd;split at hd;(cases hd;exact h2);cases hd
 ·exact ho _ _ _ _ _ h
def qb3:Ctx:=mkC 15 ((qMM (qbf qI))) [] qU
theorem qqd:CtxOK Tryz.prog qb3:=mkC_ok ((qRe _ (qqA _ qK)))
def qb4:V->List Obj->Option (Int):=fun v objs=>match v,objs with
 | .s (.i .i64 y0),[]=>some (y0)
 | _,_=>none
theorem qqc (x0 x1:LI) (x2:Int):fnE qb3 Tryz.f10 ([.agg [.arr .i8 81 x0,.arr .i8 16 x1,.one [.i .i8 x2]]]) ([]) qb4=qJi x0 x1 x2:=by kernel_rfl
def qb2:HA:=fun o vs objs K=>match vs,objs with
 | [.agg [.arr .i8 81 x0,.arr .i8 16 x1,.one [.i .i8 x2]]],[]=>ob (qJi x0 x1 x2) fun y0=>K false (.s (.i .i64 y0)) ([])
 | _,_=>o 10 vs objs K
def qb5 (o:Orc):Orc:=qJ 10 (qb2 o) o
theorem qqe:OQ Tryz.prog qb5:=fun _ ho=>qL ho fun vs objs K r h=>by
 unfold qb2 at h
 split at h
 ·skip
  obtain⟨t,h1,h2⟩:=qE h
  refine qa mixed qqd ((qqc _ _ _).trans h1) (by kernel_rfl) fun v objs' hd=>?_
  unfold qb4 at hd;split at hd;(cases hd;exact h2);cases hd
 ·exact ho _ _ _ _ _ h
def qbz:Ctx:=mkC 44 (qI) [] qU
theorem qqa:CtxOK Tryz.prog qbz:=mkC_ok (qK)
def qb0:V->List Obj->Option (Int):=fun v objs=>match v,objs with
 | .s (.i .i64 y0),[]=>some (y0)
 | _,_=>none
theorem qqZ (x0 x1 x2:Int) (x3:Bool):fnE qbz Tryz.f32 ([.agg [.one [.i .i64 x0,.i .i64 x1,.i .i64 x2,.b x3]]]) ([]) qb0=qJh x0 x1 x2 x3:=by kernel_rfl
def qby:HA:=fun o vs objs K=>match vs,objs with
 | [.agg [.one [.i .i64 x0,.i .i64 x1,.i .i64 x2,.b x3]]],[]=>ob (qJh x0 x1 x2 x3) fun y0=>K false (.s (.i .i64 y0)) ([])
 | _,_=>o 32 vs objs K
def qb1 (o:Orc):Orc:=qJ 32 (qby o) o
theorem qqb:OQ Tryz.prog qb1:=fun _ ho=>qL ho fun vs objs K r h=>by
 unfold qby at h
 split at h
 ·skip
  obtain⟨t,h1,h2⟩:=qE h
  refine qa mixed qqa ((qqZ _ _ _ _).trans h1) (by kernel_rfl) fun v objs' hd=>?_
  unfold qb0 at hd;split at hd;(cases hd;exact h2);cases hd
 ·exact ho _ _ _ _ _ h
def qav:Ctx:=mkC 15 (qI) [] qU
theorem qpa:CtxOK Tryz.prog qav:=mkC_ok (qK)
def qaw:V->List Obj->Option (Int):=fun v objs=>match v,objs with
 | .s (.i .i64 y0),[]=>some (y0)
 | _,_=>none
theorem qpZ (x0:Int):fnE qav Tryz.f103 ([.s (.i .i64 x0)]) ([]) qaw=qEb x0:=by kernel_rfl
def qau:HA:=fun o vs objs K=>match vs,objs with
 | [.s (.i .i64 x0)],[]=>ob (qEb x0) fun y0=>K false (.s (.i .i64 y0)) ([])
 | _,_=>o 103 vs objs K
def qMA (o:Orc):Orc:=qJ 103 (qau o) o
theorem qQv:OQ Tryz.prog qMA:=fun _ ho=>qL ho fun vs objs K r h=>by
 unfold qau at h
 split at h
 ·skip
  obtain⟨t,h1,h2⟩:=qE h
  refine qa mixed qpa ((qpZ _).trans h1) (by kernel_rfl) fun v objs' hd=>?_
  unfold qaw at hd;split at hd;(cases hd;exact h2);cases hd
 ·exact ho _ _ _ _ _ h
def qcJ:Ctx:=mkC 75 ((qMA (qDI (qFZ (qb1 qI))))) [] qU
theorem qqr:CtxOK Tryz.prog qcJ:=mkC_ok ((qQv _ (qDt _ (qGZ _ (qqb _ qK)))))
def qcK:V->List Obj->Option (Bool):=fun v objs=>match v,objs with
 | .s (.b y0),[]=>some (y0)
 | _,_=>none
theorem qqq (x0 x1:LI) (x2 x3:Int) (x4 x5:Int) (x6:Bool):fnE qcJ Tryz.f68 ([.agg [.arr .i8 81 x0,.arr .i8 16 x1,.one [.i .i8 x2]],.agg [.one [.i .i64 x3,.i .i64 x4,.i .i64 x5,.b x6]]]) ([]) qcK=qJk x0 x1 x2 x3 x4 x5 x6:=by kernel_rfl
def qcI:HA:=fun o vs objs K=>match vs,objs with
 | [.agg [.arr .i8 81 x0,.arr .i8 16 x1,.one [.i .i8 x2]],.agg [.one [.i .i64 x3,.i .i64 x4,.i .i64 x5,.b x6]]],[]=>ob (qJk x0 x1 x2 x3 x4 x5 x6) fun y0=>K false (.s (.b y0)) ([])
 | _,_=>o 68 vs objs K
def qcL (o:Orc):Orc:=qJ 68 (qcI o) o
theorem qqs:OQ Tryz.prog qcL:=fun _ ho=>qL ho fun vs objs K r h=>by
 unfold qcI at h
 split at h
 ·skip
  obtain⟨t,h1,h2⟩:=qE h
  refine qa mixed qqr ((qqq _ _ _ _ _ _ _).trans h1) (by kernel_rfl) fun v objs' hd=>?_
  unfold qcK at hd;split at hd;(cases hd;exact h2);cases hd
 ·exact ho _ _ _ _ _ h
def qcU:Ctx:=mkC 35 ((qQx (qFZ (qMA (qDI qI))))) [] qU
theorem qq4:CtxOK Tryz.prog qcU:=mkC_ok ((qa3 _ (qGZ _ (qQv _ (qDt _ qK)))))
def qcV:V->List Obj->Option (Bool):=fun v objs=>match v,objs with
 | .s (.b y0),[]=>some (y0)
 | _,_=>none
theorem qq3 (x0 x1 x2:Int):fnE qcU Tryz.f69 ([.s (.i .i64 x0),.s (.i .i64 x1),.s (.i .i64 x2)]) ([]) qcV=qJm x0 x1 x2:=by kernel_rfl
def qcT:HA:=fun o vs objs K=>match vs,objs with
 | [.s (.i .i64 x0),.s (.i .i64 x1),.s (.i .i64 x2)],[]=>ob (qJm x0 x1 x2) fun y0=>K false (.s (.b y0)) ([])
 | _,_=>o 69 vs objs K
def qcW (o:Orc):Orc:=qJ 69 (qcT o) o
theorem qq5:OQ Tryz.prog qcW:=fun _ ho=>qL ho fun vs objs K r h=>by
 unfold qcT at h
 split at h
 ·skip
  obtain⟨t,h1,h2⟩:=qE h
  refine qa mixed qq4 ((qq3 _ _ _).trans h1) (by kernel_rfl) fun v objs' hd=>?_
  unfold qcV at hd;split at hd;(cases hd;exact h2);cases hd
 ·exact ho _ _ _ _ _ h
def qcc:Ctx:=mkC 14 ((qMB (qMA (qDI qI)))) [] qU
theorem qq9:CtxOK Tryz.prog qcc:=mkC_ok ((qQw _ (qQv _ (qDt _ qK))))
def qcd:V->List Obj->Option (Bool):=fun v objs=>match v,objs with
 | .s (.b y0),[]=>some (y0)
 | _,_=>none
theorem qq8 (x0 x1:Int):fnE qcc Tryz.f70 ([.s (.i .i64 x0),.s (.i .i64 x1)]) ([]) qcd=qJn x0 x1:=by kernel_rfl
def qcb:HA:=fun o vs objs K=>match vs,objs with
 | [.s (.i .i64 x0),.s (.i .i64 x1)],[]=>ob (qJn x0 x1) fun y0=>K false (.s (.b y0)) ([])
 | _,_=>o 70 vs objs K
def qce (o:Orc):Orc:=qJ 70 (qcb o) o
theorem qrA:OQ Tryz.prog qce:=fun _ ho=>qL ho fun vs objs K r h=>by
 unfold qcb at h
 split at h
 ·skip
  obtain⟨t,h1,h2⟩:=qE h
  refine qa mixed qq9 ((qq8 _ _).trans h1) (by kernel_rfl) fun v objs' hd=>?_
  unfold qcd at hd;split at hd;(cases hd;exact h2);cases hd
 ·exact ho _ _ _ _ _ h
def qcY:Ctx:=mkC 70 ((qce (qcW (qME (qMJ (qMH (qMB (qcL qI)))))))) [] qU
theorem qq7:CtxOK Tryz.prog qcY:=mkC_ok ((qrA _ (qq5 _ (qQ5 _ (qRX _ (qRT _ (qQw _ (qqs _ qK))))))))
def qcZ:V->List Obj->Option (Bool):=fun v objs=>match v,objs with
 | .s (.b y0),[]=>some (y0)
 | _,_=>none
theorem qq6 (x0 x1:LI) (x2 x3:Int) (x4 x5:Int) (x6:Bool):fnE qcY Tryz.f28 ([.agg [.arr .i8 81 x0,.arr .i8 16 x1,.one [.i .i8 x2]],.agg [.one [.i .i64 x3,.i .i64 x4,.i .i64 x5,.b x6]]]) ([]) qcZ=qEe x0 x1 x2 x3 x4 x5 x6:=by kernel_rfl
def qcX:HA:=fun o vs objs K=>match vs,objs with
 | [.agg [.arr .i8 81 x0,.arr .i8 16 x1,.one [.i .i8 x2]],.agg [.one [.i .i64 x3,.i .i64 x4,.i .i64 x5,.b x6]]],[]=>ob (qEe x0 x1 x2 x3 x4 x5 x6) fun y0=>K false (.s (.b y0)) ([])
 | _,_=>o 28 vs objs K
def qRx (o:Orc):Orc:=qJ 28 (qcX o) o
theorem qca:OQ Tryz.prog qRx:=fun _ ho=>qL ho fun vs objs K r h=>by
 unfold qcX at h
 split at h
 ·skip
  obtain⟨t,h1,h2⟩:=qE h
  refine qa mixed qq7 ((qq6 _ _ _ _ _ _ _).trans h1) (by kernel_rfl) fun v objs' hd=>?_
  unfold qcZ at hd;split at hd;(cases hd;exact h2);cases hd
 ·exact ho _ _ _ _ _ h
def qRk:Ex->List V->List Obj->Option (Nat×Int×LI×LI×Int×Nat×LL×List Bool):=fun e vs objs=>match e,vs,objs with
 | .exit 2,[.s (.ptr 0 0 none 0),.s (.sl 1 0 y0 true),.s (.ptr 2 0 none 0),.s (.i .i64 y1)],[.cells 28 [.arr .i8 81 y2,.arr .i8 16 y3,.one [.i .i8 y4]],.sli 37 false (.rows [.i .i64,.i .i64,.i .i64,.b] y5 y6),.cells 87 [Seg.barr 81 y7]]=>some (y0,y1,y2,y3,y4,y5,y6,y7)
 | _,_,_=>none
def qRq:Ex->List V->List Obj->Option (Nat×LI×LI×Int×Nat×LL):=fun e vs objs=>match e,vs,objs with
 | .exit 0,[.s (.ptr 0 0 none 0),.s (.sl 1 0 y0 true)],[.cells 28 [.arr .i8 81 y1,.arr .i8 16 y2,.one [.i .i8 y3]],.sli 37 false (.rows [.i .i64,.i .i64,.i .i64,.b] y4 y5)]=>some (y0,y1,y2,y3,y4,y5)
 | _,_,_=>none
def qRo:Ex->List V->List Obj->Option (Nat×Int×LI×LI×Int×Nat×LL):=fun e vs objs=>match e,vs,objs with
 | .exit 6,[.s (.ptr 0 0 none 0),.s (.sl 1 0 y0 true),.s (.i .i64 y1)],[.cells 28 [.arr .i8 81 y2,.arr .i8 16 y3,.one [.i .i8 y4]],.sli 37 false (.rows [.i .i64,.i .i64,.i .i64,.b] y5 y6)]=>some (y0,y1,y2,y3,y4,y5,y6)
 | _,_,_=>none
def qRm:Ex->List V->List Obj->Option (Nat×Nat×LL):=fun e vs objs=>match e,vs,objs with
 | .exit 4,[.s (.sl 0 0 y0 true)],[.sli 37 false (.rows [.i .i64,.i .i64,.i .i64,.b] y1 y2)]=>some (y0,y1,y2)
 | _,_,_=>none
def qRt:HL:=fun vs objs K=>match vs,objs with
 | [.s (.ptr 0 0 none 0),.s (.sl 1 0 x0 true),.s (.ptr 2 0 none 0),.s (.i .i64 x1),.s (.i .i64 x2)],[.cells 28 [.arr .i8 81 x3,.arr .i8 16 x4,.one [.i .i8 x5]],.sli 37 false (.rows [.i .i64,.i .i64,.i .i64,.b] x6 x7),.cells 87 [Seg.barr 81 x8]]=>ob (qFj qB x0 x1 x2 x3 x4 x5 x6 x7 x8) fun z=>K (.exit 2) ([.s (.ptr 0 0 none 0),.s (.sl 1 0 (z.1) true),.s (.ptr 2 0 none 0),.s (.i .i64 (z.2.1))]) ([.cells 28 [.arr .i8 81 (z.2.2.1),.arr .i8 16 (z.2.2.2.1),.one [.i .i8 (z.2.2.2.2.1)]],.sli 37 false (.rows [.i .i64,.i .i64,.i .i64,.b] (z.2.2.2.2.2.1) (z.2.2.2.2.2.2.1)),.cells 87 [Seg.barr 81 (z.2.2.2.2.2.2.2)]])
 | _,_=>none
def qRw:HL:=fun vs objs K=>match vs,objs with
 | [.s (.ptr 0 0 none 0),.s (.sl 1 0 x0 true),.s (.ptr 2 0 none 0),.s (.i .i64 x1)],[.cells 28 [.arr .i8 81 x2,.arr .i8 16 x3,.one [.i .i8 x4]],.sli 37 false (.rows [.i .i64,.i .i64,.i .i64,.b] x5 x6),.cells 87 [Seg.barr 81 x7]]=>ob (qD5 qB x0 x1 x2 x3 x4 x5 x6 x7) fun z=>K (.exit 0) ([.s (.ptr 0 0 none 0),.s (.sl 1 0 (z.1) true)]) ([.cells 28 [.arr .i8 81 (z.2.1),.arr .i8 16 (z.2.2.1),.one [.i .i8 (z.2.2.2.1)]],.sli 37 false (.rows [.i .i64,.i .i64,.i .i64,.b] (z.2.2.2.2.1) (z.2.2.2.2.2))])
 | _,_=>none
def qRv:HL:=fun vs objs K=>match vs,objs with
 | [.s (.ptr 0 0 none 0),.s (.sl 1 0 x0 true),.s (.i .i64 x1),.s (.i .i64 x2)],[.cells 28 [.arr .i8 81 x3,.arr .i8 16 x4,.one [.i .i8 x5]],.sli 37 false (.rows [.i .i64,.i .i64,.i .i64,.b] x6 x7)]=>ob (qFk qB x0 x1 x2 x3 x4 x5 x6 x7) fun z=>K (.exit 6) ([.s (.ptr 0 0 none 0),.s (.sl 1 0 (z.1) true),.s (.i .i64 (z.2.1))]) ([.cells 28 [.arr .i8 81 (z.2.2.1),.arr .i8 16 (z.2.2.2.1),.one [.i .i8 (z.2.2.2.2.1)]],.sli 37 false (.rows [.i .i64,.i .i64,.i .i64,.b] (z.2.2.2.2.2.1) (z.2.2.2.2.2.2))])
 | _,_=>none
def qRu:HL:=fun vs objs K=>match vs,objs with
 | [.s (.ptr 0 0 none 0),.s (.sl 1 0 x0 true),.s (.i .i64 x1)],[.cells 28 [.arr .i8 81 x2,.arr .i8 16 x3,.one [.i .i8 x4]],.sli 37 false (.rows [.i .i64,.i .i64,.i .i64,.b] x5 x6)]=>ob (qD4 qB x0 x1 x2 x3 x4 x5 x6) fun z=>K (.exit 4) ([.s (.sl 0 0 (z.1) true)]) ([.sli 37 false (.rows [.i .i64,.i .i64,.i .i64,.b] (z.2.1) (z.2.2))])
 | _,_=>none
def qqy:{R:Type}->Nat->List V->List Obj->(Ex->List V->List Obj->Option R)->Option R:=fun q vs objs K=>bif Nat.beq q 10 then qRt vs objs K else bif Nat.beq q 6 then qRw vs objs K else bif Nat.beq q 23 then qRv vs objs K else bif Nat.beq q 20 then qRu vs objs K else none
def qD3:Ctx:=mkC 98 ((qRx (qME (qFZ (qMJ qI))))) [(6,[1,3,4,5],[1,3]),(10,[1,3,4,5,6],[1,3,4,5]),(20,[1,3,8],[3]),(23,[1,3,8,9],[1,3,8])] qqy
theorem qJl:CtxOK Tryz.prog qD3:=mkC_ok ((qca _ (qQ5 _ (qGZ _ (qRX _ qK)))))
def qRl (f:Nat) (x0:Nat) (x1 x2:Int) (x3 x4:LI) (x5:Int) (x6:Nat) (x7:LL) (x8:List Bool):Option (Nat×Int×LI×LI×Int×Nat×LL×List Bool):=qf qD3 0 [1,3,4,5,6] [1,3,4,5] (qD Tryz.f40 10) f ([.s (.ptr 0 0 none 0),.s (.sl 1 0 x0 true),.s (.ptr 2 0 none 0),.s (.i .i64 x1),.s (.i .i64 x2)]) ([.cells 28 [.arr .i8 81 x3,.arr .i8 16 x4,.one [.i .i8 x5]],.sli 37 false (.rows [.i .i64,.i .i64,.i .i64,.b] x6 x7),.cells 87 [Seg.barr 81 x8]]) qRk
theorem qqu (f:Nat) (x0:Nat) (x1 x2:Int) (x3 x4:LI) (x5:Int) (x6:Nat) (x7:LL) (x8:List Bool):qRl (f+1) x0 x1 x2 x3 x4 x5 x6 x7 x8=qIH (qRl f) x0 x1 x2 x3 x4 x5 x6 x7 x8:=by kernel_rfl
theorem qcO:∀ f,qRl f=qFj f
 | 0=>rfl
 | f+1=>by funext x0 x1 x2 x3 x4 x5 x6 x7 x8;rw[qqu,qcO f];rfl
def qRr (f:Nat) (x0:Nat) (x1:Int) (x2 x3:LI) (x4:Int) (x5:Nat) (x6:LL) (x7:List Bool):Option (Nat×LI×LI×Int×Nat×LL):=qf qD3 0 [1,3,4,5] [1,3] (qD Tryz.f40 6) f ([.s (.ptr 0 0 none 0),.s (.sl 1 0 x0 true),.s (.ptr 2 0 none 0),.s (.i .i64 x1)]) ([.cells 28 [.arr .i8 81 x2,.arr .i8 16 x3,.one [.i .i8 x4]],.sli 37 false (.rows [.i .i64,.i .i64,.i .i64,.b] x5 x6),.cells 87 [Seg.barr 81 x7]]) qRq
theorem qqx (f:Nat) (x0:Nat) (x1:Int) (x2 x3:LI) (x4:Int) (x5:Nat) (x6:LL) (x7:List Bool):qRr (f+1) x0 x1 x2 x3 x4 x5 x6 x7=qIK (qRr f) x0 x1 x2 x3 x4 x5 x6 x7:=by kernel_rfl
theorem qcR:∀ f,qRr f=qD5 f
 | 0=>rfl
 | f+1=>by funext x0 x1 x2 x3 x4 x5 x6 x7;rw[qqx,qcR f];rfl
def qRp (f:Nat) (x0:Nat) (x1 x2:Int) (x3 x4:LI) (x5:Int) (x6:Nat) (x7:LL):Option (Nat×Int×LI×LI×Int×Nat×LL):=qf qD3 0 [1,3,8,9] [1,3,8] (qD Tryz.f40 23) f ([.s (.ptr 0 0 none 0),.s (.sl 1 0 x0 true),.s (.i .i64 x1),.s (.i .i64 x2)]) ([.cells 28 [.arr .i8 81 x3,.arr .i8 16 x4,.one [.i .i8 x5]],.sli 37 false (.rows [.i .i64,.i .i64,.i .i64,.b] x6 x7)]) qRo
theorem qqw (f:Nat) (x0:Nat) (x1 x2:Int) (x3 x4:LI) (x5:Int) (x6:Nat) (x7:LL):qRp (f+1) x0 x1 x2 x3 x4 x5 x6 x7=qIJ (qRp f) x0 x1 x2 x3 x4 x5 x6 x7:=by kernel_rfl
theorem qcQ:∀ f,qRp f=qFk f
 | 0=>rfl
 | f+1=>by funext x0 x1 x2 x3 x4 x5 x6 x7;rw[qqw,qcQ f];rfl
def qRn (f:Nat) (x0:Nat) (x1:Int) (x2 x3:LI) (x4:Int) (x5:Nat) (x6:LL):Option (Nat×Nat×LL):=qf qD3 0 [1,3,8] [3] (qD Tryz.f40 20) f ([.s (.ptr 0 0 none 0),.s (.sl 1 0 x0 true),.s (.i .i64 x1)]) ([.cells 28 [.arr .i8 81 x2,.arr .i8 16 x3,.one [.i .i8 x4]],.sli 37 false (.rows [.i .i64,.i .i64,.i .i64,.b] x5 x6)]) qRm
theorem qqv (f:Nat) (x0:Nat) (x1:Int) (x2 x3:LI) (x4:Int) (x5:Nat) (x6:LL):qRn (f+1) x0 x1 x2 x3 x4 x5 x6=qII (qRn f) x0 x1 x2 x3 x4 x5 x6:=by kernel_rfl
theorem qcP:∀ f,qRn f=qD4 f
 | 0=>rfl
 | f+1=>by funext x0 x1 x2 x3 x4 x5 x6;rw[qqv,qcP f];rfl
theorem qqz:qZ Tryz.prog qD3 0 (qD Tryz.f40 10):=
 qg mixed qJl (qM.of (l':=[]) (by kernel_rfl) trivial) (q:=10) (kin:=[1,3,4,5,6]) (kout:=[1,3,4,5]) (by kernel_rfl) (by kernel_rfl) fun vs objs K r h=>by
  replace h:qRt vs objs K=some r:=h
  unfold qRt at h
  split at h
  ·skip
   obtain⟨t,h1,h2⟩:=qE h
   rw[<- qcO] at h1
   refine⟨_,qRk,t,qB,h1,fun e vs' objs' hd=>?_⟩
   unfold qRk at hd;split at hd;(cases hd;exact h2);cases hd
  ·cases h
theorem qq1:qZ Tryz.prog qD3 0 (qD Tryz.f40 23):=
 qg mixed qJl (qM.of (l':=[]) (by kernel_rfl) trivial) (q:=23) (kin:=[1,3,8,9]) (kout:=[1,3,8]) (by kernel_rfl) (by kernel_rfl) fun vs objs K r h=>by
  replace h:qRv vs objs K=some r:=h
  unfold qRv at h
  split at h
  ·skip
   obtain⟨t,h1,h2⟩:=qE h
   rw[<- qcQ] at h1
   refine⟨_,qRo,t,qB,h1,fun e vs' objs' hd=>?_⟩
   unfold qRo at hd;split at hd;(cases hd;exact h2);cases hd
  ·cases h
theorem qq2:qZ Tryz.prog qD3 0 (qD Tryz.f40 6):=
 qg mixed qJl (qM.of (l':=[qD Tryz.f40 10]) (by kernel_rfl) ⟨qqz,trivial⟩) (q:=6) (kin:=[1,3,4,5]) (kout:=[1,3]) (by kernel_rfl) (by kernel_rfl) fun vs objs K r h=>by
  replace h:qRw vs objs K=some r:=h
  unfold qRw at h
  split at h
  ·skip
   obtain⟨t,h1,h2⟩:=qE h
   rw[<- qcR] at h1
   refine⟨_,qRq,t,qB,h1,fun e vs' objs' hd=>?_⟩
   unfold qRq at hd;split at hd;(cases hd;exact h2);cases hd
  ·cases h
theorem qq0:qZ Tryz.prog qD3 0 (qD Tryz.f40 20):=
 qg mixed qJl (qM.of (l':=[qD Tryz.f40 23]) (by kernel_rfl) ⟨qq1,trivial⟩) (q:=20) (kin:=[1,3,8]) (kout:=[3]) (by kernel_rfl) (by kernel_rfl) fun vs objs K r h=>by
  replace h:qRu vs objs K=some r:=h
  unfold qRu at h
  split at h
  ·skip
   obtain⟨t,h1,h2⟩:=qE h
   rw[<- qcP] at h1
   refine⟨_,qRm,t,qB,h1,fun e vs' objs' hd=>?_⟩
   unfold qRm at hd;split at hd;(cases hd;exact h2);cases hd
  ·cases h
def qcN:V->List Obj->Option (Nat×Nat×LL):=fun v objs=>match v,objs with
 | .s (.sl 0 0 y0 true),[.sli 37 false (.rows [.i .i64,.i .i64,.i .i64,.b] y1 y2)]=>some (y0,y1,y2)
 | _,_=>none
theorem qqt (x0 x1:LI) (x2:Int):fnE qD3 Tryz.f40 ([.agg [.arr .i8 81 x0,.arr .i8 16 x1,.one [.i .i8 x2]]]) ([]) qcN=qIG x0 x1 x2:=by kernel_rfl
def qcM:HA:=fun o vs objs K=>match vs,objs with
 | [.agg [.arr .i8 81 x0,.arr .i8 16 x1,.one [.i .i8 x2]]],[]=>ob (qIG x0 x1 x2) fun z=>K false (.s (.sl 0 0 (z.1) true)) ([.sli 37 false (.rows [.i .i64,.i .i64,.i .i64,.b] (z.2.1) (z.2.2))])
 | _,_=>o 40 vs objs K
def qRs (o:Orc):Orc:=qJ 40 (qcM o) o
theorem qcS:OQ Tryz.prog qRs:=fun _ ho=>qL ho fun vs objs K r h=>by
 unfold qcM at h
 split at h
 ·skip
  obtain⟨t,h1,h2⟩:=qE h
  refine q7 mixed qJl (fn:=Tryz.f40) (b:=(Tryz.f40).body.getD .skip) (by kernel_rfl) (by kernel_rfl) (by kernel_rfl) ((qqt _ _ _).trans h1) (m:=0) rfl (qM.of (l':=[qD Tryz.f40 6,qD Tryz.f40 20]) (by kernel_rfl) ⟨qq2,qq0,trivial⟩) fun v objs' hd=>?_
  unfold qcN at hd;split at hd;(cases hd;exact h2);cases hd
 ·exact ho _ _ _ _ _ h
def qcG:Ctx:=mkC 82 ((qQu (qDI qI))) [] qU
theorem qqp:CtxOK Tryz.prog qcG:=mkC_ok ((qam _ (qDt _ qK)))
def qcH:V->List Obj->Option (LI×LI×Int):=fun v objs=>match v,objs with
 | .agg [.arr .i8 81 y0,.arr .i8 16 y1,.one [.i .i8 y2]],[]=>some (y0,y1,y2)
 | _,_=>none
theorem qqo (x0 x1:LI) (x2 x3:Int) (x4 x5:Int) (x6:Bool):fnE qcG Tryz.f12 ([.agg [.arr .i8 81 x0,.arr .i8 16 x1,.one [.i .i8 x2]],.agg [.one [.i .i64 x3,.i .i64 x4,.i .i64 x5,.b x6]]]) ([]) qcH=qFi x0 x1 x2 x3 x4 x5 x6:=by kernel_rfl
def qcF:HA:=fun o vs objs K=>match vs,objs with
 | [.agg [.arr .i8 81 x0,.arr .i8 16 x1,.one [.i .i8 x2]],.agg [.one [.i .i64 x3,.i .i64 x4,.i .i64 x5,.b x6]]],[]=>ob (qFi x0 x1 x2 x3 x4 x5 x6) fun z=>K false (.agg [.arr .i8 81 (z.1),.arr .i8 16 (z.2.1),.one [.i .i8 (z.2.2)]]) ([])
 | _,_=>o 12 vs objs K
def qMO (o:Orc):Orc:=qJ 12 (qcF o) o
theorem qRj:OQ Tryz.prog qMO:=fun _ ho=>qL ho fun vs objs K r h=>by
 unfold qcF at h
 split at h
 ·skip
  obtain⟨t,h1,h2⟩:=qE h
  refine qa mixed qqp ((qqo _ _ _ _ _ _ _).trans h1) (by kernel_rfl) fun v objs' hd=>?_
  unfold qcH at hd;split at hd;(cases hd;exact h2);cases hd
 ·exact ho _ _ _ _ _ h
def qct:Ctx:=mkC 13 ((qMM (qMO qI))) [] qU
theorem qrM:CtxOK Tryz.prog qct:=mkC_ok ((qRe _ (qRj _ qK)))
def qcu:V->List Obj->Option (Bool):=fun v objs=>match v,objs with
 | .s (.b y0),[]=>some (y0)
 | _,_=>none
theorem qrL (x0 x1:LI) (x2 x3:Int) (x4 x5:Int) (x6:Bool):fnE qct Tryz.f71 ([.agg [.arr .i8 81 x0,.arr .i8 16 x1,.one [.i .i8 x2]],.agg [.one [.i .i64 x3,.i .i64 x4,.i .i64 x5,.b x6]]]) ([]) qcu=qIM x0 x1 x2 x3 x4 x5 x6:=by kernel_rfl
def qcs:HA:=fun o vs objs K=>match vs,objs with
 | [.agg [.arr .i8 81 x0,.arr .i8 16 x1,.one [.i .i8 x2]],.agg [.one [.i .i64 x3,.i .i64 x4,.i .i64 x5,.b x6]]],[]=>ob (qIM x0 x1 x2 x3 x4 x5 x6) fun y0=>K false (.s (.b y0)) ([])
 | _,_=>o 71 vs objs K
def qR2 (o:Orc):Orc:=qJ 71 (qcs o) o
theorem qcv:OQ Tryz.prog qR2:=fun _ ho=>qL ho fun vs objs K r h=>by
 unfold qcs at h
 split at h
 ·skip
  obtain⟨t,h1,h2⟩:=qE h
  refine qa mixed qrM ((qrL _ _ _ _ _ _ _).trans h1) (by kernel_rfl) fun v objs' hd=>?_
  unfold qcu at hd;split at hd;(cases hd;exact h2);cases hd
 ·exact ho _ _ _ _ _ h
def qR3:Ex->List V->List Obj->Option ((Bool)⊕(Unit)):=fun e vs objs=>match e,vs,objs with
 | .ret,[.s (.b y0)],[]=>some (.inl (y0))
 | .exit 0,[.s .bad],[]=>some (.inr ())
 | _,_,_=>none
def qR5:HL:=fun vs objs K=>match vs,objs with
 | [.s (.ptr 0 0 none 0),.s (.sl 1 0 x0 true),.s (.i .i64 x1)],[.cells 28 [.arr .i8 81 x2,.arr .i8 16 x3,.one [.i .i8 x4]],.sli 37 false (.rows [.i .i64,.i .i64,.i .i64,.b] x5 x6)]=>ob (qFm qB x0 x1 x2 x3 x4 x5 x6) fun t0=>sw t0 (fun y0=>K (.ret) ([.s (.b y0)]) ([])) (fun _=>K (.exit 0) ([.s .bad]) ([]))
 | _,_=>none
def qrP:{R:Type}->Nat->List V->List Obj->(Ex->List V->List Obj->Option R)->Option R:=fun q vs objs K=>bif Nat.beq q 3 then qR5 vs objs K else none
def qMQ:Ctx:=mkC 19 ((qR2 (qRs qI))) [(3,[1,3,4],[2])] qrP
theorem qcx:CtxOK Tryz.prog qMQ:=mkC_ok ((qcv _ (qcS _ qK)))
def qR4 (f:Nat) (x0:Nat) (x1:Int) (x2 x3:LI) (x4:Int) (x5:Nat) (x6:LL):Option ((Bool)⊕(Unit)):=qf qMQ 0 [1,3,4] [2] (qD Tryz.f72 3) f ([.s (.ptr 0 0 none 0),.s (.sl 1 0 x0 true),.s (.i .i64 x1)]) ([.cells 28 [.arr .i8 81 x2,.arr .i8 16 x3,.one [.i .i8 x4]],.sli 37 false (.rows [.i .i64,.i .i64,.i .i64,.b] x5 x6)]) qR3
theorem qrO (f:Nat) (x0:Nat) (x1:Int) (x2 x3:LI) (x4:Int) (x5:Nat) (x6:LL):qR4 (f+1) x0 x1 x2 x3 x4 x5 x6=qIN (qR4 f) x0 x1 x2 x3 x4 x5 x6:=by kernel_rfl
theorem qcz:∀ f,qR4 f=qFm f
 | 0=>rfl
 | f+1=>by funext x0 x1 x2 x3 x4 x5 x6;rw[qrO,qcz f];rfl
theorem qrR:qZ Tryz.prog qMQ 0 (qD Tryz.f72 3):=
 qg mixed qcx (qM.of (l':=[]) (by kernel_rfl) trivial) (q:=3) (kin:=[1,3,4]) (kout:=[2]) (by kernel_rfl) (by kernel_rfl) fun vs objs K r h=>by
  replace h:qR5 vs objs K=some r:=h
  unfold qR5 at h
  split at h
  ·skip
   obtain⟨t,h1,h2⟩:=qE h
   rw[<- qcz] at h1
   refine⟨_,qR3,t,qB,h1,fun e vs' objs' hd=>?_⟩
   unfold qR3 at hd
   split at hd
   ·skip
    cases hd
    exact h2
   ·skip
    cases hd
    exact h2
   ·cases hd
  ·cases h
def qcy:V->List Obj->Option (Bool):=fun v objs=>match v,objs with
 | .s (.b y0),[]=>some (y0)
 | _,_=>none
theorem qrN (x0 x1:LI) (x2:Int):fnE qMQ Tryz.f72 ([.agg [.arr .i8 81 x0,.arr .i8 16 x1,.one [.i .i8 x2]]]) ([]) qcy=qJp x0 x1 x2:=by kernel_rfl
def qcw:HA:=fun o vs objs K=>match vs,objs with
 | [.agg [.arr .i8 81 x0,.arr .i8 16 x1,.one [.i .i8 x2]]],[]=>ob (qJp x0 x1 x2) fun y0=>K false (.s (.b y0)) ([])
 | _,_=>o 72 vs objs K
def qc0 (o:Orc):Orc:=qJ 72 (qcw o) o
theorem qrQ:OQ Tryz.prog qc0:=fun _ ho=>qL ho fun vs objs K r h=>by
 unfold qcw at h
 split at h
 ·skip
  obtain⟨t,h1,h2⟩:=qE h
  refine q7 mixed qcx (fn:=Tryz.f72) (b:=(Tryz.f72).body.getD .skip) (by kernel_rfl) (by kernel_rfl) (by kernel_rfl) ((qrN _ _ _).trans h1) (m:=0) rfl (qM.of (l':=[qD Tryz.f72 3]) (by kernel_rfl) ⟨qrR,trivial⟩) fun v objs' hd=>?_
  unfold qcy at hd;split at hd;(cases hd;exact h2);cases hd
 ·exact ho _ _ _ _ _ h
def qcp:Ctx:=mkC 27 ((qc0 (qMM (qMO (qR2 qI))))) [] qU
theorem qrK:CtxOK Tryz.prog qcp:=mkC_ok ((qrQ _ (qRe _ (qRj _ (qcv _ qK)))))
def qcq:V->List Obj->Option (Bool):=fun v objs=>match v,objs with
 | .s (.b y0),[]=>some (y0)
 | _,_=>none
theorem qrJ (x0 x1:LI) (x2 x3:Int) (x4 x5:Int) (x6:Bool):fnE qcp Tryz.f29 ([.agg [.arr .i8 81 x0,.arr .i8 16 x1,.one [.i .i8 x2]],.agg [.one [.i .i64 x3,.i .i64 x4,.i .i64 x5,.b x6]]]) ([]) qcq=qGd x0 x1 x2 x3 x4 x5 x6:=by kernel_rfl
def qco:HA:=fun o vs objs K=>match vs,objs with
 | [.agg [.arr .i8 81 x0,.arr .i8 16 x1,.one [.i .i8 x2]],.agg [.one [.i .i64 x3,.i .i64 x4,.i .i64 x5,.b x6]]],[]=>ob (qGd x0 x1 x2 x3 x4 x5 x6) fun y0=>K false (.s (.b y0)) ([])
 | _,_=>o 29 vs objs K
def qR1 (o:Orc):Orc:=qJ 29 (qco o) o
theorem qcr:OQ Tryz.prog qR1:=fun _ ho=>qL ho fun vs objs K r h=>by
 unfold qco at h
 split at h
 ·skip
  obtain⟨t,h1,h2⟩:=qE h
  refine qa mixed qrK ((qrJ _ _ _ _ _ _ _).trans h1) (by kernel_rfl) fun v objs' hd=>?_
  unfold qcq at hd;split at hd;(cases hd;exact h2);cases hd
 ·exact ho _ _ _ _ _ h
def qRy:Ex->List V->List Obj->Option (Nat×Nat×LL):=fun e vs objs=>match e,vs,objs with
 | .exit 0,[.s (.sl 0 0 y0 true)],[.sli 37 false (.rows [.i .i64,.i .i64,.i .i64,.b] y1 y2)]=>some (y0,y1,y2)
 | _,_,_=>none
def qR0:HL:=fun vs objs K=>match vs,objs with
 | [.s (.ptr 0 0 none 0),.s (.sl 1 0 x0 true),.s (.sl 2 0 x1 true),.s (.i .i64 x2)],[.cells 28 [.arr .i8 81 x3,.arr .i8 16 x4,.one [.i .i8 x5]],.sli 37 false (.rows [.i .i64,.i .i64,.i .i64,.b] x6 x7),.sli 37 false (.rows [.i .i64,.i .i64,.i .i64,.b] x8 x9)]=>ob (qFl qB x0 x1 x2 x3 x4 x5 x6 x7 x8 x9) fun z=>K (.exit 0) ([.s (.sl 0 0 (z.1) true)]) ([.sli 37 false (.rows [.i .i64,.i .i64,.i .i64,.b] (z.2.1) (z.2.2))])
 | _,_=>none
def qrD:{R:Type}->Nat->List V->List Obj->(Ex->List V->List Obj->Option R)->Option R:=fun q vs objs K=>bif Nat.beq q 4 then qR0 vs objs K else none
def qMP:Ctx:=mkC 28 ((qR1 (qRs qI))) [(4,[1,3,4,5],[3])] qrD
theorem qcg:CtxOK Tryz.prog qMP:=mkC_ok ((qcr _ (qcS _ qK)))
def qRz (f:Nat) (x0 x1:Nat) (x2:Int) (x3 x4:LI) (x5:Int) (x6:Nat) (x7:LL) (x8:Nat) (x9:LL):Option (Nat×Nat×LL):=qf qMP 0 [1,3,4,5] [3] (qD Tryz.f18 4) f ([.s (.ptr 0 0 none 0),.s (.sl 1 0 x0 true),.s (.sl 2 0 x1 true),.s (.i .i64 x2)]) ([.cells 28 [.arr .i8 81 x3,.arr .i8 16 x4,.one [.i .i8 x5]],.sli 37 false (.rows [.i .i64,.i .i64,.i .i64,.b] x6 x7),.sli 37 false (.rows [.i .i64,.i .i64,.i .i64,.b] x8 x9)]) qRy
theorem qrC (f:Nat) (x0 x1:Nat) (x2:Int) (x3 x4:LI) (x5:Int) (x6:Nat) (x7:LL) (x8:Nat) (x9:LL):qRz (f+1) x0 x1 x2 x3 x4 x5 x6 x7 x8 x9=qIL (qRz f) x0 x1 x2 x3 x4 x5 x6 x7 x8 x9:=by kernel_rfl
theorem qci:∀ f,qRz f=qFl f
 | 0=>rfl
 | f+1=>by funext x0 x1 x2 x3 x4 x5 x6 x7 x8 x9;rw[qrC,qci f];rfl
theorem qrF:qZ Tryz.prog qMP 0 (qD Tryz.f18 4):=
 qg mixed qcg (qM.of (l':=[]) (by kernel_rfl) trivial) (q:=4) (kin:=[1,3,4,5]) (kout:=[3]) (by kernel_rfl) (by kernel_rfl) fun vs objs K r h=>by
  replace h:qR0 vs objs K=some r:=h
  unfold qR0 at h
  split at h
  ·skip
   obtain⟨t,h1,h2⟩:=qE h
   rw[<- qci] at h1
   refine⟨_,qRy,t,qB,h1,fun e vs' objs' hd=>?_⟩
   unfold qRy at hd;split at hd;(cases hd;exact h2);cases hd
  ·cases h
def qch:V->List Obj->Option (Nat×Nat×LL):=fun v objs=>match v,objs with
 | .s (.sl 0 0 y0 true),[.sli 37 false (.rows [.i .i64,.i .i64,.i .i64,.b] y1 y2)]=>some (y0,y1,y2)
 | _,_=>none
theorem qrB (x0 x1:LI) (x2:Int):fnE qMP Tryz.f18 ([.agg [.arr .i8 81 x0,.arr .i8 16 x1,.one [.i .i8 x2]]]) ([]) qch=qJo x0 x1 x2:=by kernel_rfl
def qcf:HA:=fun o vs objs K=>match vs,objs with
 | [.agg [.arr .i8 81 x0,.arr .i8 16 x1,.one [.i .i8 x2]]],[]=>ob (qJo x0 x1 x2) fun z=>K false (.s (.sl 0 0 (z.1) true)) ([.sli 37 false (.rows [.i .i64,.i .i64,.i .i64,.b] (z.2.1) (z.2.2))])
 | _,_=>o 18 vs objs K
def qcj (o:Orc):Orc:=qJ 18 (qcf o) o
theorem qrE:OQ Tryz.prog qcj:=fun _ ho=>qL ho fun vs objs K r h=>by
 unfold qcf at h
 split at h
 ·skip
  obtain⟨t,h1,h2⟩:=qE h
  refine q7 mixed qcg (fn:=Tryz.f18) (b:=(Tryz.f18).body.getD .skip) (by kernel_rfl) (by kernel_rfl) (by kernel_rfl) ((qrB _ _ _).trans h1) (m:=0) rfl (qM.of (l':=[qD Tryz.f18 4]) (by kernel_rfl) ⟨qrF,trivial⟩) fun v objs' hd=>?_
  unfold qch at hd;split at hd;(cases hd;exact h2);cases hd
 ·exact ho _ _ _ _ _ h
def qcl:Ctx:=mkC 13 ((qR1 (qRx qI))) [] qU
theorem qrH:CtxOK Tryz.prog qcl:=mkC_ok ((qcr _ (qca _ qK)))
def qcm:V->List Obj->Option (Bool):=fun v objs=>match v,objs with
 | .s (.b y0),[]=>some (y0)
 | _,_=>none
theorem qrG (x0 x1:LI) (x2 x3:Int) (x4 x5:Int) (x6:Bool):fnE qcl Tryz.f11 ([.agg [.arr .i8 81 x0,.arr .i8 16 x1,.one [.i .i8 x2]],.agg [.one [.i .i64 x3,.i .i64 x4,.i .i64 x5,.b x6]]]) ([]) qcm=qGc x0 x1 x2 x3 x4 x5 x6:=by kernel_rfl
def qck:HA:=fun o vs objs K=>match vs,objs with
 | [.agg [.arr .i8 81 x0,.arr .i8 16 x1,.one [.i .i8 x2]],.agg [.one [.i .i64 x3,.i .i64 x4,.i .i64 x5,.b x6]]],[]=>ob (qGc x0 x1 x2 x3 x4 x5 x6) fun y0=>K false (.s (.b y0)) ([])
 | _,_=>o 11 vs objs K
def qcn (o:Orc):Orc:=qJ 11 (qck o) o
theorem qrI:OQ Tryz.prog qcn:=fun _ ho=>qL ho fun vs objs K r h=>by
 unfold qck at h
 split at h
 ·skip
  obtain⟨t,h1,h2⟩:=qE h
  refine qa mixed qrH ((qrG _ _ _ _ _ _ _).trans h1) (by kernel_rfl) fun v objs' hd=>?_
  unfold qcm at hd;split at hd;(cases hd;exact h2);cases hd
 ·exact ho _ _ _ _ _ h
def qPT:Ex->List V->List Obj->Option (Nat×Nat×LI×LI×LI×Int×Int×Int×Int×Bool×Nat×LL×LI×LI×Int):=fun e vs objs=>match e,vs,objs with
 | .exit 0,[.s (.ptr 1 0 none 0),.s (.ptr 2 0 none 0),.s (.sl 3 0 y0 true),.s (.ptr 4 0 none 0)],[.sli 3 true (.arr .i64 y1 y2),.cells 28 [.arr .i8 81 y3,.arr .i8 16 y4,.one [.i .i8 y5]],.cells 37 [.one [.i .i64 y6,.i .i64 y7,.i .i64 y8,.b y9]],.sli 37 false (.rows [.i .i64,.i .i64,.i .i64,.b] y10 y11),.cells 28 [.arr .i8 81 y12,.arr .i8 16 y13,.one [.i .i8 y14]]]=>some (y0,y1,y2,y3,y4,y5,y6,y7,y8,y9,y10,y11,y12,y13,y14)
 | _,_,_=>none
def qPR:Ex->List V->List Obj->Option ((Bool×Nat×Nat×LI×LI×LI×Int×Int×Int×Int×Bool×Nat×LL×LI×LI×Int)⊕(Nat×Nat×LI×LI×LI×Int×Int×Int×Int×Bool×Nat×LL×LI×LI×Int)):=fun e vs objs=>match e,vs,objs with
 | .ret,[.s (.ptr 1 0 none 0),.s (.ptr 2 0 none 0),.s (.b y0),.s (.sl 3 0 y1 true),.s (.ptr 4 0 none 0)],[.sli 3 true (.arr .i64 y2 y3),.cells 28 [.arr .i8 81 y4,.arr .i8 16 y5,.one [.i .i8 y6]],.cells 37 [.one [.i .i64 y7,.i .i64 y8,.i .i64 y9,.b y10]],.sli 37 false (.rows [.i .i64,.i .i64,.i .i64,.b] y11 y12),.cells 28 [.arr .i8 81 y13,.arr .i8 16 y14,.one [.i .i8 y15]]]=>some (.inl (y0,y1,y2,y3,y4,y5,y6,y7,y8,y9,y10,y11,y12,y13,y14,y15))
 | .exit 2,[.s (.ptr 1 0 none 0),.s (.ptr 2 0 none 0),.s .bad,.s (.sl 3 0 y0 true),.s (.ptr 4 0 none 0)],[.sli 3 true (.arr .i64 y1 y2),.cells 28 [.arr .i8 81 y3,.arr .i8 16 y4,.one [.i .i8 y5]],.cells 37 [.one [.i .i64 y6,.i .i64 y7,.i .i64 y8,.b y9]],.sli 37 false (.rows [.i .i64,.i .i64,.i .i64,.b] y10 y11),.cells 28 [.arr .i8 81 y12,.arr .i8 16 y13,.one [.i .i8 y14]]]=>some (.inr (y0,y1,y2,y3,y4,y5,y6,y7,y8,y9,y10,y11,y12,y13,y14))
 | _,_,_=>none
def qPW:HL:=fun vs objs K=>match vs,objs with
 | [.s (.ptr 1 0 none 0),.s (.ptr 2 0 none 0),.s (.sl 3 0 x0 true),.s (.ptr 4 0 none 0),.s (.sl 0 x1 x2 false),.s (.i .i64 x3),.s (.i .i64 x4)],[.sli 3 true (.arr .i64 x5 x6),.cells 28 [.arr .i8 81 x7,.arr .i8 16 x8,.one [.i .i8 x9]],.cells 37 [.one [.i .i64 x10,.i .i64 x11,.i .i64 x12,.b x13]],.sli 37 false (.rows [.i .i64,.i .i64,.i .i64,.b] x14 x15),.cells 28 [.arr .i8 81 x16,.arr .i8 16 x17,.one [.i .i8 x18]]]=>ob (qDD qB x0 x1 x2 x3 x4 x5 x6 x7 x8 x9 x10 x11 x12 x13 x14 x15 x16 x17 x18) fun z=>K (.exit 0) ([.s (.ptr 1 0 none 0),.s (.ptr 2 0 none 0),.s (.sl 3 0 (z.1) true),.s (.ptr 4 0 none 0)]) ([.sli 3 true (.arr .i64 (z.2.1) (z.2.2.1)),.cells 28 [.arr .i8 81 (z.2.2.2.1),.arr .i8 16 (z.2.2.2.2.1),.one [.i .i8 (z.2.2.2.2.2.1)]],.cells 37 [.one [.i .i64 (z.2.2.2.2.2.2.1),.i .i64 (z.2.2.2.2.2.2.2.1),.i .i64 (z.2.2.2.2.2.2.2.2.1),.b (z.2.2.2.2.2.2.2.2.2.1)]],.sli 37 false (.rows [.i .i64,.i .i64,.i .i64,.b] (z.2.2.2.2.2.2.2.2.2.2.1) (z.2.2.2.2.2.2.2.2.2.2.2.1)),.cells 28 [.arr .i8 81 (z.2.2.2.2.2.2.2.2.2.2.2.2.1),.arr .i8 16 (z.2.2.2.2.2.2.2.2.2.2.2.2.2.1),.one [.i .i8 (z.2.2.2.2.2.2.2.2.2.2.2.2.2.2)]]])
 | _,_=>none
def qPV:HL:=fun vs objs K=>match vs,objs with
 | [.s (.ptr 1 0 none 0),.s (.ptr 2 0 none 0),.s (.sl 3 0 x0 true),.s (.ptr 4 0 none 0),.s (.i .i64 x1),.s (.i .i64 x2)],[.sli 3 true (.arr .i64 x3 x4),.cells 28 [.arr .i8 81 x5,.arr .i8 16 x6,.one [.i .i8 x7]],.cells 37 [.one [.i .i64 x8,.i .i64 x9,.i .i64 x10,.b x11]],.sli 37 false (.rows [.i .i64,.i .i64,.i .i64,.b] x12 x13),.cells 28 [.arr .i8 81 x14,.arr .i8 16 x15,.one [.i .i8 x16]]]=>ob (qGK qB x0 x1 x2 x3 x4 x5 x6 x7 x8 x9 x10 x11 x12 x13 x14 x15 x16) fun t0=>sw t0 (fun z=>K (.ret) ([.s (.ptr 1 0 none 0),.s (.ptr 2 0 none 0),.s (.b (z.1)),.s (.sl 3 0 (z.2.1) true),.s (.ptr 4 0 none 0)]) ([.sli 3 true (.arr .i64 (z.2.2.1) (z.2.2.2.1)),.cells 28 [.arr .i8 81 (z.2.2.2.2.1),.arr .i8 16 (z.2.2.2.2.2.1),.one [.i .i8 (z.2.2.2.2.2.2.1)]],.cells 37 [.one [.i .i64 (z.2.2.2.2.2.2.2.1),.i .i64 (z.2.2.2.2.2.2.2.2.1),.i .i64 (z.2.2.2.2.2.2.2.2.2.1),.b (z.2.2.2.2.2.2.2.2.2.2.1)]],.sli 37 false (.rows [.i .i64,.i .i64,.i .i64,.b] (z.2.2.2.2.2.2.2.2.2.2.2.1) (z.2.2.2.2.2.2.2.2.2.2.2.2.1)),.cells 28 [.arr .i8 81 (z.2.2.2.2.2.2.2.2.2.2.2.2.2.1),.arr .i8 16 (z.2.2.2.2.2.2.2.2.2.2.2.2.2.2.1),.one [.i .i8 (z.2.2.2.2.2.2.2.2.2.2.2.2.2.2.2)]]])) (fun z=>K (.exit 2) ([.s (.ptr 1 0 none 0),.s (.ptr 2 0 none 0),.s .bad,.s (.sl 3 0 (z.1) true),.s (.ptr 4 0 none 0)]) ([.sli 3 true (.arr .i64 (z.2.1) (z.2.2.1)),.cells 28 [.arr .i8 81 (z.2.2.2.1),.arr .i8 16 (z.2.2.2.2.1),.one [.i .i8 (z.2.2.2.2.2.1)]],.cells 37 [.one [.i .i64 (z.2.2.2.2.2.2.1),.i .i64 (z.2.2.2.2.2.2.2.1),.i .i64 (z.2.2.2.2.2.2.2.2.1),.b (z.2.2.2.2.2.2.2.2.2.1)]],.sli 37 false (.rows [.i .i64,.i .i64,.i .i64,.b] (z.2.2.2.2.2.2.2.2.2.2.1) (z.2.2.2.2.2.2.2.2.2.2.2.1)),.cells 28 [.arr .i8 81 (z.2.2.2.2.2.2.2.2.2.2.2.2.1),.arr .i8 16 (z.2.2.2.2.2.2.2.2.2.2.2.2.2.1),.one [.i .i8 (z.2.2.2.2.2.2.2.2.2.2.2.2.2.2)]]]))
 | _,_=>none
def qlZ:{R:Type}->Nat->List V->List Obj->(Ex->List V->List Obj->Option R)->Option R:=fun q vs objs K=>bif Nat.beq q 8 then qPW vs objs K else bif Nat.beq q 16 then qPV vs objs K else none
def qHd:Ctx:=mkC 124 ((qcn (qPx (qMO (qcj (qb5 (qXm qI))))))) [(8,[3,5,7,8,30,31,32],[3,5,7,8]),(16,[3,5,7,8,66,67],[3,5,6,7,8])] qlZ
theorem qLF:CtxOK Tryz.prog qHd:=mkC_ok ((qrI _ (qYT _ (qRj _ (qrE _ (qqe _ (qld _ qK)))))))
def qPU (f:Nat) (x0 x1 x2:Nat) (x3 x4:Int) (x5:Nat) (x6 x7 x8:LI) (x9 x10:Int) (x11 x12:Int) (x13:Bool) (x14:Nat) (x15:LL) (x16 x17:LI) (x18:Int):Option (Nat×Nat×LI×LI×LI×Int×Int×Int×Int×Bool×Nat×LL×LI×LI×Int):=qf qHd 1 [3,5,7,8,30,31,32] [3,5,7,8] (qD Tryz.f5 8) f ([.s (.ptr 1 0 none 0),.s (.ptr 2 0 none 0),.s (.sl 3 0 x0 true),.s (.ptr 4 0 none 0),.s (.sl 0 x1 x2 false),.s (.i .i64 x3),.s (.i .i64 x4)]) ([.sli 3 true (.arr .i64 x5 x6),.cells 28 [.arr .i8 81 x7,.arr .i8 16 x8,.one [.i .i8 x9]],.cells 37 [.one [.i .i64 x10,.i .i64 x11,.i .i64 x12,.b x13]],.sli 37 false (.rows [.i .i64,.i .i64,.i .i64,.b] x14 x15),.cells 28 [.arr .i8 81 x16,.arr .i8 16 x17,.one [.i .i8 x18]]]) qPT
theorem qlY (f:Nat) (x0 x1 x2:Nat) (x3 x4:Int) (x5:Nat) (x6 x7 x8:LI) (x9 x10:Int) (x11 x12:Int) (x13:Bool) (x14:Nat) (x15:LL) (x16 x17:LI) (x18:Int):qPU (f+1) x0 x1 x2 x3 x4 x5 x6 x7 x8 x9 x10 x11 x12 x13 x14 x15 x16 x17 x18=qHe (qPU f) x0 x1 x2 x3 x4 x5 x6 x7 x8 x9 x10 x11 x12 x13 x14 x15 x16 x17 x18:=by kernel_rfl
theorem qXg:∀ f,qPU f=qDD f
 | 0=>rfl
 | f+1=>by funext x0 x1 x2 x3 x4 x5 x6 x7 x8 x9 x10 x11 x12 x13 x14 x15 x16 x17 x18;rw[qlY,qXg f];rfl
def qPS (f:Nat) (x0:Nat) (x1 x2:Int) (x3:Nat) (x4 x5 x6:LI) (x7 x8:Int) (x9 x10:Int) (x11:Bool) (x12:Nat) (x13:LL) (x14 x15:LI) (x16:Int):Option ((Bool×Nat×Nat×LI×LI×LI×Int×Int×Int×Int×Bool×Nat×LL×LI×LI×Int)⊕(Nat×Nat×LI×LI×LI×Int×Int×Int×Int×Bool×Nat×LL×LI×LI×Int)):=qf qHd 1 [3,5,7,8,66,67] [3,5,6,7,8] (qD Tryz.f5 16) f ([.s (.ptr 1 0 none 0),.s (.ptr 2 0 none 0),.s (.sl 3 0 x0 true),.s (.ptr 4 0 none 0),.s (.i .i64 x1),.s (.i .i64 x2)]) ([.sli 3 true (.arr .i64 x3 x4),.cells 28 [.arr .i8 81 x5,.arr .i8 16 x6,.one [.i .i8 x7]],.cells 37 [.one [.i .i64 x8,.i .i64 x9,.i .i64 x10,.b x11]],.sli 37 false (.rows [.i .i64,.i .i64,.i .i64,.b] x12 x13),.cells 28 [.arr .i8 81 x14,.arr .i8 16 x15,.one [.i .i8 x16]]]) qPR
theorem qlX (f:Nat) (x0:Nat) (x1 x2:Int) (x3:Nat) (x4 x5 x6:LI) (x7 x8:Int) (x9 x10:Int) (x11:Bool) (x12:Nat) (x13:LL) (x14 x15:LI) (x16:Int):qPS (f+1) x0 x1 x2 x3 x4 x5 x6 x7 x8 x9 x10 x11 x12 x13 x14 x15 x16=qLG (qPS f) x0 x1 x2 x3 x4 x5 x6 x7 x8 x9 x10 x11 x12 x13 x14 x15 x16:=by kernel_rfl
theorem qXf:∀ f,qPS f=qGK f
 | 0=>rfl
 | f+1=>by funext x0 x1 x2 x3 x4 x5 x6 x7 x8 x9 x10 x11 x12 x13 x14 x15 x16;rw[qlX,qXf f];rfl
theorem qXi:qZ Tryz.prog qHd 1 (qD Tryz.f5 8):=
 qg mixed qLF (qM.of (l':=[]) (by kernel_rfl) trivial) (q:=8) (kin:=[3,5,7,8,30,31,32]) (kout:=[3,5,7,8]) (by kernel_rfl) (by kernel_rfl) fun vs objs K r h=>by
  replace h:qPW vs objs K=some r:=h
  unfold qPW at h
  split at h
  ·skip
   obtain⟨t,h1,h2⟩:=qE h
   rw[<- qXg] at h1
   refine⟨_,qPT,t,qB,h1,fun e vs' objs' hd=>?_⟩
   unfold qPT at hd;split at hd;(cases hd;exact h2);cases hd
  ·cases h
theorem qXh:qZ Tryz.prog qHd 1 (qD Tryz.f5 16):=
 qg mixed qLF (qM.of (l':=[]) (by kernel_rfl) trivial) (q:=16) (kin:=[3,5,7,8,66,67]) (kout:=[3,5,6,7,8]) (by kernel_rfl) (by kernel_rfl) fun vs objs K r h=>by
  replace h:qPV vs objs K=some r:=h
  unfold qPV at h
  split at h
  ·skip
   obtain⟨t,h1,h2⟩:=qE h
   rw[<- qXf] at h1
   refine⟨_,qPR,t,qB,h1,fun e vs' objs' hd=>?_⟩
   unfold qPR at hd
   split at hd
   ·skip
    cases hd
    exact h2
   ·skip
    cases hd
    exact h2
   ·cases hd
  ·cases h
def qPQ:V->List Obj->Option (Bool):=fun v objs=>match v,objs with
 | .s (.b y0),[]=>some (y0)
 | _,_=>none
theorem qXd (x0 x1:LI) (x2:Int) (x3 x4 x5:Nat) (x6:LI) (x7 x8 x9:Int) (x10:Bool):fnE qHd Tryz.f5 ([.agg [.arr .i8 81 x0,.arr .i8 16 x1,.one [.i .i8 x2]],.s (.sl 0 x3 x4 false),.agg [.one [.i .i64 x7,.i .i64 x8,.i .i64 x9,.b x10]]]) ([.sli 3 true (.arr .i64 x5 x6)]) (qAM 1 qPQ)=qJQ x0 x1 x2 x3 x4 x5 x6 x7 x8 x9 x10:=by kernel_rfl
def qXe:HA:=fun o vs objs K=>match vs,List.map Obj.toRO objs with
 | [.agg [.arr .i8 81 x0,.arr .i8 16 x1,.one [.i .i8 x2]],.s (.sl 0 x3 x4 false),.agg [.one [.i .i64 x7,.i .i64 x8,.i .i64 x9,.b x10]]],[.sli 3 true (.arr .i64 x5 x6)]=>ob (qJQ x0 x1 x2 x3 x4 x5 x6 x7 x8 x9 x10) fun y0=>K true (.s (.b y0)) ([])
 | _,_=>o 5 vs objs K
def qla (o:Orc):Orc:=qJ 5 (qXe o) o
theorem qlW {vs:List V} {objs:List Obj} (x0 x1:LI) (x2:Int) (x3 x4 x5:Nat) (x6:LI) (x7 x8 x9:Int) (x10:Bool) {R:Type} {K:Bool->V->List Obj->Option R} {r:R} (hv:vs=[.agg [.arr .i8 81 x0,.arr .i8 16 x1,.one [.i .i8 x2]],.s (.sl 0 x3 x4 false),.agg [.one [.i .i64 x7,.i .i64 x8,.i .i64 x9,.b x10]]]) (ho:List.map Obj.toRO objs=[.sli 3 true (.arr .i64 x5 x6)]) (h:ob (qJQ x0 x1 x2 x3 x4 x5 x6 x7 x8 x9 x10) (fun y0=>K true (.s (.b y0)) ([]))=some r):
  ∃ p v objs',K p v objs'=some r /\ qEF Tryz.prog 5 vs objs p v objs':=by
 subst hv
 obtain⟨t,h1,h2⟩:=qE h
 refine qAj mixed qLF (m:=1) (fn:=Tryz.f5) (b:=(Tryz.f5).body.getD .skip) (by kernel_rfl) (by kernel_rfl) (by kernel_rfl) ho (by kernel_rfl) (by kernel_rfl) (qM.of (l':=[qD Tryz.f5 8,qD Tryz.f5 16]) (by kernel_rfl) ⟨qXi,qXh,trivial⟩) ((qXd _ _ _ _ _ _ _ _ _ _ _).trans h1) fun v objs' hd=>?_
 unfold qPQ at hd;split at hd;(cases hd;exact h2);cases hd
theorem quy:OQ Tryz.prog qla:=fun _ ho=>qL ho fun vs objs K r h=>by
 unfold qXe at h
 split at h
 ·skip
  have hq:List.map Obj.toRO objs=_:=(by rename_i hq;first | exact hq | assumption)
  obtain⟨t,h1,h2⟩:=qE h
  refine qAj mixed qLF (m:=1) (fn:=Tryz.f5) (b:=(Tryz.f5).body.getD .skip) (by kernel_rfl) (by kernel_rfl) (by kernel_rfl) hq (by kernel_rfl) (by kernel_rfl) (qM.of (l':=[qD Tryz.f5 8,qD Tryz.f5 16]) (by kernel_rfl) ⟨qXi,qXh,trivial⟩) ((qXd _ _ _ _ _ _ _ _ _ _ _).trans h1) fun v objs' hd=>?_
  unfold qPQ at hd;split at hd;(cases hd;exact h2);cases hd
 ·exact ho _ _ _ _ _ h
end
end Go.Kk.KkLP
