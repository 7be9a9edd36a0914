/- Printed by a tool of this project (KkGen): the program's functions come to the plain ones. -/
import Derived.Test.YtjckfjagajmekaaGreatDoorKkSRd
namespace Go.Kk.KkSR
noncomputable section
open Go.Proofs Go.Kk.Pl
set_option maxRecDepth 100000
set_option maxHeartbeats 4000000
def qPL:Ex->List V->List Obj->Option ((Bool)⊕(Unit)):=fun e vs objs=>match e,vs,objs with
 | .ret,[.s (.b y0)],[]=>some (.inl (y0))
 | .exit 0,[.s .bad],[]=>some (.inr ())
 | _,_,_=>none
def qPO:HL:=fun vs objs K=>match vs,objs with
 | [.s (.i .i64 x0),.s (.ptr 0 0 none 0),.s (.ptr 1 0 none 0),.s (.i .i64 x1),.s (.i .i64 x2)],[.cells 29 [.arr .i8 81 x3,.arr .i8 16 x4,.one [.i .i8 x5]],.cells 89 [Seg.barr 81 x6]]=>ob (qEe qC x0 x1 x2 x3 x4 x5 x6) fun t0=>sw t0 (fun y0=>K (.ret) ([.s (.b y0)]) ([])) (fun _=>K (.exit 0) ([.s .bad]) ([]))
 | _,_=>none
def qlE:{R:Type}->Nat->List V->List Obj->(Ex->List V->List Obj->Option R)->Option R:=fun q vs objs K=>bif Nat.beq q 6 then qPO vs objs K else none
def qKu:Ctx:=mkC 39 ((qKn (qEX (qYQ (qKs qH))))) [(6,[1,2,5,6,7],[4])] qlE
theorem qYJ:CtxOK Tryz.prog qKu:=mkC_ok ((qOo _ (qFa _ (qlJ _ (qPG _ qI)))))
def qPM (f:Nat) (x0 x1 x2:Int) (x3 x4:LI) (x5:Int) (x6:List Bool):Option ((Bool)⊕(Unit)):=qe qKu 0 [1,2,5,6,7] [4] (qF Tryz.f18 6) f ([.s (.i .i64 x0),.s (.ptr 0 0 none 0),.s (.ptr 1 0 none 0),.s (.i .i64 x1),.s (.i .i64 x2)]) ([.cells 29 [.arr .i8 81 x3,.arr .i8 16 x4,.one [.i .i8 x5]],.cells 89 [Seg.barr 81 x6]]) qPL
theorem qlD (f:Nat) (x0 x1 x2:Int) (x3 x4:LI) (x5:Int) (x6:List Bool):qPM (f+1) x0 x1 x2 x3 x4 x5 x6=qHD (qPM f) x0 x1 x2 x3 x4 x5 x6:=by kernel_rfl
theorem qYL:∀ f,qPM f=qEe f
 | 0=>rfl
 | f+1=>by funext x0 x1 x2 x3 x4 x5 x6;rw[qlD,qYL f];rfl
theorem qlF:qc Tryz.prog qKu 0 (qF Tryz.f18 6):=
 qg mixed qYJ (qP.of (l':=[]) (by kernel_rfl) trivial) (q:=6) (kin:=[1,2,5,6,7]) (kout:=[4]) (by kernel_rfl) (by kernel_rfl) fun vs objs K r h=>by
  replace h:qPO vs objs K=some r:=h
  unfold qPO at h
  split at h
  ·skip
   obtain⟨t,h1,h2⟩:=qD h
   rw[<- qYL] at h1
   refine⟨_,qPL,t,qC,h1,fun e vs' objs' hd=>?_⟩
   unfold qPL at hd
   split at hd
   ·skip
    cases hd
    exact h2
   ·skip
    cases hd
    exact h2
   ·cases hd
  ·cases h
def qYK:V->List Obj->Option (Bool):=fun v objs=>match v,objs with
 | .s (.b y0),[]=>some (y0)
 | _,_=>none
theorem qlC (x0 x1:LI) (x2 x3:Int):fnE qKu Tryz.f18 ([.agg [.arr .i8 81 x0,.arr .i8 16 x1,.one [.i .i8 x2]],.s (.i .i64 x3)]) ([]) qYK=qFc x0 x1 x2 x3:=by kernel_rfl
def qYI:HA:=fun o vs objs K=>match vs,objs with
 | [.agg [.arr .i8 81 x0,.arr .i8 16 x1,.one [.i .i8 x2]],.s (.i .i64 x3)],[]=>ob (qFc x0 x1 x2 x3) fun y0=>K false (.s (.b y0)) ([])
 | _,_=>o 18 vs objs K
def qKv (o:Orc):Orc:=qJ 18 (qYI o) o
theorem qPN:OQ Tryz.prog qKv:=fun _ ho=>qK ho fun vs objs K r h=>by
 unfold qYI at h
 split at h
 ·skip
  obtain⟨t,h1,h2⟩:=qD h
  refine qAM mixed qYJ (fn:=Tryz.f18) (b:=(Tryz.f18).body.getD .skip) (by kernel_rfl) (by kernel_rfl) (by kernel_rfl) ((qlC _ _ _ _).trans h1) (m:=0) rfl (qP.of (l':=[qF Tryz.f18 6]) (by kernel_rfl) ⟨qlF,trivial⟩) fun v objs' hd=>?_
  unfold qYK at hd;split at hd;(cases hd;exact h2);cases hd
 ·exact ho _ _ _ _ _ h
def qYF:Ctx:=mkC 15 ((qKv (qXr qH))) [] qS
theorem qlA:CtxOK Tryz.prog qYF:=mkC_ok ((qPN _ (qkh _ qI)))
def qYG:V->List Obj->Option (Int):=fun v objs=>match v,objs with
 | .s (.i .i64 y0),[]=>some (y0)
 | _,_=>none
theorem qk9 (x0 x1:LI) (x2:Int):fnE qYF Tryz.f7 ([.agg [.arr .i8 81 x0,.arr .i8 16 x1,.one [.i .i8 x2]]]) ([]) qYG=qHC x0 x1 x2:=by kernel_rfl
def qYE:HA:=fun o vs objs K=>match vs,objs with
 | [.agg [.arr .i8 81 x0,.arr .i8 16 x1,.one [.i .i8 x2]]],[]=>ob (qHC x0 x1 x2) fun y0=>K false (.s (.i .i64 y0)) ([])
 | _,_=>o 7 vs objs K
def qYH (o:Orc):Orc:=qJ 7 (qYE o) o
theorem qlB:OQ Tryz.prog qYH:=fun _ ho=>qK ho fun vs objs K r h=>by
 unfold qYE at h
 split at h
 ·skip
  obtain⟨t,h1,h2⟩:=qD h
  refine qV mixed qlA ((qk9 _ _ _).trans h1) (by kernel_rfl) fun v objs' hd=>?_
  unfold qYG at hd;split at hd;(cases hd;exact h2);cases hd
 ·exact ho _ _ _ _ _ h
def qYB:Ctx:=mkC 44 (qH) [] qS
theorem qk7:CtxOK Tryz.prog qYB:=mkC_ok (qI)
def qYC:V->List Obj->Option (Int):=fun v objs=>match v,objs with
 | .s (.i .i64 y0),[]=>some (y0)
 | _,_=>none
theorem qk6 (x0 x1 x2:Int) (x3:Bool):fnE qYB Tryz.f100 ([.agg [.one [.i .i64 x0,.i .i64 x1,.i .i64 x2,.b x3]]]) ([]) qYC=qIj x0 x1 x2 x3:=by kernel_rfl
def qYA:HA:=fun o vs objs K=>match vs,objs with
 | [.agg [.one [.i .i64 x0,.i .i64 x1,.i .i64 x2,.b x3]]],[]=>ob (qIj x0 x1 x2 x3) fun y0=>K false (.s (.i .i64 y0)) ([])
 | _,_=>o 100 vs objs K
def qYD (o:Orc):Orc:=qJ 100 (qYA o) o
theorem qk8:OQ Tryz.prog qYD:=fun _ ho=>qK ho fun vs objs K r h=>by
 unfold qYA at h
 split at h
 ·skip
  obtain⟨t,h1,h2⟩:=qD h
  refine qV mixed qk7 ((qk6 _ _ _ _).trans h1) (by kernel_rfl) fun v objs' hd=>?_
  unfold qYC at hd;split at hd;(cases hd;exact h2);cases hd
 ·exact ho _ _ _ _ _ h
def qW7:Ctx:=mkC 15 (qH) [] qS
theorem qj7:CtxOK Tryz.prog qW7:=mkC_ok (qI)
def qW8:V->List Obj->Option (Int):=fun v objs=>match v,objs with
 | .s (.i .i64 y0),[]=>some (y0)
 | _,_=>none
theorem qj6 (x0:Int):fnE qW7 Tryz.f101 ([.s (.i .i64 x0)]) ([]) qW8=qDm x0:=by kernel_rfl
def qW6:HA:=fun o vs objs K=>match vs,objs with
 | [.s (.i .i64 x0)],[]=>ob (qDm x0) fun y0=>K false (.s (.i .i64 y0)) ([])
 | _,_=>o 101 vs objs K
def qKj (o:Orc):Orc:=qJ 101 (qW6 o) o
theorem qOe:OQ Tryz.prog qKj:=fun _ ho=>qK ho fun vs objs K r h=>by
 unfold qW6 at h
 split at h
 ·skip
  obtain⟨t,h1,h2⟩:=qD h
  refine qV mixed qj7 ((qj6 _).trans h1) (by kernel_rfl) fun v objs' hd=>?_
  unfold qW8 at hd;split at hd;(cases hd;exact h2);cases hd
 ·exact ho _ _ _ _ _ h
def qYW:Ctx:=mkC 75 ((qKj (qCk (qEX (qYD qH))))) [] qS
theorem qlO:CtxOK Tryz.prog qYW:=mkC_ok ((qOe _ (qC6 _ (qFa _ (qk8 _ qI)))))
def qYX:V->List Obj->Option (Bool):=fun v objs=>match v,objs with
 | .s (.b y0),[]=>some (y0)
 | _,_=>none
theorem qlN (x0 x1:LI) (x2 x3:Int) (x4 x5:Int) (x6:Bool):fnE qYW Tryz.f51 ([.agg [.arr .i8 81 x0,.arr .i8 16 x1,.one [.i .i8 x2]],.agg [.one [.i .i64 x3,.i .i64 x4,.i .i64 x5,.b x6]]]) ([]) qYX=qIl x0 x1 x2 x3 x4 x5 x6:=by kernel_rfl
def qYV:HA:=fun o vs objs K=>match vs,objs with
 | [.agg [.arr .i8 81 x0,.arr .i8 16 x1,.one [.i .i8 x2]],.agg [.one [.i .i64 x3,.i .i64 x4,.i .i64 x5,.b x6]]],[]=>ob (qIl x0 x1 x2 x3 x4 x5 x6) fun y0=>K false (.s (.b y0)) ([])
 | _,_=>o 51 vs objs K
def qYY (o:Orc):Orc:=qJ 51 (qYV o) o
theorem qlP:OQ Tryz.prog qYY:=fun _ ho=>qK ho fun vs objs K r h=>by
 unfold qYV at h
 split at h
 ·skip
  obtain⟨t,h1,h2⟩:=qD h
  refine qV mixed qlO ((qlN _ _ _ _ _ _ _).trans h1) (by kernel_rfl) fun v objs' hd=>?_
  unfold qYX at hd;split at hd;(cases hd;exact h2);cases hd
 ·exact ho _ _ _ _ _ h
def qYh:Ctx:=mkC 35 ((qOg (qEX (qKj (qCk qH))))) [] qS
theorem qlb:CtxOK Tryz.prog qYh:=mkC_ok ((qXF _ (qFa _ (qOe _ (qC6 _ qI)))))
def qYi:V->List Obj->Option (Bool):=fun v objs=>match v,objs with
 | .s (.b y0),[]=>some (y0)
 | _,_=>none
theorem qla (x0 x1 x2:Int):fnE qYh Tryz.f52 ([.s (.i .i64 x0),.s (.i .i64 x1),.s (.i .i64 x2)]) ([]) qYi=qIn x0 x1 x2:=by kernel_rfl
def qYg:HA:=fun o vs objs K=>match vs,objs with
 | [.s (.i .i64 x0),.s (.i .i64 x1),.s (.i .i64 x2)],[]=>ob (qIn x0 x1 x2) fun y0=>K false (.s (.b y0)) ([])
 | _,_=>o 52 vs objs K
def qYj (o:Orc):Orc:=qJ 52 (qYg o) o
theorem qlc:OQ Tryz.prog qYj:=fun _ ho=>qK ho fun vs objs K r h=>by
 unfold qYg at h
 split at h
 ·skip
  obtain⟨t,h1,h2⟩:=qD h
  refine qV mixed qlb ((qla _ _ _).trans h1) (by kernel_rfl) fun v objs' hd=>?_
  unfold qYi at hd;split at hd;(cases hd;exact h2);cases hd
 ·exact ho _ _ _ _ _ h
def qYp:Ctx:=mkC 14 ((qKk (qKj (qCk qH)))) [] qS
theorem qlh:CtxOK Tryz.prog qYp:=mkC_ok ((qOf _ (qOe _ (qC6 _ qI))))
def qYq:V->List Obj->Option (Bool):=fun v objs=>match v,objs with
 | .s (.b y0),[]=>some (y0)
 | _,_=>none
theorem qlg (x0 x1:Int):fnE qYp Tryz.f53 ([.s (.i .i64 x0),.s (.i .i64 x1)]) ([]) qYq=qIo x0 x1:=by kernel_rfl
def qYo:HA:=fun o vs objs K=>match vs,objs with
 | [.s (.i .i64 x0),.s (.i .i64 x1)],[]=>ob (qIo x0 x1) fun y0=>K false (.s (.b y0)) ([])
 | _,_=>o 53 vs objs K
def qYr (o:Orc):Orc:=qJ 53 (qYo o) o
theorem qli:OQ Tryz.prog qYr:=fun _ ho=>qK ho fun vs objs K r h=>by
 unfold qYo at h
 split at h
 ·skip
  obtain⟨t,h1,h2⟩:=qD h
  refine qV mixed qlh ((qlg _ _).trans h1) (by kernel_rfl) fun v objs' hd=>?_
  unfold qYq at hd;split at hd;(cases hd;exact h2);cases hd
 ·exact ho _ _ _ _ _ h
def qYl:Ctx:=mkC 70 ((qYr (qYj (qKn (qKs (qKq (qKk (qYY qH)))))))) [] qS
theorem qle:CtxOK Tryz.prog qYl:=mkC_ok ((qli _ (qlc _ (qOo _ (qPG _ (qPC _ (qOf _ (qlP _ qI))))))))
def qYm:V->List Obj->Option (Bool):=fun v objs=>match v,objs with
 | .s (.b y0),[]=>some (y0)
 | _,_=>none
theorem qld (x0 x1:LI) (x2 x3:Int) (x4 x5:Int) (x6:Bool):fnE qYl Tryz.f21 ([.agg [.arr .i8 81 x0,.arr .i8 16 x1,.one [.i .i8 x2]],.agg [.one [.i .i64 x3,.i .i64 x4,.i .i64 x5,.b x6]]]) ([]) qYm=qEi x0 x1 x2 x3 x4 x5 x6:=by kernel_rfl
def qYk:HA:=fun o vs objs K=>match vs,objs with
 | [.agg [.arr .i8 81 x0,.arr .i8 16 x1,.one [.i .i8 x2]],.agg [.one [.i .i64 x3,.i .i64 x4,.i .i64 x5,.b x6]]],[]=>ob (qEi x0 x1 x2 x3 x4 x5 x6) fun y0=>K false (.s (.b y0)) ([])
 | _,_=>o 21 vs objs K
def qYn (o:Orc):Orc:=qJ 21 (qYk o) o
theorem qlf:OQ Tryz.prog qYn:=fun _ ho=>qK ho fun vs objs K r h=>by
 unfold qYk at h
 split at h
 ·skip
  obtain⟨t,h1,h2⟩:=qD h
  refine qV mixed qle ((qld _ _ _ _ _ _ _).trans h1) (by kernel_rfl) fun v objs' hd=>?_
  unfold qYm at hd;split at hd;(cases hd;exact h2);cases hd
 ·exact ho _ _ _ _ _ h
def qPT:Ex->List V->List Obj->Option (Nat×Int×LI×LI×Int×Nat×LL×List Bool):=fun e vs objs=>match e,vs,objs with
 | .exit 2,[.s (.ptr 0 0 none 0),.s (.sl 1 0 y0 true),.s (.ptr 2 0 none 0),.s (.i .i64 y1)],[.cells 29 [.arr .i8 81 y2,.arr .i8 16 y3,.one [.i .i8 y4]],.sli 41 false (.rows [.i .i64,.i .i64,.i .i64,.b] y5 y6),.cells 89 [Seg.barr 81 y7]]=>some (y0,y1,y2,y3,y4,y5,y6,y7)
 | _,_,_=>none
def qPZ:Ex->List V->List Obj->Option (Nat×LI×LI×Int×Nat×LL):=fun e vs objs=>match e,vs,objs with
 | .exit 0,[.s (.ptr 0 0 none 0),.s (.sl 1 0 y0 true)],[.cells 29 [.arr .i8 81 y1,.arr .i8 16 y2,.one [.i .i8 y3]],.sli 41 false (.rows [.i .i64,.i .i64,.i .i64,.b] y4 y5)]=>some (y0,y1,y2,y3,y4,y5)
 | _,_,_=>none
def qPX:Ex->List V->List Obj->Option (Nat×Int×LI×LI×Int×Nat×LL):=fun e vs objs=>match e,vs,objs with
 | .exit 6,[.s (.ptr 0 0 none 0),.s (.sl 1 0 y0 true),.s (.i .i64 y1)],[.cells 29 [.arr .i8 81 y2,.arr .i8 16 y3,.one [.i .i8 y4]],.sli 41 false (.rows [.i .i64,.i .i64,.i .i64,.b] y5 y6)]=>some (y0,y1,y2,y3,y4,y5,y6)
 | _,_,_=>none
def qPV:Ex->List V->List Obj->Option (Nat×Nat×LL):=fun e vs objs=>match e,vs,objs with
 | .exit 4,[.s (.sl 0 0 y0 true)],[.sli 41 false (.rows [.i .i64,.i .i64,.i .i64,.b] y1 y2)]=>some (y0,y1,y2)
 | _,_,_=>none
def qPc:HL:=fun vs objs K=>match vs,objs with
 | [.s (.ptr 0 0 none 0),.s (.sl 1 0 x0 true),.s (.ptr 2 0 none 0),.s (.i .i64 x1),.s (.i .i64 x2)],[.cells 29 [.arr .i8 81 x3,.arr .i8 16 x4,.one [.i .i8 x5]],.sli 41 false (.rows [.i .i64,.i .i64,.i .i64,.b] x6 x7),.cells 89 [Seg.barr 81 x8]]=>ob (qEg qC x0 x1 x2 x3 x4 x5 x6 x7 x8) fun z=>K (.exit 2) ([.s (.ptr 0 0 none 0),.s (.sl 1 0 (z.1) true),.s (.ptr 2 0 none 0),.s (.i .i64 (z.2.1))]) ([.cells 29 [.arr .i8 81 (z.2.2.1),.arr .i8 16 (z.2.2.2.1),.one [.i .i8 (z.2.2.2.2.1)]],.sli 41 false (.rows [.i .i64,.i .i64,.i .i64,.b] (z.2.2.2.2.2.1) (z.2.2.2.2.2.2.1)),.cells 89 [Seg.barr 81 (z.2.2.2.2.2.2.2)]])
 | _,_=>none
def qPf:HL:=fun vs objs K=>match vs,objs with
 | [.s (.ptr 0 0 none 0),.s (.sl 1 0 x0 true),.s (.ptr 2 0 none 0),.s (.i .i64 x1)],[.cells 29 [.arr .i8 81 x2,.arr .i8 16 x3,.one [.i .i8 x4]],.sli 41 false (.rows [.i .i64,.i .i64,.i .i64,.b] x5 x6),.cells 89 [Seg.barr 81 x7]]=>ob (qDI qC x0 x1 x2 x3 x4 x5 x6 x7) fun z=>K (.exit 0) ([.s (.ptr 0 0 none 0),.s (.sl 1 0 (z.1) true)]) ([.cells 29 [.arr .i8 81 (z.2.1),.arr .i8 16 (z.2.2.1),.one [.i .i8 (z.2.2.2.1)]],.sli 41 false (.rows [.i .i64,.i .i64,.i .i64,.b] (z.2.2.2.2.1) (z.2.2.2.2.2))])
 | _,_=>none
def qPe:HL:=fun vs objs K=>match vs,objs with
 | [.s (.ptr 0 0 none 0),.s (.sl 1 0 x0 true),.s (.i .i64 x1),.s (.i .i64 x2)],[.cells 29 [.arr .i8 81 x3,.arr .i8 16 x4,.one [.i .i8 x5]],.sli 41 false (.rows [.i .i64,.i .i64,.i .i64,.b] x6 x7)]=>ob (qEh qC x0 x1 x2 x3 x4 x5 x6 x7) fun z=>K (.exit 6) ([.s (.ptr 0 0 none 0),.s (.sl 1 0 (z.1) true),.s (.i .i64 (z.2.1))]) ([.cells 29 [.arr .i8 81 (z.2.2.1),.arr .i8 16 (z.2.2.2.1),.one [.i .i8 (z.2.2.2.2.1)]],.sli 41 false (.rows [.i .i64,.i .i64,.i .i64,.b] (z.2.2.2.2.2.1) (z.2.2.2.2.2.2))])
 | _,_=>none
def qPd:HL:=fun vs objs K=>match vs,objs with
 | [.s (.ptr 0 0 none 0),.s (.sl 1 0 x0 true),.s (.i .i64 x1)],[.cells 29 [.arr .i8 81 x2,.arr .i8 16 x3,.one [.i .i8 x4]],.sli 41 false (.rows [.i .i64,.i .i64,.i .i64,.b] x5 x6)]=>ob (qDH qC x0 x1 x2 x3 x4 x5 x6) fun z=>K (.exit 4) ([.s (.sl 0 0 (z.1) true)]) ([.sli 41 false (.rows [.i .i64,.i .i64,.i .i64,.b] (z.2.1) (z.2.2))])
 | _,_=>none
def qlV:{R:Type}->Nat->List V->List Obj->(Ex->List V->List Obj->Option R)->Option R:=fun q vs objs K=>bif Nat.beq q 10 then qPc vs objs K else bif Nat.beq q 6 then qPf vs objs K else bif Nat.beq q 23 then qPe vs objs K else bif Nat.beq q 20 then qPd vs objs K else none
def qDG:Ctx:=mkC 98 ((qYn (qKn (qEX (qKs qH))))) [(6,[1,3,4,5],[1,3]),(10,[1,3,4,5,6],[1,3,4,5]),(20,[1,3,8],[3]),(23,[1,3,8,9],[1,3,8])] qlV
theorem qIm:CtxOK Tryz.prog qDG:=mkC_ok ((qlf _ (qOo _ (qFa _ (qPG _ qI)))))
def qPU (f:Nat) (x0:Nat) (x1 x2:Int) (x3 x4:LI) (x5:Int) (x6:Nat) (x7:LL) (x8:List Bool):Option (Nat×Int×LI×LI×Int×Nat×LL×List Bool):=qe qDG 0 [1,3,4,5,6] [1,3,4,5] (qF Tryz.f26 10) f ([.s (.ptr 0 0 none 0),.s (.sl 1 0 x0 true),.s (.ptr 2 0 none 0),.s (.i .i64 x1),.s (.i .i64 x2)]) ([.cells 29 [.arr .i8 81 x3,.arr .i8 16 x4,.one [.i .i8 x5]],.sli 41 false (.rows [.i .i64,.i .i64,.i .i64,.b] x6 x7),.cells 89 [Seg.barr 81 x8]]) qPT
theorem qlR (f:Nat) (x0:Nat) (x1 x2:Int) (x3 x4:LI) (x5:Int) (x6:Nat) (x7:LL) (x8:List Bool):qPU (f+1) x0 x1 x2 x3 x4 x5 x6 x7 x8=qHH (qPU f) x0 x1 x2 x3 x4 x5 x6 x7 x8:=by kernel_rfl
theorem qYb:∀ f,qPU f=qEg f
 | 0=>rfl
 | f+1=>by funext x0 x1 x2 x3 x4 x5 x6 x7 x8;rw[qlR,qYb f];rfl
def qPa (f:Nat) (x0:Nat) (x1:Int) (x2 x3:LI) (x4:Int) (x5:Nat) (x6:LL) (x7:List Bool):Option (Nat×LI×LI×Int×Nat×LL):=qe qDG 0 [1,3,4,5] [1,3] (qF Tryz.f26 6) f ([.s (.ptr 0 0 none 0),.s (.sl 1 0 x0 true),.s (.ptr 2 0 none 0),.s (.i .i64 x1)]) ([.cells 29 [.arr .i8 81 x2,.arr .i8 16 x3,.one [.i .i8 x4]],.sli 41 false (.rows [.i .i64,.i .i64,.i .i64,.b] x5 x6),.cells 89 [Seg.barr 81 x7]]) qPZ
theorem qlU (f:Nat) (x0:Nat) (x1:Int) (x2 x3:LI) (x4:Int) (x5:Nat) (x6:LL) (x7:List Bool):qPa (f+1) x0 x1 x2 x3 x4 x5 x6 x7=qHK (qPa f) x0 x1 x2 x3 x4 x5 x6 x7:=by kernel_rfl
theorem qYe:∀ f,qPa f=qDI f
 | 0=>rfl
 | f+1=>by funext x0 x1 x2 x3 x4 x5 x6 x7;rw[qlU,qYe f];rfl
def qPY (f:Nat) (x0:Nat) (x1 x2:Int) (x3 x4:LI) (x5:Int) (x6:Nat) (x7:LL):Option (Nat×Int×LI×LI×Int×Nat×LL):=qe qDG 0 [1,3,8,9] [1,3,8] (qF Tryz.f26 23) f ([.s (.ptr 0 0 none 0),.s (.sl 1 0 x0 true),.s (.i .i64 x1),.s (.i .i64 x2)]) ([.cells 29 [.arr .i8 81 x3,.arr .i8 16 x4,.one [.i .i8 x5]],.sli 41 false (.rows [.i .i64,.i .i64,.i .i64,.b] x6 x7)]) qPX
theorem qlT (f:Nat) (x0:Nat) (x1 x2:Int) (x3 x4:LI) (x5:Int) (x6:Nat) (x7:LL):qPY (f+1) x0 x1 x2 x3 x4 x5 x6 x7=qHJ (qPY f) x0 x1 x2 x3 x4 x5 x6 x7:=by kernel_rfl
theorem qYd:∀ f,qPY f=qEh f
 | 0=>rfl
 | f+1=>by funext x0 x1 x2 x3 x4 x5 x6 x7;rw[qlT,qYd f];rfl
def qPW (f:Nat) (x0:Nat) (x1:Int) (x2 x3:LI) (x4:Int) (x5:Nat) (x6:LL):Option (Nat×Nat×LL):=qe qDG 0 [1,3,8] [3] (qF Tryz.f26 20) f ([.s (.ptr 0 0 none 0),.s (.sl 1 0 x0 true),.s (.i .i64 x1)]) ([.cells 29 [.arr .i8 81 x2,.arr .i8 16 x3,.one [.i .i8 x4]],.sli 41 false (.rows [.i .i64,.i .i64,.i .i64,.b] x5 x6)]) qPV
theorem qlS (f:Nat) (x0:Nat) (x1:Int) (x2 x3:LI) (x4:Int) (x5:Nat) (x6:LL):qPW (f+1) x0 x1 x2 x3 x4 x5 x6=qHI (qPW f) x0 x1 x2 x3 x4 x5 x6:=by kernel_rfl
theorem qYc:∀ f,qPW f=qDH f
 | 0=>rfl
 | f+1=>by funext x0 x1 x2 x3 x4 x5 x6;rw[qlS,qYc f];rfl
theorem qlW:qc Tryz.prog qDG 0 (qF Tryz.f26 10):=
 qg mixed qIm (qP.of (l':=[]) (by kernel_rfl) trivial) (q:=10) (kin:=[1,3,4,5,6]) (kout:=[1,3,4,5]) (by kernel_rfl) (by kernel_rfl) fun vs objs K r h=>by
  replace h:qPc vs objs K=some r:=h
  unfold qPc at h
  split at h
  ·skip
   obtain⟨t,h1,h2⟩:=qD h
   rw[<- qYb] at h1
   refine⟨_,qPT,t,qC,h1,fun e vs' objs' hd=>?_⟩
   unfold qPT at hd;split at hd;(cases hd;exact h2);cases hd
  ·cases h
theorem qlY:qc Tryz.prog qDG 0 (qF Tryz.f26 23):=
 qg mixed qIm (qP.of (l':=[]) (by kernel_rfl) trivial) (q:=23) (kin:=[1,3,8,9]) (kout:=[1,3,8]) (by kernel_rfl) (by kernel_rfl) fun vs objs K r h=>by
  replace h:qPe vs objs K=some r:=h
  unfold qPe at h
  split at h
  ·skip
   obtain⟨t,h1,h2⟩:=qD h
   rw[<- qYd] at h1
   refine⟨_,qPX,t,qC,h1,fun e vs' objs' hd=>?_⟩
   unfold qPX at hd;split at hd;(cases hd;exact h2);cases hd
  ·cases h
theorem qlZ:qc Tryz.prog qDG 0 (qF Tryz.f26 6):=
 qg mixed qIm (qP.of (l':=[qF Tryz.f26 10]) (by kernel_rfl) ⟨qlW,trivial⟩) (q:=6) (kin:=[1,3,4,5]) (kout:=[1,3]) (by kernel_rfl) (by kernel_rfl) fun vs objs K r h=>by
  replace h:qPf vs objs K=some r:=h
  unfold qPf at h
  split at h
  ·skip
   obtain⟨t,h1,h2⟩:=qD h
   rw[<- qYe] at h1
   refine⟨_,qPZ,t,qC,h1,fun e vs' objs' hd=>?_⟩
   unfold qPZ at hd;split at hd;(cases hd;exact h2);cases hd
  ·cases h
theorem qlX:qc Tryz.prog qDG 0 (qF Tryz.f26 20):=
 qg mixed qIm (qP.of (l':=[qF Tryz.f26 23]) (by kernel_rfl) ⟨qlY,trivial⟩) (q:=20) (kin:=[1,3,8]) (kout:=[3]) (by kernel_rfl) (by kernel_rfl) fun vs objs K r h=>by
  replace h:qPd vs objs K=some r:=h
  unfold qPd at h
  split at h
  ·skip
   obtain⟨t,h1,h2⟩:=qD h
   rw[<- qYc] at h1
   refine⟨_,qPV,t,qC,h1,fun e vs' objs' hd=>?_⟩
   unfold qPV at hd;split at hd;(cases hd;exact h2);cases hd
  ·cases h
def qYa:V->List Obj->Option (Nat×Nat×LL):=fun v objs=>match v,objs with
 | .s (.sl 0 0 y0 true),[.sli 41 false (.rows [.i .i64,.i .i64,.i .i64,.b] y1 y2)]=>some (y0,y1,y2)
 | _,_=>none
theorem qlQ (x0 x1:LI) (x2:Int):fnE qDG Tryz.f26 ([.agg [.arr .i8 81 x0,.arr .i8 16 x1,.one [.i .i8 x2]]]) ([]) qYa=qHG x0 x1 x2:=by kernel_rfl
def qYZ:HA:=fun o vs objs K=>match vs,objs with
 | [.agg [.arr .i8 81 x0,.arr .i8 16 x1,.one [.i .i8 x2]]],[]=>ob (qHG x0 x1 x2) fun z=>K false (.s (.sl 0 0 (z.1) true)) ([.sli 41 false (.rows [.i .i64,.i .i64,.i .i64,.b] (z.2.1) (z.2.2))])
 | _,_=>o 26 vs objs K
def qPb (o:Orc):Orc:=qJ 26 (qYZ o) o
theorem qYf:OQ Tryz.prog qPb:=fun _ ho=>qK ho fun vs objs K r h=>by
 unfold qYZ at h
 split at h
 ·skip
  obtain⟨t,h1,h2⟩:=qD h
  refine qAM mixed qIm (fn:=Tryz.f26) (b:=(Tryz.f26).body.getD .skip) (by kernel_rfl) (by kernel_rfl) (by kernel_rfl) ((qlQ _ _ _).trans h1) (m:=0) rfl (qP.of (l':=[qF Tryz.f26 6,qF Tryz.f26 20]) (by kernel_rfl) ⟨qlZ,qlX,trivial⟩) fun v objs' hd=>?_
  unfold qYa at hd;split at hd;(cases hd;exact h2);cases hd
 ·exact ho _ _ _ _ _ h
def qYS:Ctx:=mkC 82 ((qOd (qCk qH))) [] qS
theorem qlM:CtxOK Tryz.prog qYS:=mkC_ok ((qWy _ (qC6 _ qI)))
def qYT:V->List Obj->Option (LI×LI×Int):=fun v objs=>match v,objs with
 | .agg [.arr .i8 81 y0,.arr .i8 16 y1,.one [.i .i8 y2]],[]=>some (y0,y1,y2)
 | _,_=>none
theorem qlL (x0 x1:LI) (x2 x3:Int) (x4 x5:Int) (x6:Bool):fnE qYS Tryz.f11 ([.agg [.arr .i8 81 x0,.arr .i8 16 x1,.one [.i .i8 x2]],.agg [.one [.i .i64 x3,.i .i64 x4,.i .i64 x5,.b x6]]]) ([]) qYT=qHF x0 x1 x2 x3 x4 x5 x6:=by kernel_rfl
def qYR:HA:=fun o vs objs K=>match vs,objs with
 | [.agg [.arr .i8 81 x0,.arr .i8 16 x1,.one [.i .i8 x2]],.agg [.one [.i .i64 x3,.i .i64 x4,.i .i64 x5,.b x6]]],[]=>ob (qHF x0 x1 x2 x3 x4 x5 x6) fun z=>K false (.agg [.arr .i8 81 (z.1),.arr .i8 16 (z.2.1),.one [.i .i8 (z.2.2)]]) ([])
 | _,_=>o 11 vs objs K
def qPS (o:Orc):Orc:=qJ 11 (qYR o) o
theorem qYU:OQ Tryz.prog qPS:=fun _ ho=>qK ho fun vs objs K r h=>by
 unfold qYR at h
 split at h
 ·skip
  obtain⟨t,h1,h2⟩:=qD h
  refine qV mixed qlM ((qlL _ _ _ _ _ _ _).trans h1) (by kernel_rfl) fun v objs' hd=>?_
  unfold qYT at hd;split at hd;(cases hd;exact h2);cases hd
 ·exact ho _ _ _ _ _ h
def qY2:Ctx:=mkC 13 ((qKv (qPS qH))) [] qS
theorem qls:CtxOK Tryz.prog qY2:=mkC_ok ((qPN _ (qYU _ qI)))
def qY3:V->List Obj->Option (Bool):=fun v objs=>match v,objs with
 | .s (.b y0),[]=>some (y0)
 | _,_=>none
theorem qlr (x0 x1:LI) (x2 x3:Int) (x4 x5:Int) (x6:Bool):fnE qY2 Tryz.f54 ([.agg [.arr .i8 81 x0,.arr .i8 16 x1,.one [.i .i8 x2]],.agg [.one [.i .i64 x3,.i .i64 x4,.i .i64 x5,.b x6]]]) ([]) qY3=qHN x0 x1 x2 x3 x4 x5 x6:=by kernel_rfl
def qY1:HA:=fun o vs objs K=>match vs,objs with
 | [.agg [.arr .i8 81 x0,.arr .i8 16 x1,.one [.i .i8 x2]],.agg [.one [.i .i64 x3,.i .i64 x4,.i .i64 x5,.b x6]]],[]=>ob (qHN x0 x1 x2 x3 x4 x5 x6) fun y0=>K false (.s (.b y0)) ([])
 | _,_=>o 54 vs objs K
def qPj (o:Orc):Orc:=qJ 54 (qY1 o) o
theorem qY4:OQ Tryz.prog qPj:=fun _ ho=>qK ho fun vs objs K r h=>by
 unfold qY1 at h
 split at h
 ·skip
  obtain⟨t,h1,h2⟩:=qD h
  refine qV mixed qls ((qlr _ _ _ _ _ _ _).trans h1) (by kernel_rfl) fun v objs' hd=>?_
  unfold qY3 at hd;split at hd;(cases hd;exact h2);cases hd
 ·exact ho _ _ _ _ _ h
def qPk:Ex->List V->List Obj->Option ((Bool)⊕(Unit)):=fun e vs objs=>match e,vs,objs with
 | .ret,[.s (.b y0)],[]=>some (.inl (y0))
 | .exit 0,[.s .bad],[]=>some (.inr ())
 | _,_,_=>none
def qPm:HL:=fun vs objs K=>match vs,objs with
 | [.s (.ptr 0 0 none 0),.s (.sl 1 0 x0 true),.s (.i .i64 x1)],[.cells 29 [.arr .i8 81 x2,.arr .i8 16 x3,.one [.i .i8 x4]],.sli 41 false (.rows [.i .i64,.i .i64,.i .i64,.b] x5 x6)]=>ob (qEk qC x0 x1 x2 x3 x4 x5 x6) fun t0=>sw t0 (fun y0=>K (.ret) ([.s (.b y0)]) ([])) (fun _=>K (.exit 0) ([.s .bad]) ([]))
 | _,_=>none
def qlv:{R:Type}->Nat->List V->List Obj->(Ex->List V->List Obj->Option R)->Option R:=fun q vs objs K=>bif Nat.beq q 3 then qPm vs objs K else none
def qKy:Ctx:=mkC 19 ((qPj (qPb qH))) [(3,[1,3,4],[2])] qlv
theorem qY6:CtxOK Tryz.prog qKy:=mkC_ok ((qY4 _ (qYf _ qI)))
def qPl (f:Nat) (x0:Nat) (x1:Int) (x2 x3:LI) (x4:Int) (x5:Nat) (x6:LL):Option ((Bool)⊕(Unit)):=qe qKy 0 [1,3,4] [2] (qF Tryz.f55 3) f ([.s (.ptr 0 0 none 0),.s (.sl 1 0 x0 true),.s (.i .i64 x1)]) ([.cells 29 [.arr .i8 81 x2,.arr .i8 16 x3,.one [.i .i8 x4]],.sli 41 false (.rows [.i .i64,.i .i64,.i .i64,.b] x5 x6)]) qPk
theorem qlu (f:Nat) (x0:Nat) (x1:Int) (x2 x3:LI) (x4:Int) (x5:Nat) (x6:LL):qPl (f+1) x0 x1 x2 x3 x4 x5 x6=qHO (qPl f) x0 x1 x2 x3 x4 x5 x6:=by kernel_rfl
theorem qY8:∀ f,qPl f=qEk f
 | 0=>rfl
 | f+1=>by funext x0 x1 x2 x3 x4 x5 x6;rw[qlu,qY8 f];rfl
theorem qlx:qc Tryz.prog qKy 0 (qF Tryz.f55 3):=
 qg mixed qY6 (qP.of (l':=[]) (by kernel_rfl) trivial) (q:=3) (kin:=[1,3,4]) (kout:=[2]) (by kernel_rfl) (by kernel_rfl) fun vs objs K r h=>by
  replace h:qPm vs objs K=some r:=h
  unfold qPm at h
  split at h
  ·skip
   obtain⟨t,h1,h2⟩:=qD h
   rw[<- qY8] at h1
   refine⟨_,qPk,t,qC,h1,fun e vs' objs' hd=>?_⟩
   unfold qPk at hd
   split at hd
   ·skip
    cases hd
    exact h2
   ·skip
    cases hd
    exact h2
   ·cases hd
  ·cases h
def qY7:V->List Obj->Option (Bool):=fun v objs=>match v,objs with
 | .s (.b y0),[]=>some (y0)
 | _,_=>none
theorem qlt (x0 x1:LI) (x2:Int):fnE qKy Tryz.f55 ([.agg [.arr .i8 81 x0,.arr .i8 16 x1,.one [.i .i8 x2]]]) ([]) qY7=qIq x0 x1 x2:=by kernel_rfl
def qY5:HA:=fun o vs objs K=>match vs,objs with
 | [.agg [.arr .i8 81 x0,.arr .i8 16 x1,.one [.i .i8 x2]]],[]=>ob (qIq x0 x1 x2) fun y0=>K false (.s (.b y0)) ([])
 | _,_=>o 55 vs objs K
def qY9 (o:Orc):Orc:=qJ 55 (qY5 o) o
theorem qlw:OQ Tryz.prog qY9:=fun _ ho=>qK ho fun vs objs K r h=>by
 unfold qY5 at h
 split at h
 ·skip
  obtain⟨t,h1,h2⟩:=qD h
  refine qAM mixed qY6 (fn:=Tryz.f55) (b:=(Tryz.f55).body.getD .skip) (by kernel_rfl) (by kernel_rfl) (by kernel_rfl) ((qlt _ _ _).trans h1) (m:=0) rfl (qP.of (l':=[qF Tryz.f55 3]) (by kernel_rfl) ⟨qlx,trivial⟩) fun v objs' hd=>?_
  unfold qY7 at hd;split at hd;(cases hd;exact h2);cases hd
 ·exact ho _ _ _ _ _ h
def qYy:Ctx:=mkC 27 ((qY9 (qKv (qPS (qPj qH))))) [] qS
theorem qlp:CtxOK Tryz.prog qYy:=mkC_ok ((qlw _ (qPN _ (qYU _ (qY4 _ qI)))))
def qYz:V->List Obj->Option (Bool):=fun v objs=>match v,objs with
 | .s (.b y0),[]=>some (y0)
 | _,_=>none
theorem qlo (x0 x1:LI) (x2 x3:Int) (x4 x5:Int) (x6:Bool):fnE qYy Tryz.f22 ([.agg [.arr .i8 81 x0,.arr .i8 16 x1,.one [.i .i8 x2]],.agg [.one [.i .i64 x3,.i .i64 x4,.i .i64 x5,.b x6]]]) ([]) qYz=qIp x0 x1 x2 x3 x4 x5 x6:=by kernel_rfl
def qYx:HA:=fun o vs objs K=>match vs,objs with
 | [.agg [.arr .i8 81 x0,.arr .i8 16 x1,.one [.i .i8 x2]],.agg [.one [.i .i64 x3,.i .i64 x4,.i .i64 x5,.b x6]]],[]=>ob (qIp x0 x1 x2 x3 x4 x5 x6) fun y0=>K false (.s (.b y0)) ([])
 | _,_=>o 22 vs objs K
def qY0 (o:Orc):Orc:=qJ 22 (qYx o) o
theorem qlq:OQ Tryz.prog qY0:=fun _ ho=>qK ho fun vs objs K r h=>by
 unfold qYx at h
 split at h
 ·skip
  obtain⟨t,h1,h2⟩:=qD h
  refine qV mixed qlp ((qlo _ _ _ _ _ _ _).trans h1) (by kernel_rfl) fun v objs' hd=>?_
  unfold qYz at hd;split at hd;(cases hd;exact h2);cases hd
 ·exact ho _ _ _ _ _ h
def qPg:Ex->List V->List Obj->Option (Nat×Nat×LL):=fun e vs objs=>match e,vs,objs with
 | .exit 0,[.s (.sl 0 0 y0 true)],[.sli 41 false (.rows [.i .i64,.i .i64,.i .i64,.b] y1 y2)]=>some (y0,y1,y2)
 | _,_,_=>none
def qPi:HL:=fun vs objs K=>match vs,objs with
 | [.s (.ptr 0 0 none 0),.s (.sl 1 0 x0 true),.s (.sl 2 0 x1 true),.s (.i .i64 x2)],[.cells 29 [.arr .i8 81 x3,.arr .i8 16 x4,.one [.i .i8 x5]],.sli 41 false (.rows [.i .i64,.i .i64,.i .i64,.b] x6 x7),.sli 41 false (.rows [.i .i64,.i .i64,.i .i64,.b] x8 x9)]=>ob (qEj qC x0 x1 x2 x3 x4 x5 x6 x7 x8 x9) fun z=>K (.exit 0) ([.s (.sl 0 0 (z.1) true)]) ([.sli 41 false (.rows [.i .i64,.i .i64,.i .i64,.b] (z.2.1) (z.2.2))])
 | _,_=>none
def qll:{R:Type}->Nat->List V->List Obj->(Ex->List V->List Obj->Option R)->Option R:=fun q vs objs K=>bif Nat.beq q 4 then qPi vs objs K else none
def qKx:Ctx:=mkC 28 ((qY0 (qPb qH))) [(4,[1,3,4,5],[3])] qll
theorem qYt:CtxOK Tryz.prog qKx:=mkC_ok ((qlq _ (qYf _ qI)))
def qPh (f:Nat) (x0 x1:Nat) (x2:Int) (x3 x4:LI) (x5:Int) (x6:Nat) (x7:LL) (x8:Nat) (x9:LL):Option (Nat×Nat×LL):=qe qKx 0 [1,3,4,5] [3] (qF Tryz.f13 4) f ([.s (.ptr 0 0 none 0),.s (.sl 1 0 x0 true),.s (.sl 2 0 x1 true),.s (.i .i64 x2)]) ([.cells 29 [.arr .i8 81 x3,.arr .i8 16 x4,.one [.i .i8 x5]],.sli 41 false (.rows [.i .i64,.i .i64,.i .i64,.b] x6 x7),.sli 41 false (.rows [.i .i64,.i .i64,.i .i64,.b] x8 x9)]) qPg
theorem qlk (f:Nat) (x0 x1:Nat) (x2:Int) (x3 x4:LI) (x5:Int) (x6:Nat) (x7:LL) (x8:Nat) (x9:LL):qPh (f+1) x0 x1 x2 x3 x4 x5 x6 x7 x8 x9=qHM (qPh f) x0 x1 x2 x3 x4 x5 x6 x7 x8 x9:=by kernel_rfl
theorem qYv:∀ f,qPh f=qEj f
 | 0=>rfl
 | f+1=>by funext x0 x1 x2 x3 x4 x5 x6 x7 x8 x9;rw[qlk,qYv f];rfl
theorem qln:qc Tryz.prog qKx 0 (qF Tryz.f13 4):=
 qg mixed qYt (qP.of (l':=[]) (by kernel_rfl) trivial) (q:=4) (kin:=[1,3,4,5]) (kout:=[3]) (by kernel_rfl) (by kernel_rfl) fun vs objs K r h=>by
  replace h:qPi vs objs K=some r:=h
  unfold qPi at h
  split at h
  ·skip
   obtain⟨t,h1,h2⟩:=qD h
   rw[<- qYv] at h1
   refine⟨_,qPg,t,qC,h1,fun e vs' objs' hd=>?_⟩
   unfold qPg at hd;split at hd;(cases hd;exact h2);cases hd
  ·cases h
def qYu:V->List Obj->Option (Nat×Nat×LL):=fun v objs=>match v,objs with
 | .s (.sl 0 0 y0 true),[.sli 41 false (.rows [.i .i64,.i .i64,.i .i64,.b] y1 y2)]=>some (y0,y1,y2)
 | _,_=>none
theorem qlj (x0 x1:LI) (x2:Int):fnE qKx Tryz.f13 ([.agg [.arr .i8 81 x0,.arr .i8 16 x1,.one [.i .i8 x2]]]) ([]) qYu=qHL x0 x1 x2:=by kernel_rfl
def qYs:HA:=fun o vs objs K=>match vs,objs with
 | [.agg [.arr .i8 81 x0,.arr .i8 16 x1,.one [.i .i8 x2]]],[]=>ob (qHL x0 x1 x2) fun z=>K false (.s (.sl 0 0 (z.1) true)) ([.sli 41 false (.rows [.i .i64,.i .i64,.i .i64,.b] (z.2.1) (z.2.2))])
 | _,_=>o 13 vs objs K
def qYw (o:Orc):Orc:=qJ 13 (qYs o) o
theorem qlm:OQ Tryz.prog qYw:=fun _ ho=>qK ho fun vs objs K r h=>by
 unfold qYs at h
 split at h
 ·skip
  obtain⟨t,h1,h2⟩:=qD h
  refine qAM mixed qYt (fn:=Tryz.f13) (b:=(Tryz.f13).body.getD .skip) (by kernel_rfl) (by kernel_rfl) (by kernel_rfl) ((qlj _ _ _).trans h1) (m:=0) rfl (qP.of (l':=[qF Tryz.f13 4]) (by kernel_rfl) ⟨qln,trivial⟩) fun v objs' hd=>?_
  unfold qYu at hd;split at hd;(cases hd;exact h2);cases hd
 ·exact ho _ _ _ _ _ h
def qUr:Ctx:=mkC 90 ((qQA (qQE (qYw (qYH (qP6 (qUw qH))))))) [] qS
theorem qUs:CtxOK Tryz.prog qUr:=mkC_ok ((qZa _ (qZg _ (qlm _ (qlB _ (qZV _ (qg4 _ qI)))))))
def qNa:V->List Obj->Option (Bool):=fun v objs=>match v,objs with
 | .s (.b y0),[]=>some (y0)
 | _,_=>none
theorem qUp (x0 x1:LI) (x2 x3 x4:Int):fnE qUr Tryz.f4 ([.agg [.arr .i8 81 x0,.arr .i8 16 x1,.one [.i .i8 x2]],.s (.i .i64 x3),.s (.i .i64 x4)]) ([]) qNa=qIQ x0 x1 x2 x3 x4:=by kernel_rfl
def qUq:HA:=fun o vs objs K=>match vs,objs with
 | [.agg [.arr .i8 81 x0,.arr .i8 16 x1,.one [.i .i8 x2]],.s (.i .i64 x3),.s (.i .i64 x4)],[]=>ob (qIQ x0 x1 x2 x3 x4) fun y0=>K false (.s (.b y0)) ([])
 | _,_=>o 4 vs objs K
def qg1 (o:Orc):Orc:=qJ 4 (qUq o) o
theorem qg0 {vs:List V} {objs:List Obj} (x0 x1:LI) (x2 x3 x4:Int) {R:Type} {K:Bool->V->List Obj->Option R} {r:R} (hv:vs=[.agg [.arr .i8 81 x0,.arr .i8 16 x1,.one [.i .i8 x2]],.s (.i .i64 x3),.s (.i .i64 x4)]) (ho:objs=[]) (h:ob (qIQ x0 x1 x2 x3 x4) (fun y0=>K false (.s (.b y0)) ([]))=some r):
  ∃ p v objs',K p v objs'=some r /\ qDR Tryz.prog 4 vs objs p v objs':=by
 subst hv
 subst ho
 obtain⟨t,h1,h2⟩:=qD h
 refine qV mixed qUs ((qUp _ _ _ _ _).trans h1) (by kernel_rfl) fun v objs' hd=>?_
 unfold qNa at hd;split at hd;(cases hd;exact h2);cases hd
theorem qpw:OQ Tryz.prog qg1:=fun _ ho=>qK ho fun vs objs K r h=>by
 unfold qUq at h
 split at h
 ·skip
  obtain⟨t,h1,h2⟩:=qD h
  refine qV mixed qUs ((qUp _ _ _ _ _).trans h1) (by kernel_rfl) fun v objs' hd=>?_
  unfold qNa at hd;split at hd;(cases hd;exact h2);cases hd
 ·exact ho _ _ _ _ _ h
end
end Go.Kk.KkSR
