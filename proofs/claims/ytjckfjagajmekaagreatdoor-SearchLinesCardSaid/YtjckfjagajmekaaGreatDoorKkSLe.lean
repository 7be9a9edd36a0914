/- Printed by a tool of this project (KkGen): the program's functions come to the plain ones. -/
import Derived.Test.YtjckfjagajmekaaGreatDoorKkSLd
namespace Go.Kk.KkSL
noncomputable section
open Go.Proofs Go.Kk.Pl
set_option maxRecDepth 100000
set_option maxHeartbeats 4000000
def qQl:Ex->List V->List Obj->Option (Nat×Int×LI×LI×Int×Nat×LL×List Bool):=fun e vs objs=>match e,vs,objs with
 | .exit 2,[.s (.ptr 0 0 none 0),.s (.sl 1 0 y0 true),.s (.ptr 2 0 none 0),.s (.i .i64 y1)],[.cells 29 [.arr .i8 81 y2,.arr .i8 16 y3,.one [.i .i8 y4]],.sli 41 false (.rows [.i .i64,.i .i64,.i .i64,.b] y5 y6),.cells 89 [Seg.barr 81 y7]]=>some (y0,y1,y2,y3,y4,y5,y6,y7)
 | _,_,_=>none
def qQr:Ex->List V->List Obj->Option (Nat×LI×LI×Int×Nat×LL):=fun e vs objs=>match e,vs,objs with
 | .exit 0,[.s (.ptr 0 0 none 0),.s (.sl 1 0 y0 true)],[.cells 29 [.arr .i8 81 y1,.arr .i8 16 y2,.one [.i .i8 y3]],.sli 41 false (.rows [.i .i64,.i .i64,.i .i64,.b] y4 y5)]=>some (y0,y1,y2,y3,y4,y5)
 | _,_,_=>none
def qQp:Ex->List V->List Obj->Option (Nat×Int×LI×LI×Int×Nat×LL):=fun e vs objs=>match e,vs,objs with
 | .exit 6,[.s (.ptr 0 0 none 0),.s (.sl 1 0 y0 true),.s (.i .i64 y1)],[.cells 29 [.arr .i8 81 y2,.arr .i8 16 y3,.one [.i .i8 y4]],.sli 41 false (.rows [.i .i64,.i .i64,.i .i64,.b] y5 y6)]=>some (y0,y1,y2,y3,y4,y5,y6)
 | _,_,_=>none
def qQn:Ex->List V->List Obj->Option (Nat×Nat×LL):=fun e vs objs=>match e,vs,objs with
 | .exit 4,[.s (.sl 0 0 y0 true)],[.sli 41 false (.rows [.i .i64,.i .i64,.i .i64,.b] y1 y2)]=>some (y0,y1,y2)
 | _,_,_=>none
def qQt:HL:=fun vs objs K=>match vs,objs with
 | [.s (.ptr 0 0 none 0),.s (.sl 1 0 x0 true),.s (.ptr 2 0 none 0),.s (.i .i64 x1),.s (.i .i64 x2)],[.cells 29 [.arr .i8 81 x3,.arr .i8 16 x4,.one [.i .i8 x5]],.sli 41 false (.rows [.i .i64,.i .i64,.i .i64,.b] x6 x7),.cells 89 [Seg.barr 81 x8]]=>ob (qFV qC x0 x1 x2 x3 x4 x5 x6 x7 x8) fun z=>K (.exit 2) ([.s (.ptr 0 0 none 0),.s (.sl 1 0 (z.1) true),.s (.ptr 2 0 none 0),.s (.i .i64 (z.2.1))]) ([.cells 29 [.arr .i8 81 (z.2.2.1),.arr .i8 16 (z.2.2.2.1),.one [.i .i8 (z.2.2.2.2.1)]],.sli 41 false (.rows [.i .i64,.i .i64,.i .i64,.b] (z.2.2.2.2.2.1) (z.2.2.2.2.2.2.1)),.cells 89 [Seg.barr 81 (z.2.2.2.2.2.2.2)]])
 | _,_=>none
def qQw:HL:=fun vs objs K=>match vs,objs with
 | [.s (.ptr 0 0 none 0),.s (.sl 1 0 x0 true),.s (.ptr 2 0 none 0),.s (.i .i64 x1)],[.cells 29 [.arr .i8 81 x2,.arr .i8 16 x3,.one [.i .i8 x4]],.sli 41 false (.rows [.i .i64,.i .i64,.i .i64,.b] x5 x6),.cells 89 [Seg.barr 81 x7]]=>ob (qDq qC x0 x1 x2 x3 x4 x5 x6 x7) fun z=>K (.exit 0) ([.s (.ptr 0 0 none 0),.s (.sl 1 0 (z.1) true)]) ([.cells 29 [.arr .i8 81 (z.2.1),.arr .i8 16 (z.2.2.1),.one [.i .i8 (z.2.2.2.1)]],.sli 41 false (.rows [.i .i64,.i .i64,.i .i64,.b] (z.2.2.2.2.1) (z.2.2.2.2.2))])
 | _,_=>none
def qQv:HL:=fun vs objs K=>match vs,objs with
 | [.s (.ptr 0 0 none 0),.s (.sl 1 0 x0 true),.s (.i .i64 x1),.s (.i .i64 x2)],[.cells 29 [.arr .i8 81 x3,.arr .i8 16 x4,.one [.i .i8 x5]],.sli 41 false (.rows [.i .i64,.i .i64,.i .i64,.b] x6 x7)]=>ob (qFW qC x0 x1 x2 x3 x4 x5 x6 x7) fun z=>K (.exit 6) ([.s (.ptr 0 0 none 0),.s (.sl 1 0 (z.1) true),.s (.i .i64 (z.2.1))]) ([.cells 29 [.arr .i8 81 (z.2.2.1),.arr .i8 16 (z.2.2.2.1),.one [.i .i8 (z.2.2.2.2.1)]],.sli 41 false (.rows [.i .i64,.i .i64,.i .i64,.b] (z.2.2.2.2.2.1) (z.2.2.2.2.2.2))])
 | _,_=>none
def qQu:HL:=fun vs objs K=>match vs,objs with
 | [.s (.ptr 0 0 none 0),.s (.sl 1 0 x0 true),.s (.i .i64 x1)],[.cells 29 [.arr .i8 81 x2,.arr .i8 16 x3,.one [.i .i8 x4]],.sli 41 false (.rows [.i .i64,.i .i64,.i .i64,.b] x5 x6)]=>ob (qDp qC x0 x1 x2 x3 x4 x5 x6) fun z=>K (.exit 4) ([.s (.sl 0 0 (z.1) true)]) ([.sli 41 false (.rows [.i .i64,.i .i64,.i .i64,.b] (z.2.1) (z.2.2))])
 | _,_=>none
def qnU:{R:Type}->Nat->List V->List Obj->(Ex->List V->List Obj->Option R)->Option R:=fun q vs objs K=>bif Nat.beq q 10 then qQt vs objs K else bif Nat.beq q 6 then qQw vs objs K else bif Nat.beq q 23 then qQv vs objs K else bif Nat.beq q 20 then qQu vs objs K else none
def qDo:Ctx:=mkC 98 ((qQx (qLo (qFM (qLt qM))))) [(6,[1,3,4,5],[1,3]),(10,[1,3,4,5,6],[1,3,4,5]),(20,[1,3,8],[3]),(23,[1,3,8,9],[1,3,8])] qnU
theorem qJe:CtxOK Tryz.prog qDo:=mkC_ok ((qaE _ (qP5 _ (qGL _ (qQX _ qO)))))
def qQm (f:Nat) (x0:Nat) (x1 x2:Int) (x3 x4:LI) (x5:Int) (x6:Nat) (x7:LL) (x8:List Bool):Option (Nat×Int×LI×LI×Int×Nat×LL×List Bool):=qh qDo 0 [1,3,4,5,6] [1,3,4,5] (qG Tryz.f26 10) f ([.s (.ptr 0 0 none 0),.s (.sl 1 0 x0 true),.s (.ptr 2 0 none 0),.s (.i .i64 x1),.s (.i .i64 x2)]) ([.cells 29 [.arr .i8 81 x3,.arr .i8 16 x4,.one [.i .i8 x5]],.sli 41 false (.rows [.i .i64,.i .i64,.i .i64,.b] x6 x7),.cells 89 [Seg.barr 81 x8]]) qQl
theorem qnQ (f:Nat) (x0:Nat) (x1 x2:Int) (x3 x4:LI) (x5:Int) (x6:Nat) (x7:LL) (x8:List Bool):qQm (f+1) x0 x1 x2 x3 x4 x5 x6 x7 x8=qH1 (qQm f) x0 x1 x2 x3 x4 x5 x6 x7 x8:=by kernel_rfl
theorem qZ2:∀ f,qQm f=qFV f
 | 0=>rfl
 | f+1=>by funext x0 x1 x2 x3 x4 x5 x6 x7 x8;rw[qnQ,qZ2 f];rfl
def qQs (f:Nat) (x0:Nat) (x1:Int) (x2 x3:LI) (x4:Int) (x5:Nat) (x6:LL) (x7:List Bool):Option (Nat×LI×LI×Int×Nat×LL):=qh qDo 0 [1,3,4,5] [1,3] (qG Tryz.f26 6) f ([.s (.ptr 0 0 none 0),.s (.sl 1 0 x0 true),.s (.ptr 2 0 none 0),.s (.i .i64 x1)]) ([.cells 29 [.arr .i8 81 x2,.arr .i8 16 x3,.one [.i .i8 x4]],.sli 41 false (.rows [.i .i64,.i .i64,.i .i64,.b] x5 x6),.cells 89 [Seg.barr 81 x7]]) qQr
theorem qnT (f:Nat) (x0:Nat) (x1:Int) (x2 x3:LI) (x4:Int) (x5:Nat) (x6:LL) (x7:List Bool):qQs (f+1) x0 x1 x2 x3 x4 x5 x6 x7=qH4 (qQs f) x0 x1 x2 x3 x4 x5 x6 x7:=by kernel_rfl
theorem qZ5:∀ f,qQs f=qDq f
 | 0=>rfl
 | f+1=>by funext x0 x1 x2 x3 x4 x5 x6 x7;rw[qnT,qZ5 f];rfl
def qQq (f:Nat) (x0:Nat) (x1 x2:Int) (x3 x4:LI) (x5:Int) (x6:Nat) (x7:LL):Option (Nat×Int×LI×LI×Int×Nat×LL):=qh qDo 0 [1,3,8,9] [1,3,8] (qG Tryz.f26 23) f ([.s (.ptr 0 0 none 0),.s (.sl 1 0 x0 true),.s (.i .i64 x1),.s (.i .i64 x2)]) ([.cells 29 [.arr .i8 81 x3,.arr .i8 16 x4,.one [.i .i8 x5]],.sli 41 false (.rows [.i .i64,.i .i64,.i .i64,.b] x6 x7)]) qQp
theorem qnS (f:Nat) (x0:Nat) (x1 x2:Int) (x3 x4:LI) (x5:Int) (x6:Nat) (x7:LL):qQq (f+1) x0 x1 x2 x3 x4 x5 x6 x7=qH3 (qQq f) x0 x1 x2 x3 x4 x5 x6 x7:=by kernel_rfl
theorem qZ4:∀ f,qQq f=qFW f
 | 0=>rfl
 | f+1=>by funext x0 x1 x2 x3 x4 x5 x6 x7;rw[qnS,qZ4 f];rfl
def qQo (f:Nat) (x0:Nat) (x1:Int) (x2 x3:LI) (x4:Int) (x5:Nat) (x6:LL):Option (Nat×Nat×LL):=qh qDo 0 [1,3,8] [3] (qG Tryz.f26 20) f ([.s (.ptr 0 0 none 0),.s (.sl 1 0 x0 true),.s (.i .i64 x1)]) ([.cells 29 [.arr .i8 81 x2,.arr .i8 16 x3,.one [.i .i8 x4]],.sli 41 false (.rows [.i .i64,.i .i64,.i .i64,.b] x5 x6)]) qQn
theorem qnR (f:Nat) (x0:Nat) (x1:Int) (x2 x3:LI) (x4:Int) (x5:Nat) (x6:LL):qQo (f+1) x0 x1 x2 x3 x4 x5 x6=qH2 (qQo f) x0 x1 x2 x3 x4 x5 x6:=by kernel_rfl
theorem qZ3:∀ f,qQo f=qDp f
 | 0=>rfl
 | f+1=>by funext x0 x1 x2 x3 x4 x5 x6;rw[qnR,qZ3 f];rfl
theorem qnW:qe Tryz.prog qDo 0 (qG Tryz.f26 10):=
 qj mixed qJe (qT.of (l':=[]) (by kernel_rfl) trivial) (q:=10) (kin:=[1,3,4,5,6]) (kout:=[1,3,4,5]) (by kernel_rfl) (by kernel_rfl) fun vs objs K r h=>by
  replace h:qQt vs objs K=some r:=h
  unfold qQt at h
  split at h
  ·skip
   obtain⟨t,h1,h2⟩:=qF h
   rw[<- qZ2] at h1
   refine⟨_,qQl,t,qC,h1,fun e vs' objs' hd=>?_⟩
   unfold qQl at hd;split at hd;(cases hd;exact h2);cases hd
  ·cases h
theorem qnY:qe Tryz.prog qDo 0 (qG Tryz.f26 23):=
 qj mixed qJe (qT.of (l':=[]) (by kernel_rfl) trivial) (q:=23) (kin:=[1,3,8,9]) (kout:=[1,3,8]) (by kernel_rfl) (by kernel_rfl) fun vs objs K r h=>by
  replace h:qQv vs objs K=some r:=h
  unfold qQv at h
  split at h
  ·skip
   obtain⟨t,h1,h2⟩:=qF h
   rw[<- qZ4] at h1
   refine⟨_,qQp,t,qC,h1,fun e vs' objs' hd=>?_⟩
   unfold qQp at hd;split at hd;(cases hd;exact h2);cases hd
  ·cases h
theorem qnZ:qe Tryz.prog qDo 0 (qG Tryz.f26 6):=
 qj mixed qJe (qT.of (l':=[qG Tryz.f26 10]) (by kernel_rfl) ⟨qnW,trivial⟩) (q:=6) (kin:=[1,3,4,5]) (kout:=[1,3]) (by kernel_rfl) (by kernel_rfl) fun vs objs K r h=>by
  replace h:qQw vs objs K=some r:=h
  unfold qQw at h
  split at h
  ·skip
   obtain⟨t,h1,h2⟩:=qF h
   rw[<- qZ5] at h1
   refine⟨_,qQr,t,qC,h1,fun e vs' objs' hd=>?_⟩
   unfold qQr at hd;split at hd;(cases hd;exact h2);cases hd
  ·cases h
theorem qnX:qe Tryz.prog qDo 0 (qG Tryz.f26 20):=
 qj mixed qJe (qT.of (l':=[qG Tryz.f26 23]) (by kernel_rfl) ⟨qnY,trivial⟩) (q:=20) (kin:=[1,3,8]) (kout:=[3]) (by kernel_rfl) (by kernel_rfl) fun vs objs K r h=>by
  replace h:qQu vs objs K=some r:=h
  unfold qQu at h
  split at h
  ·skip
   obtain⟨t,h1,h2⟩:=qF h
   rw[<- qZ3] at h1
   refine⟨_,qQn,t,qC,h1,fun e vs' objs' hd=>?_⟩
   unfold qQn at hd;split at hd;(cases hd;exact h2);cases hd
  ·cases h
def qZ1:V->List Obj->Option (Nat×Nat×LL):=fun v objs=>match v,objs with
 | .s (.sl 0 0 y0 true),[.sli 41 false (.rows [.i .i64,.i .i64,.i .i64,.b] y1 y2)]=>some (y0,y1,y2)
 | _,_=>none
theorem qnP (x0 x1:LI) (x2:Int):fnE qDo Tryz.f26 ([.agg [.arr .i8 81 x0,.arr .i8 16 x1,.one [.i .i8 x2]]]) ([]) qZ1=qJd x0 x1 x2:=by kernel_rfl
def qZ0:HA:=fun o vs objs K=>match vs,objs with
 | [.agg [.arr .i8 81 x0,.arr .i8 16 x1,.one [.i .i8 x2]]],[]=>ob (qJd x0 x1 x2) fun z=>K false (.s (.sl 0 0 (z.1) true)) ([.sli 41 false (.rows [.i .i64,.i .i64,.i .i64,.b] (z.2.1) (z.2.2))])
 | _,_=>o 26 vs objs K
def qZ6 (o:Orc):Orc:=qP 26 (qZ0 o) o
theorem qnV:OQ Tryz.prog qZ6:=fun _ ho=>qQ ho fun vs objs K r h=>by
 unfold qZ0 at h
 split at h
 ·skip
  obtain⟨t,h1,h2⟩:=qF h
  refine qAe mixed qJe (fn:=Tryz.f26) (b:=(Tryz.f26).body.getD .skip) (by kernel_rfl) (by kernel_rfl) (by kernel_rfl) ((qnP _ _ _).trans h1) (m:=0) rfl (qT.of (l':=[qG Tryz.f26 6,qG Tryz.f26 20]) (by kernel_rfl) ⟨qnZ,qnX,trivial⟩) fun v objs' hd=>?_
  unfold qZ1 at hd;split at hd;(cases hd;exact h2);cases hd
 ·exact ho _ _ _ _ _ h
def qQz:Ex->List V->List Obj->Option ((Bool)⊕(Unit)):=fun e vs objs=>match e,vs,objs with
 | .ret,[.s (.b y0)],[]=>some (.inl (y0))
 | .exit 0,[.s .bad],[]=>some (.inr ())
 | _,_,_=>none
def qQ1:HL:=fun vs objs K=>match vs,objs with
 | [.s (.ptr 0 0 none 0),.s (.sl 1 0 x0 true),.s (.i .i64 x1)],[.cells 29 [.arr .i8 81 x2,.arr .i8 16 x3,.one [.i .i8 x4]],.sli 41 false (.rows [.i .i64,.i .i64,.i .i64,.b] x5 x6)]=>ob (qFX qC x0 x1 x2 x3 x4 x5 x6) fun t0=>sw t0 (fun y0=>K (.ret) ([.s (.b y0)]) ([])) (fun _=>K (.exit 0) ([.s .bad]) ([]))
 | _,_=>none
def qns:{R:Type}->Nat->List V->List Obj->(Ex->List V->List Obj->Option R)->Option R:=fun q vs objs K=>bif Nat.beq q 3 then qQ1 vs objs K else none
def qLz:Ctx:=mkC 19 ((qQy (qZ6 qM))) [(3,[1,3,4],[2])] qns
theorem qaW:CtxOK Tryz.prog qLz:=mkC_ok ((qaU _ (qnV _ qO)))
def qQ0 (f:Nat) (x0:Nat) (x1:Int) (x2 x3:LI) (x4:Int) (x5:Nat) (x6:LL):Option ((Bool)⊕(Unit)):=qh qLz 0 [1,3,4] [2] (qG Tryz.f55 3) f ([.s (.ptr 0 0 none 0),.s (.sl 1 0 x0 true),.s (.i .i64 x1)]) ([.cells 29 [.arr .i8 81 x2,.arr .i8 16 x3,.one [.i .i8 x4]],.sli 41 false (.rows [.i .i64,.i .i64,.i .i64,.b] x5 x6)]) qQz
theorem qnr (f:Nat) (x0:Nat) (x1:Int) (x2 x3:LI) (x4:Int) (x5:Nat) (x6:LL):qQ0 (f+1) x0 x1 x2 x3 x4 x5 x6=qH7 (qQ0 f) x0 x1 x2 x3 x4 x5 x6:=by kernel_rfl
theorem qaY:∀ f,qQ0 f=qFX f
 | 0=>rfl
 | f+1=>by funext x0 x1 x2 x3 x4 x5 x6;rw[qnr,qaY f];rfl
theorem qnu:qe Tryz.prog qLz 0 (qG Tryz.f55 3):=
 qj mixed qaW (qT.of (l':=[]) (by kernel_rfl) trivial) (q:=3) (kin:=[1,3,4]) (kout:=[2]) (by kernel_rfl) (by kernel_rfl) fun vs objs K r h=>by
  replace h:qQ1 vs objs K=some r:=h
  unfold qQ1 at h
  split at h
  ·skip
   obtain⟨t,h1,h2⟩:=qF h
   rw[<- qaY] at h1
   refine⟨_,qQz,t,qC,h1,fun e vs' objs' hd=>?_⟩
   unfold qQz at hd
   split at hd
   ·skip
    cases hd
    exact h2
   ·skip
    cases hd
    exact h2
   ·cases hd
  ·cases h
def qaX:V->List Obj->Option (Bool):=fun v objs=>match v,objs with
 | .s (.b y0),[]=>some (y0)
 | _,_=>none
theorem qnq (x0 x1:LI) (x2:Int):fnE qLz Tryz.f55 ([.agg [.arr .i8 81 x0,.arr .i8 16 x1,.one [.i .i8 x2]]]) ([]) qaX=qJh x0 x1 x2:=by kernel_rfl
def qaV:HA:=fun o vs objs K=>match vs,objs with
 | [.agg [.arr .i8 81 x0,.arr .i8 16 x1,.one [.i .i8 x2]]],[]=>ob (qJh x0 x1 x2) fun y0=>K false (.s (.b y0)) ([])
 | _,_=>o 55 vs objs K
def qaZ (o:Orc):Orc:=qP 55 (qaV o) o
theorem qnt:OQ Tryz.prog qaZ:=fun _ ho=>qQ ho fun vs objs K r h=>by
 unfold qaV at h
 split at h
 ·skip
  obtain⟨t,h1,h2⟩:=qF h
  refine qAe mixed qaW (fn:=Tryz.f55) (b:=(Tryz.f55).body.getD .skip) (by kernel_rfl) (by kernel_rfl) (by kernel_rfl) ((qnq _ _ _).trans h1) (m:=0) rfl (qT.of (l':=[qG Tryz.f55 3]) (by kernel_rfl) ⟨qnu,trivial⟩) fun v objs' hd=>?_
  unfold qaX at hd;split at hd;(cases hd;exact h2);cases hd
 ·exact ho _ _ _ _ _ h
def qaO:Ctx:=mkC 27 ((qaZ (qLw (qLy (qQy qM))))) [] qW
theorem qnm:CtxOK Tryz.prog qaO:=mkC_ok ((qnt _ (qQf _ (qQk _ (qaU _ qO)))))
def qaP:V->List Obj->Option (Bool):=fun v objs=>match v,objs with
 | .s (.b y0),[]=>some (y0)
 | _,_=>none
theorem qnl (x0 x1:LI) (x2 x3:Int) (x4 x5:Int) (x6:Bool):fnE qaO Tryz.f22 ([.agg [.arr .i8 81 x0,.arr .i8 16 x1,.one [.i .i8 x2]],.agg [.one [.i .i64 x3,.i .i64 x4,.i .i64 x5,.b x6]]]) ([]) qaP=qH5 x0 x1 x2 x3 x4 x5 x6:=by kernel_rfl
def qaN:HA:=fun o vs objs K=>match vs,objs with
 | [.agg [.arr .i8 81 x0,.arr .i8 16 x1,.one [.i .i8 x2]],.agg [.one [.i .i64 x3,.i .i64 x4,.i .i64 x5,.b x6]]],[]=>ob (qH5 x0 x1 x2 x3 x4 x5 x6) fun y0=>K false (.s (.b y0)) ([])
 | _,_=>o 22 vs objs K
def qaQ (o:Orc):Orc:=qP 22 (qaN o) o
theorem qnn:OQ Tryz.prog qaQ:=fun _ ho=>qQ ho fun vs objs K r h=>by
 unfold qaN at h
 split at h
 ·skip
  obtain⟨t,h1,h2⟩:=qF h
  refine qa mixed qnm ((qnl _ _ _ _ _ _ _).trans h1) (by kernel_rfl) fun v objs' hd=>?_
  unfold qaP at hd;split at hd;(cases hd;exact h2);cases hd
 ·exact ho _ _ _ _ _ h
def qaK:Ctx:=mkC 13 ((qaQ (qQx qM))) [] qW
theorem qnj:CtxOK Tryz.prog qaK:=mkC_ok ((qnn _ (qaE _ qO)))
def qaL:V->List Obj->Option (Bool):=fun v objs=>match v,objs with
 | .s (.b y0),[]=>some (y0)
 | _,_=>none
theorem qni (x0 x1:LI) (x2 x3:Int) (x4 x5:Int) (x6:Bool):fnE qaK Tryz.f10 ([.agg [.arr .i8 81 x0,.arr .i8 16 x1,.one [.i .i8 x2]],.agg [.one [.i .i64 x3,.i .i64 x4,.i .i64 x5,.b x6]]]) ([]) qaL=qGO x0 x1 x2 x3 x4 x5 x6:=by kernel_rfl
def qaJ:HA:=fun o vs objs K=>match vs,objs with
 | [.agg [.arr .i8 81 x0,.arr .i8 16 x1,.one [.i .i8 x2]],.agg [.one [.i .i64 x3,.i .i64 x4,.i .i64 x5,.b x6]]],[]=>ob (qGO x0 x1 x2 x3 x4 x5 x6) fun y0=>K false (.s (.b y0)) ([])
 | _,_=>o 10 vs objs K
def qaM (o:Orc):Orc:=qP 10 (qaJ o) o
theorem qnk:OQ Tryz.prog qaM:=fun _ ho=>qQ ho fun vs objs K r h=>by
 unfold qaJ at h
 split at h
 ·skip
  obtain⟨t,h1,h2⟩:=qF h
  refine qa mixed qnj ((qni _ _ _ _ _ _ _).trans h1) (by kernel_rfl) fun v objs' hd=>?_
  unfold qaL at hd;split at hd;(cases hd;exact h2);cases hd
 ·exact ho _ _ _ _ _ h
def qOa:Ex->List V->List Obj->Option ((Bool×Nat×LL×Int×Int×Nat×Int×Bool×Nat×LL)⊕(Nat×LL×Int×Int×Nat×Int×Bool×Nat×LL)):=fun e vs objs=>match e,vs,objs with
 | .ret,[.s (.b y0),.s (.ptr 1 0 none 0)],[.sli 31 true (.rows kk0 y1 y2),.cells 38 [.one [.i .i64 y3,.i .i64 y4,.sl 2 0 y5 true,.i .i64 y6,.b y7]],.sli 41 false (.rows [.i .i64,.i .i64,.i .i64,.b] y8 y9)]=>bif decide (kk0=kL1) then some (.inl (y0,y1,y2,y3,y4,y5,y6,y7,y8,y9)) else none
 | .exit 0,[.s .bad,.s (.ptr 1 0 none 0)],[.sli 31 true (.rows kk0 y0 y1),.cells 38 [.one [.i .i64 y2,.i .i64 y3,.sl 2 0 y4 true,.i .i64 y5,.b y6]],.sli 41 false (.rows [.i .i64,.i .i64,.i .i64,.b] y7 y8)]=>bif decide (kk0=kL1) then some (.inr (y0,y1,y2,y3,y4,y5,y6,y7,y8)) else none
 | _,_,_=>none
def qOd:Ex->List V->List Obj->Option ((Bool×Nat×LL×Int×Int×Nat×Nat×Int×Bool×Nat×LL)⊕(Nat×LL×Int×Int×Nat×Nat×Int×Bool×Nat×LL)):=fun e vs objs=>match e,vs,objs with
 | .ret,[.s (.b y0),.s (.ptr 1 0 none 0)],[.sli 31 true (.rows kk0 y1 y2),.cells 38 [.one [.i .i64 y3,.i .i64 y4,.sl 2 y5 y6 false,.i .i64 y7,.b y8]],.sli 41 false (.rows [.i .i64,.i .i64,.i .i64,.b] y9 y10)]=>bif decide (kk0=kL1) then some (.inl (y0,y1,y2,y3,y4,y5,y6,y7,y8,y9,y10)) else none
 | .exit 0,[.s .bad,.s (.ptr 1 0 none 0)],[.sli 31 true (.rows kk0 y0 y1),.cells 38 [.one [.i .i64 y2,.i .i64 y3,.sl 2 y4 y5 false,.i .i64 y6,.b y7]],.sli 41 false (.rows [.i .i64,.i .i64,.i .i64,.b] y8 y9)]=>bif decide (kk0=kL1) then some (.inr (y0,y1,y2,y3,y4,y5,y6,y7,y8,y9)) else none
 | _,_,_=>none
def qOf:HL:=fun vs objs K=>match vs,objs with
 | [.s (.ptr 1 0 none 0),.s (.ptr 2 0 none 0),.s (.sl 3 x0 x1 false),.s (.i .i64 x2),.s (.i .i64 x3)],[.sli 31 true (.rows kk0 x4 x5),.cells 38 [.one [.i .i64 x6,.i .i64 x7,.sl 3 x8 x9 false,.i .i64 x10,.b x11]],.cells 29 [.arr .i8 81 x12,.arr .i8 16 x13,.one [.i .i8 x14]],.sli 41 false (.rows [.i .i64,.i .i64,.i .i64,.b] x15 x16)]=>bif decide (kk0=kL1) then ob (qFA qC x0 x1 x2 x3 x4 x5 x6 x7 x8 x9 x10 x11 x12 x13 x14 x15 x16) fun t0=>sw t0 (fun z=>K (.ret) ([.s (.b (z.1)),.s (.ptr 1 0 none 0)]) ([.sli 31 true (.rows kL1 (z.2.1) (z.2.2.1)),.cells 38 [.one [.i .i64 (z.2.2.2.1),.i .i64 (z.2.2.2.2.1),.sl 2 (z.2.2.2.2.2.1) (z.2.2.2.2.2.2.1) false,.i .i64 (z.2.2.2.2.2.2.2.1),.b (z.2.2.2.2.2.2.2.2.1)]],.sli 41 false (.rows [.i .i64,.i .i64,.i .i64,.b] (z.2.2.2.2.2.2.2.2.2.1) (z.2.2.2.2.2.2.2.2.2.2))])) (fun z=>K (.exit 0) ([.s .bad,.s (.ptr 1 0 none 0)]) ([.sli 31 true (.rows kL1 (z.1) (z.2.1)),.cells 38 [.one [.i .i64 (z.2.2.1),.i .i64 (z.2.2.2.1),.sl 2 (z.2.2.2.2.1) (z.2.2.2.2.2.1) false,.i .i64 (z.2.2.2.2.2.2.1),.b (z.2.2.2.2.2.2.2.1)]],.sli 41 false (.rows [.i .i64,.i .i64,.i .i64,.b] (z.2.2.2.2.2.2.2.2.1) (z.2.2.2.2.2.2.2.2.2))])) else none
 | _,_=>match vs,objs with
 | [.s (.ptr 1 0 none 0),.s (.ptr 2 0 none 0),.s (.sl 3 0 x0 true),.s (.i .i64 x1),.s (.i .i64 x2)],[.sli 31 true (.rows kk0 x3 x4),.cells 38 [.one [.i .i64 x5,.i .i64 x6,.sl 3 0 x7 true,.i .i64 x8,.b x9]],.cells 29 [.arr .i8 81 x10,.arr .i8 16 x11,.one [.i .i8 x12]],.sli 41 false (.rows [.i .i64,.i .i64,.i .i64,.b] x13 x14)]=>bif decide (kk0=kL1) then ob (qHQ qC x0 x1 x2 x3 x4 x5 x6 x7 x8 x9 x10 x11 x12 x13 x14) fun t0=>sw t0 (fun z=>K (.ret) ([.s (.b (z.1)),.s (.ptr 1 0 none 0)]) ([.sli 31 true (.rows kL1 (z.2.1) (z.2.2.1)),.cells 38 [.one [.i .i64 (z.2.2.2.1),.i .i64 (z.2.2.2.2.1),.sl 2 0 (z.2.2.2.2.2.1) true,.i .i64 (z.2.2.2.2.2.2.1),.b (z.2.2.2.2.2.2.2.1)]],.sli 41 false (.rows [.i .i64,.i .i64,.i .i64,.b] (z.2.2.2.2.2.2.2.2.1) (z.2.2.2.2.2.2.2.2.2))])) (fun z=>K (.exit 0) ([.s .bad,.s (.ptr 1 0 none 0)]) ([.sli 31 true (.rows kL1 (z.1) (z.2.1)),.cells 38 [.one [.i .i64 (z.2.2.1),.i .i64 (z.2.2.2.1),.sl 2 0 (z.2.2.2.2.1) true,.i .i64 (z.2.2.2.2.2.1),.b (z.2.2.2.2.2.2.1)]],.sli 41 false (.rows [.i .i64,.i .i64,.i .i64,.b] (z.2.2.2.2.2.2.2.1) (z.2.2.2.2.2.2.2.2))])) else none
 | _,_=>none
def qia:{R:Type}->Nat->List V->List Obj->(Ex->List V->List Obj->Option R)->Option R:=fun q vs objs K=>bif Nat.beq q 13 then qOf vs objs K else none
def qJF:Ctx:=mkC 71 ((qLy (qaM (qL7 (qWI (qQc (qWD qM))))))) [(13,[6,7,49,50,51],[4,6])] qia
theorem qOY:CtxOK Tryz.prog qJF:=mkC_ok ((qQk _ (qnk _ (qRM _ (qii _ (qZj _ (qie _ qO)))))))
def qOb (f:Nat) (x0:Nat) (x1 x2:Int) (x3:Nat) (x4:LL) (x5 x6:Int) (x7:Nat) (x8:Int) (x9:Bool) (x10 x11:LI) (x12:Int) (x13:Nat) (x14:LL):Option ((Bool×Nat×LL×Int×Int×Nat×Int×Bool×Nat×LL)⊕(Nat×LL×Int×Int×Nat×Int×Bool×Nat×LL)):=qh qJF 1 [6,7,49,50,51] [4,6] (qG Tryz.f3 13) f ([.s (.ptr 1 0 none 0),.s (.ptr 2 0 none 0),.s (.sl 3 0 x0 true),.s (.i .i64 x1),.s (.i .i64 x2)]) ([.sli 31 true (.rows kL1 x3 x4),.cells 38 [.one [.i .i64 x5,.i .i64 x6,.sl 3 0 x7 true,.i .i64 x8,.b x9]],.cells 29 [.arr .i8 81 x10,.arr .i8 16 x11,.one [.i .i8 x12]],.sli 41 false (.rows [.i .i64,.i .i64,.i .i64,.b] x13 x14)]) qOa
theorem qiY (f:Nat) (x0:Nat) (x1 x2:Int) (x3:Nat) (x4:LL) (x5 x6:Int) (x7:Nat) (x8:Int) (x9:Bool) (x10 x11:LI) (x12:Int) (x13:Nat) (x14:LL):qOb (f+1) x0 x1 x2 x3 x4 x5 x6 x7 x8 x9 x10 x11 x12 x13 x14=qOc (qOb f) x0 x1 x2 x3 x4 x5 x6 x7 x8 x9 x10 x11 x12 x13 x14:=by kernel_rfl
theorem qV7:∀ f,qOb f=qHQ f
 | 0=>rfl
 | f+1=>by funext x0 x1 x2 x3 x4 x5 x6 x7 x8 x9 x10 x11 x12 x13 x14;rw[qiY,qV7 f];rfl
def qOe (f:Nat) (x0 x1:Nat) (x2 x3:Int) (x4:Nat) (x5:LL) (x6 x7:Int) (x8 x9:Nat) (x10:Int) (x11:Bool) (x12 x13:LI) (x14:Int) (x15:Nat) (x16:LL):Option ((Bool×Nat×LL×Int×Int×Nat×Nat×Int×Bool×Nat×LL)⊕(Nat×LL×Int×Int×Nat×Nat×Int×Bool×Nat×LL)):=qh qJF 1 [6,7,49,50,51] [4,6] (qG Tryz.f3 13) f ([.s (.ptr 1 0 none 0),.s (.ptr 2 0 none 0),.s (.sl 3 x0 x1 false),.s (.i .i64 x2),.s (.i .i64 x3)]) ([.sli 31 true (.rows kL1 x4 x5),.cells 38 [.one [.i .i64 x6,.i .i64 x7,.sl 3 x8 x9 false,.i .i64 x10,.b x11]],.cells 29 [.arr .i8 81 x12,.arr .i8 16 x13,.one [.i .i8 x14]],.sli 41 false (.rows [.i .i64,.i .i64,.i .i64,.b] x15 x16)]) qOd
theorem qiZ (f:Nat) (x0 x1:Nat) (x2 x3:Int) (x4:Nat) (x5:LL) (x6 x7:Int) (x8 x9:Nat) (x10:Int) (x11:Bool) (x12 x13:LI) (x14:Int) (x15:Nat) (x16:LL):qOe (f+1) x0 x1 x2 x3 x4 x5 x6 x7 x8 x9 x10 x11 x12 x13 x14 x15 x16=qK0 (qOe f) x0 x1 x2 x3 x4 x5 x6 x7 x8 x9 x10 x11 x12 x13 x14 x15 x16:=by kernel_rfl
theorem qV8:∀ f,qOe f=qFA f
 | 0=>rfl
 | f+1=>by funext x0 x1 x2 x3 x4 x5 x6 x7 x8 x9 x10 x11 x12 x13 x14 x15 x16;rw[qiZ,qV8 f];rfl
theorem qV9:qe Tryz.prog qJF 1 (qG Tryz.f3 13):=
 qj mixed qOY (qT.of (l':=[]) (by kernel_rfl) trivial) (q:=13) (kin:=[6,7,49,50,51]) (kout:=[4,6]) (by kernel_rfl) (by kernel_rfl) fun vs objs K r h=>by
  replace h:qOf vs objs K=some r:=h
  unfold qOf at h
  split at h
  ·skip
   have g:=(qN h).1
   replace h:=(qN h).2
   obtain rfl:=of_decide_eq_true g
   obtain⟨t,h1,h2⟩:=qF h
   rw[<- qV8] at h1
   refine⟨_,qOd,t,qC,h1,fun e vs' objs' hd=>?_⟩
   unfold qOd at hd
   split at hd
   ·skip
    have g:=(qN hd).1
    replace hd:=(qN hd).2
    obtain rfl:=of_decide_eq_true g
    cases hd
    exact h2
   ·skip
    have g:=(qN hd).1
    replace hd:=(qN hd).2
    obtain rfl:=of_decide_eq_true g
    cases hd
    exact h2
   ·cases hd
  ·skip
   split at h
   ·skip
    have g:=(qN h).1
    replace h:=(qN h).2
    obtain rfl:=of_decide_eq_true g
    obtain⟨t,h1,h2⟩:=qF h
    rw[<- qV7] at h1
    refine⟨_,qOa,t,qC,h1,fun e vs' objs' hd=>?_⟩
    unfold qOa at hd
    split at hd
    ·skip
     have g:=(qN hd).1
     replace hd:=(qN hd).2
     obtain rfl:=of_decide_eq_true g
     cases hd
     exact h2
    ·skip
     have g:=(qN hd).1
     replace hd:=(qN hd).2
     obtain rfl:=of_decide_eq_true g
     cases hd
     exact h2
    ·cases hd
   ·skip
    cases h
def qOZ:V->List Obj->Option (Bool):=fun v objs=>match v,objs with
 | .s (.b y0),[]=>some (y0)
 | _,_=>none
theorem qV5 (x0 x1 x2:Nat) (x3:LL) (x4 x5:LI) (x6 x7 x8:Int):fnE qJF Tryz.f3 ([.s (.sl 0 x0 x1 false),.agg [.arr .i8 81 x4,.arr .i8 16 x5,.one [.i .i8 x6],.one [.i .i64 x7,.i .i64 x8]]]) ([.sli 31 true (.rows kL1 x2 x3)]) (qAc 1 qOZ)=qJE x0 x1 x2 x3 x4 x5 x6 x7 x8:=by kernel_rfl
def qV6:HA:=fun o vs objs K=>match vs,List.map Obj.toRO objs with
 | [.s (.sl 0 x0 x1 false),.agg [.arr .i8 81 x4,.arr .i8 16 x5,.one [.i .i8 x6],.one [.i .i64 x7,.i .i64 x8]]],[.sli 31 true (.rows kk0 x2 x3)]=>bif decide (kk0=kL1) then ob (qJE x0 x1 x2 x3 x4 x5 x6 x7 x8) fun y0=>K true (.s (.b y0)) ([]) else none
 | _,_=>o 3 vs objs K
def qib (o:Orc):Orc:=qP 3 (qV6 o) o
theorem qiX {vs:List V} {objs:List Obj} (x0 x1 x2:Nat) (x3:LL) (x4 x5:LI) (x6 x7 x8:Int) {R:Type} {K:Bool->V->List Obj->Option R} {r:R} (hv:vs=[.s (.sl 0 x0 x1 false),.agg [.arr .i8 81 x4,.arr .i8 16 x5,.one [.i .i8 x6],.one [.i .i64 x7,.i .i64 x8]]]) (ho:List.map Obj.toRO objs=[.sli 31 true (.rows kL1 x2 x3)]) (h:ob (qJE x0 x1 x2 x3 x4 x5 x6 x7 x8) (fun y0=>K true (.s (.b y0)) ([]))=some r):
  ∃ p v objs',K p v objs'=some r /\ qD5 Tryz.prog 3 vs objs p v objs':=by
 subst hv
 obtain⟨t,h1,h2⟩:=qF h
 refine qAi mixed qOY (m:=1) (fn:=Tryz.f3) (b:=(Tryz.f3).body.getD .skip) (by kernel_rfl) (by kernel_rfl) (by kernel_rfl) ho (by kernel_rfl) (by kernel_rfl) (qT.of (l':=[qG Tryz.f3 13]) (by kernel_rfl) ⟨qV9,trivial⟩) ((qV5 _ _ _ _ _ _ _ _ _).trans h1) fun v objs' hd=>?_
 unfold qOZ at hd;split at hd;(cases hd;exact h2);cases hd
theorem qrv:OQ Tryz.prog qib:=fun _ ho=>qQ ho fun vs objs K r h=>by
 unfold qV6 at h
 split at h
 ·skip
  have g:=(qN h).1
  replace h:=(qN h).2
  obtain rfl:=of_decide_eq_true g
  have hq:List.map Obj.toRO objs=_:=(by rename_i hq;first | exact hq | assumption)
  obtain⟨t,h1,h2⟩:=qF h
  refine qAi mixed qOY (m:=1) (fn:=Tryz.f3) (b:=(Tryz.f3).body.getD .skip) (by kernel_rfl) (by kernel_rfl) (by kernel_rfl) hq (by kernel_rfl) (by kernel_rfl) (qT.of (l':=[qG Tryz.f3 13]) (by kernel_rfl) ⟨qV9,trivial⟩) ((qV5 _ _ _ _ _ _ _ _ _).trans h1) fun v objs' hd=>?_
  unfold qOZ at hd;split at hd;(cases hd;exact h2);cases hd
 ·exact ho _ _ _ _ _ h
end
end Go.Kk.KkSL
