/- Printed by a tool of this project (KkGen): the program's functions come to the plain ones. -/
import Derived.Test.YtcilcokdgpnkmaaGreatDoorKkWPb
namespace Go.Kk.KkWP
noncomputable section
open Go.Proofs Go.Kk.Pl
set_option maxRecDepth 100000
set_option maxHeartbeats 4000000
def qPL:Ex->List V->List Obj->Option (Nat×Int×Int×LI×LI×Int×LL×LL×Int×Int×Nat×LL):=fun e vs objs=>match e,vs,objs with
 | .exit 2,[.s (.ptr 0 0 none 0),.s (.ptr 1 0 none 0),.s (.sl 2 0 y0 true),.s (.i .i64 y1),.s (.i .i64 y2)],[.rcells 87 [.arr .i8 81 y3,.arr .i8 16 y4,.one [.i .i8 y5],.rows [.i .u64,.i .u64] 32 y6,.rows [.i .u64,.i .u64] 2 y7],.cells 76 [.one [.i .u64 y8,.i .u64 y9]],.sli 51 false (.rows [.i .i64,.i .i64,.i .i64,.b] y10 y11)]=>some (y0,y1,y2,y3,y4,y5,y6,y7,y8,y9,y10,y11)
 | _,_,_=>none
def qPJ:Ex->List V->List Obj->Option (Nat×LI×LI×Int×LL×LL×Nat×LL):=fun e vs objs=>match e,vs,objs with
 | .exit 0,[.s (.sl 1 0 y0 true)],[.rcells 87 [.arr .i8 81 y1,.arr .i8 16 y2,.one [.i .i8 y3],.rows [.i .u64,.i .u64] 32 y4,.rows [.i .u64,.i .u64] 2 y5],.sli 51 false (.rows [.i .i64,.i .i64,.i .i64,.b] y6 y7)]=>some (y0,y1,y2,y3,y4,y5,y6,y7)
 | _,_,_=>none
def qPO:HL:=fun vs objs K=>match vs,objs with
 | [.s (.ptr 0 0 none 0),.s (.ptr 1 0 none 0),.s (.sl 2 0 x0 true),.s (.i .i64 x1),.s (.i .i64 x2),.s (.sl 3 0 x3 true),.s (.i .i64 x4),.s (.i .i64 x5)],[.rcells 87 [.arr .i8 81 x6,.arr .i8 16 x7,.one [.i .i8 x8],.rows [.i .u64,.i .u64] 32 x9,.rows [.i .u64,.i .u64] 2 x10],.cells 76 [.one [.i .u64 x11,.i .u64 x12]],.sli 51 false (.rows [.i .i64,.i .i64,.i .i64,.b] x13 x14),.sli 3 false (.arr .i64 x15 x16)]=>ob (qFg qB x0 x1 x2 x3 x4 x5 x6 x7 x8 x9 x10 x11 x12 x13 x14 x15 x16) fun z=>K (.exit 2) ([.s (.ptr 0 0 none 0),.s (.ptr 1 0 none 0),.s (.sl 2 0 (z.1) true),.s (.i .i64 (z.2.1)),.s (.i .i64 (z.2.2.1))]) ([.rcells 87 [.arr .i8 81 (z.2.2.2.1),.arr .i8 16 (z.2.2.2.2.1),.one [.i .i8 (z.2.2.2.2.2.1)],.rows [.i .u64,.i .u64] 32 (z.2.2.2.2.2.2.1),.rows [.i .u64,.i .u64] 2 (z.2.2.2.2.2.2.2.1)],.cells 76 [.one [.i .u64 (z.2.2.2.2.2.2.2.2.1),.i .u64 (z.2.2.2.2.2.2.2.2.2.1)]],.sli 51 false (.rows [.i .i64,.i .i64,.i .i64,.b] (z.2.2.2.2.2.2.2.2.2.2.1) (z.2.2.2.2.2.2.2.2.2.2.2))])
 | _,_=>none
def qPN:HL:=fun vs objs K=>match vs,objs with
 | [.s (.ptr 0 0 none 0),.s (.ptr 1 0 none 0),.s (.sl 2 0 x0 true),.s (.i .i64 x1),.s (.i .i64 x2)],[.rcells 87 [.arr .i8 81 x3,.arr .i8 16 x4,.one [.i .i8 x5],.rows [.i .u64,.i .u64] 32 x6,.rows [.i .u64,.i .u64] 2 x7],.cells 76 [.one [.i .u64 x8,.i .u64 x9]],.sli 51 false (.rows [.i .i64,.i .i64,.i .i64,.b] x10 x11)]=>ob (qFf qB x0 x1 x2 x3 x4 x5 x6 x7 x8 x9 x10 x11) fun z=>K (.exit 0) ([.s (.sl 1 0 (z.1) true)]) ([.rcells 87 [.arr .i8 81 (z.2.1),.arr .i8 16 (z.2.2.1),.one [.i .i8 (z.2.2.2.1)],.rows [.i .u64,.i .u64] 32 (z.2.2.2.2.1),.rows [.i .u64,.i .u64] 2 (z.2.2.2.2.2.1)],.sli 51 false (.rows [.i .i64,.i .i64,.i .i64,.b] (z.2.2.2.2.2.2.1) (z.2.2.2.2.2.2.2))])
 | _,_=>none
def qjo:{R:Type}->Nat->List V->List Obj->(Ex->List V->List Obj->Option R)->Option R:=fun q vs objs K=>bif Nat.beq q 8 then qPO vs objs K else bif Nat.beq q 4 then qPN vs objs K else none
def qH3:Ctx:=mkC 45 ((qKe (qGI (qWo (qK5 qK))))) [(4,[0,3,5,6,7],[5]),(8,[0,3,5,6,7,31,32,33],[0,3,5,6,7])] qjo
theorem qPI:CtxOK Tryz.prog qH3:=mkC_ok ((qM5 _ (qHD _ (qjv _ (qOG _ qM)))))
def qPM (f:Nat) (x0:Nat) (x1 x2:Int) (x3:Nat) (x4 x5:Int) (x6 x7:LI) (x8:Int) (x9 x10:LL) (x11 x12:Int) (x13:Nat) (x14:LL) (x15:Nat) (x16:LI):Option (Nat×Int×Int×LI×LI×Int×LL×LL×Int×Int×Nat×LL):=qh qH3 1 [0,3,5,6,7,31,32,33] [0,3,5,6,7] (qG Tryz.f31 8) f ([.s (.ptr 0 0 none 0),.s (.ptr 1 0 none 0),.s (.sl 2 0 x0 true),.s (.i .i64 x1),.s (.i .i64 x2),.s (.sl 3 0 x3 true),.s (.i .i64 x4),.s (.i .i64 x5)]) ([.rcells 87 [.arr .i8 81 x6,.arr .i8 16 x7,.one [.i .i8 x8],.rows [.i .u64,.i .u64] 32 x9,.rows [.i .u64,.i .u64] 2 x10],.cells 76 [.one [.i .u64 x11,.i .u64 x12]],.sli 51 false (.rows [.i .i64,.i .i64,.i .i64,.b] x13 x14),.sli 3 false (.arr .i64 x15 x16)]) qPL
theorem qjn (f:Nat) (x0:Nat) (x1 x2:Int) (x3:Nat) (x4 x5:Int) (x6 x7:LI) (x8:Int) (x9 x10:LL) (x11 x12:Int) (x13:Nat) (x14:LL) (x15:Nat) (x16:LI):qPM (f+1) x0 x1 x2 x3 x4 x5 x6 x7 x8 x9 x10 x11 x12 x13 x14 x15 x16=qH5 (qPM f) x0 x1 x2 x3 x4 x5 x6 x7 x8 x9 x10 x11 x12 x13 x14 x15 x16:=by kernel_rfl
theorem qWi:∀ f,qPM f=qFg f
 | 0=>rfl
 | f+1=>by funext x0 x1 x2 x3 x4 x5 x6 x7 x8 x9 x10 x11 x12 x13 x14 x15 x16;rw[qjn,qWi f];rfl
def qPK (f:Nat) (x0:Nat) (x1 x2:Int) (x3 x4:LI) (x5:Int) (x6 x7:LL) (x8 x9:Int) (x10:Nat) (x11:LL):Option (Nat×LI×LI×Int×LL×LL×Nat×LL):=qh qH3 1 [0,3,5,6,7] [5] (qG Tryz.f31 4) f ([.s (.ptr 0 0 none 0),.s (.ptr 1 0 none 0),.s (.sl 2 0 x0 true),.s (.i .i64 x1),.s (.i .i64 x2)]) ([.rcells 87 [.arr .i8 81 x3,.arr .i8 16 x4,.one [.i .i8 x5],.rows [.i .u64,.i .u64] 32 x6,.rows [.i .u64,.i .u64] 2 x7],.cells 76 [.one [.i .u64 x8,.i .u64 x9]],.sli 51 false (.rows [.i .i64,.i .i64,.i .i64,.b] x10 x11)]) qPJ
theorem qjm (f:Nat) (x0:Nat) (x1 x2:Int) (x3 x4:LI) (x5:Int) (x6 x7:LL) (x8 x9:Int) (x10:Nat) (x11:LL):qPK (f+1) x0 x1 x2 x3 x4 x5 x6 x7 x8 x9 x10 x11=qH4 (qPK f) x0 x1 x2 x3 x4 x5 x6 x7 x8 x9 x10 x11:=by kernel_rfl
theorem qWh:∀ f,qPK f=qFf f
 | 0=>rfl
 | f+1=>by funext x0 x1 x2 x3 x4 x5 x6 x7 x8 x9 x10 x11;rw[qjm,qWh f];rfl
theorem qjr:qg Tryz.prog qH3 1 (qG Tryz.f31 8):=
 qi mixed qPI (qQ.of (l':=[]) (by kernel_rfl) trivial) (q:=8) (kin:=[0,3,5,6,7,31,32,33]) (kout:=[0,3,5,6,7]) (by kernel_rfl) (by kernel_rfl) fun vs objs K r h=>by
  replace h:qPO vs objs K=some r:=h
  unfold qPO at h
  split at h
  ·skip
   obtain⟨t,h1,h2⟩:=qE h
   rw[<- qWi] at h1
   refine⟨_,qPL,t,qB,h1,fun e vs' objs' hd=>?_⟩
   unfold qPL at hd;split at hd;(cases hd;exact h2);cases hd
  ·cases h
theorem qjq:qg Tryz.prog qH3 1 (qG Tryz.f31 4):=
 qi mixed qPI (qQ.of (l':=[qG Tryz.f31 8]) (by kernel_rfl) ⟨qjr,trivial⟩) (q:=4) (kin:=[0,3,5,6,7]) (kout:=[5]) (by kernel_rfl) (by kernel_rfl) fun vs objs K r h=>by
  replace h:qPN vs objs K=some r:=h
  unfold qPN at h
  split at h
  ·skip
   obtain⟨t,h1,h2⟩:=qE h
   rw[<- qWh] at h1
   refine⟨_,qPJ,t,qB,h1,fun e vs' objs' hd=>?_⟩
   unfold qPJ at hd;split at hd;(cases hd;exact h2);cases hd
  ·cases h
def qWg:V->List Obj->Option (Nat×Nat×LL):=fun v objs=>match v,objs with
 | .s (.sl 1 0 y0 true),[.sli 51 false (.rows [.i .i64,.i .i64,.i .i64,.b] y1 y2)]=>some (y0,y1,y2)
 | _,_=>none
theorem qjl (x0 x1:Int) (x2 x3:LI) (x4:Int) (x5 x6:LL):fnE qH3 Tryz.f31 ([.s (.ptr 0 0 none 0),.agg [.one [.i .u64 x0,.i .u64 x1]]]) ([.rcells 87 [.arr .i8 81 x2,.arr .i8 16 x3,.one [.i .i8 x4],.rows [.i .u64,.i .u64] 32 x5,.rows [.i .u64,.i .u64] 2 x6]]) (qAf 1 qWg)=qJs x0 x1 x2 x3 x4 x5 x6:=by kernel_rfl
def qWf:HA:=fun o vs objs K=>match vs,List.map Obj.toRO objs with
 | [.s (.ptr 0 0 none 0),.agg [.one [.i .u64 x0,.i .u64 x1]]],[.rcells 87 [.arr .i8 81 x2,.arr .i8 16 x3,.one [.i .i8 x4],.rows [.i .u64,.i .u64] 32 x5,.rows [.i .u64,.i .u64] 2 x6]]=>ob (qJs x0 x1 x2 x3 x4 x5 x6) fun z=>K true (.s (.sl 1 0 (z.1) true)) ([.sli 51 false (.rows [.i .i64,.i .i64,.i .i64,.b] (z.2.1) (z.2.2))])
 | _,_=>o 31 vs objs K
def qWj (o:Orc):Orc:=qN 31 (qWf o) o
theorem qjp:OQ Tryz.prog qWj:=fun _ ho=>qO ho fun vs objs K r h=>by
 unfold qWf at h
 split at h
 ·skip
  have hq:List.map Obj.toRO objs=_:=(by rename_i hq;first | exact hq | assumption)
  obtain⟨t,h1,h2⟩:=qE h
  refine qAr mixed qPI (m:=1) (fn:=Tryz.f31) (b:=(Tryz.f31).body.getD .skip) (by kernel_rfl) (by kernel_rfl) (by kernel_rfl) hq (by kernel_rfl) (by kernel_rfl) (qQ.of (l':=[qG Tryz.f31 4]) (by kernel_rfl) ⟨qjq,trivial⟩) ((qjl _ _ _ _ _ _ _).trans h1) fun v objs' hd=>?_
  unfold qWg at hd;split at hd;(cases hd;exact h2);cases hd
 ·exact ho _ _ _ _ _ h
def qUU:Ctx:=mkC 7 (qK) [] qW
theorem qhC:CtxOK Tryz.prog qUU:=mkC_ok (qM)
def qUV:V->List Obj->Option (LI×LI×Int×LL×LL):=fun v objs=>match v,objs with
 | .s (.ptr 1 0 none 0),[.cells 87 [.arr .i8 81 y0,.arr .i8 16 y1,.one [.i .i8 y2],.rows [.i .u64,.i .u64] 32 y3,.rows [.i .u64,.i .u64] 2 y4]]=>some (y0,y1,y2,y3,y4)
 | _,_=>none
theorem qhB (x0 x1:LI) (x2:Int) (x3 x4:LL):fnE qUU Tryz.f72 ([.s (.ptr 0 0 none 0)]) ([.rcells 87 [.arr .i8 81 x0,.arr .i8 16 x1,.one [.i .i8 x2],.rows [.i .u64,.i .u64] 32 x3,.rows [.i .u64,.i .u64] 2 x4]]) (qAf 1 qUV)=qK4 x0 x1 x2 x3 x4:=by kernel_rfl
def qUT:HA:=fun o vs objs K=>match vs,List.map Obj.toRO objs with
 | [.s (.ptr 0 0 none 0)],[.rcells 87 [.arr .i8 81 x0,.arr .i8 16 x1,.one [.i .i8 x2],.rows [.i .u64,.i .u64] 32 x3,.rows [.i .u64,.i .u64] 2 x4]]=>ob (qK4 x0 x1 x2 x3 x4) fun z=>K true (.s (.ptr 1 0 none 0)) ([.cells 87 [.arr .i8 81 (z.1),.arr .i8 16 (z.2.1),.one [.i .i8 (z.2.2.1)],.rows [.i .u64,.i .u64] 32 (z.2.2.2.1),.rows [.i .u64,.i .u64] 2 (z.2.2.2.2)]])
 | _,_=>o 72 vs objs K
def qUW (o:Orc):Orc:=qN 72 (qUT o) o
theorem qhD:OQ Tryz.prog qUW:=fun _ ho=>qO ho fun vs objs K r h=>by
 unfold qUT at h
 split at h
 ·skip
  have hq:List.map Obj.toRO objs=_:=(by rename_i hq;first | exact hq | assumption)
  obtain⟨t,h1,h2⟩:=qE h
  refine qAr mixed qhC (m:=1) (fn:=Tryz.f72) (b:=(Tryz.f72).body.getD .skip) (by kernel_rfl) (by kernel_rfl) (by kernel_rfl) hq (by kernel_rfl) (by kernel_rfl) (qQ.of (l':=[]) (by kernel_rfl) trivial) ((qhB _ _ _ _ _).trans h1) fun v objs' hd=>?_
  unfold qUV at hd;split at hd;(cases hd;exact h2);cases hd
 ·exact ho _ _ _ _ _ h
def qP3:Ex->List V->List Obj->Option ((Bool×LI×LI×Int×LL×LL)⊕(LI×LI×Int×LL×LL)):=fun e vs objs=>match e,vs,objs with
 | .ret,[.s (.b y0)],[.rcells 87 [.arr .i8 81 y1,.arr .i8 16 y2,.one [.i .i8 y3],.rows [.i .u64,.i .u64] 32 y4,.rows [.i .u64,.i .u64] 2 y5]]=>some (.inl (y0,y1,y2,y3,y4,y5))
 | .exit 0,[.s .bad],[.rcells 87 [.arr .i8 81 y0,.arr .i8 16 y1,.one [.i .i8 y2],.rows [.i .u64,.i .u64] 32 y3,.rows [.i .u64,.i .u64] 2 y4]]=>some (.inr (y0,y1,y2,y3,y4))
 | _,_,_=>none
def qP5:HL:=fun vs objs K=>match vs,objs with
 | [.s (.ptr 1 0 none 0),.s (.sl 2 0 x0 true),.s (.i .i64 x1),.s (.i .i64 x2)],[.rcells 87 [.arr .i8 81 x3,.arr .i8 16 x4,.one [.i .i8 x5],.rows [.i .u64,.i .u64] 32 x6,.rows [.i .u64,.i .u64] 2 x7],.cells 79 [.one [.ptr 3 0 none 0,.i .i64 x8,.i .i64 x9,.i .u64 x10,.i .u64 x11,.mp 4,.b x12]],.sli 51 false (.rows [.i .i64,.i .i64,.i .i64,.b] x13 x14),.cells 87 [.arr .i8 81 x15,.arr .i8 16 x16,.one [.i .i8 x17],.rows [.i .u64,.i .u64] 32 x18,.rows [.i .u64,.i .u64] 2 x19],.map false true [.i .i64] [.i .u64,.i .u64] x20]=>ob (qFr qB x0 x1 x2 x3 x4 x5 x6 x7 x8 x9 x10 x11 x12 x13 x14 x15 x16 x17 x18 x19 x20) fun t0=>sw t0 (fun z=>K (.ret) ([.s (.b (z.1))]) ([.rcells 87 [.arr .i8 81 (z.2.1),.arr .i8 16 (z.2.2.1),.one [.i .i8 (z.2.2.2.1)],.rows [.i .u64,.i .u64] 32 (z.2.2.2.2.1),.rows [.i .u64,.i .u64] 2 (z.2.2.2.2.2)]])) (fun z=>K (.exit 0) ([.s .bad]) ([.rcells 87 [.arr .i8 81 (z.1),.arr .i8 16 (z.2.1),.one [.i .i8 (z.2.2.1)],.rows [.i .u64,.i .u64] 32 (z.2.2.2.1),.rows [.i .u64,.i .u64] 2 (z.2.2.2.2)]]))
 | _,_=>none
def qlC:{R:Type}->Nat->List V->List Obj->(Ex->List V->List Obj->Option R)->Option R:=fun q vs objs K=>bif Nat.beq q 11 then qP5 vs objs K else none
def qLl:Ctx:=mkC 74 ((qP7 (qPF (qKa (qP6 (qHH (qKz (qK9 (qUW (qGf (qFv qK))))))))))) [(11,[7,64,65,66],[4])] qlC
theorem qXq:CtxOK Tryz.prog qLl:=mkC_ok ((qX1 _ (qWe _ (qMt _ (qXx _ (qIz _ (qNi _ (qOM _ (qhD _ (qHh _ (qGz _ qM)))))))))))
def qP4 (f:Nat) (x0:Nat) (x1 x2:Int) (x3 x4:LI) (x5:Int) (x6 x7:LL) (x8 x9:Int) (x10 x11:Int) (x12:Bool) (x13:Nat) (x14:LL) (x15 x16:LI) (x17:Int) (x18 x19:LL) (x20:List (LI×LI)):Option ((Bool×LI×LI×Int×LL×LL)⊕(LI×LI×Int×LL×LL)):=qh qLl 1 [7,64,65,66] [4] (qG Tryz.f32 11) f ([.s (.ptr 1 0 none 0),.s (.sl 2 0 x0 true),.s (.i .i64 x1),.s (.i .i64 x2)]) ([.rcells 87 [.arr .i8 81 x3,.arr .i8 16 x4,.one [.i .i8 x5],.rows [.i .u64,.i .u64] 32 x6,.rows [.i .u64,.i .u64] 2 x7],.cells 79 [.one [.ptr 3 0 none 0,.i .i64 x8,.i .i64 x9,.i .u64 x10,.i .u64 x11,.mp 4,.b x12]],.sli 51 false (.rows [.i .i64,.i .i64,.i .i64,.b] x13 x14),.cells 87 [.arr .i8 81 x15,.arr .i8 16 x16,.one [.i .i8 x17],.rows [.i .u64,.i .u64] 32 x18,.rows [.i .u64,.i .u64] 2 x19],.map false true [.i .i64] [.i .u64,.i .u64] x20]) qP3
theorem qlB (f:Nat) (x0:Nat) (x1 x2:Int) (x3 x4:LI) (x5:Int) (x6 x7:LL) (x8 x9:Int) (x10 x11:Int) (x12:Bool) (x13:Nat) (x14:LL) (x15 x16:LI) (x17:Int) (x18 x19:LL) (x20:List (LI×LI)):qP4 (f+1) x0 x1 x2 x3 x4 x5 x6 x7 x8 x9 x10 x11 x12 x13 x14 x15 x16 x17 x18 x19 x20=qIJ (qP4 f) x0 x1 x2 x3 x4 x5 x6 x7 x8 x9 x10 x11 x12 x13 x14 x15 x16 x17 x18 x19 x20:=by kernel_rfl
theorem qXs:∀ f,qP4 f=qFr f
 | 0=>rfl
 | f+1=>by funext x0 x1 x2 x3 x4 x5 x6 x7 x8 x9 x10 x11 x12 x13 x14 x15 x16 x17 x18 x19 x20;rw[qlB,qXs f];rfl
theorem qlE:qg Tryz.prog qLl 1 (qG Tryz.f32 11):=
 qi mixed qXq (qQ.of (l':=[]) (by kernel_rfl) trivial) (q:=11) (kin:=[7,64,65,66]) (kout:=[4]) (by kernel_rfl) (by kernel_rfl) fun vs objs K r h=>by
  replace h:qP5 vs objs K=some r:=h
  unfold qP5 at h
  split at h
  ·skip
   obtain⟨t,h1,h2⟩:=qE h
   rw[<- qXs] at h1
   refine⟨_,qP3,t,qB,h1,fun e vs' objs' hd=>?_⟩
   unfold qP3 at hd
   split at hd
   ·skip
    cases hd
    exact h2
   ·skip
    cases hd
    exact h2
   ·cases hd
  ·cases h
def qXr:V->List Obj->Option (Bool):=fun v objs=>match v,objs with
 | .s (.b y0),[]=>some (y0)
 | _,_=>none
theorem qlA (x0:Int) (x1 x2:LI) (x3:Int) (x4 x5:LL):fnE qLl Tryz.f32 ([.s (.ptr 0 0 none 0),.s (.i .i64 x0)]) ([.rcells 87 [.arr .i8 81 x1,.arr .i8 16 x2,.one [.i .i8 x3],.rows [.i .u64,.i .u64] 32 x4,.rows [.i .u64,.i .u64] 2 x5]]) (qAf 1 qXr)=qJz x0 x1 x2 x3 x4 x5:=by kernel_rfl
def qXp:HA:=fun o vs objs K=>match vs,List.map Obj.toRO objs with
 | [.s (.ptr 0 0 none 0),.s (.i .i64 x0)],[.rcells 87 [.arr .i8 81 x1,.arr .i8 16 x2,.one [.i .i8 x3],.rows [.i .u64,.i .u64] 32 x4,.rows [.i .u64,.i .u64] 2 x5]]=>ob (qJz x0 x1 x2 x3 x4 x5) fun y0=>K true (.s (.b y0)) ([])
 | _,_=>o 32 vs objs K
def qXt (o:Orc):Orc:=qN 32 (qXp o) o
theorem qlD:OQ Tryz.prog qXt:=fun _ ho=>qO ho fun vs objs K r h=>by
 unfold qXp at h
 split at h
 ·skip
  have hq:List.map Obj.toRO objs=_:=(by rename_i hq;first | exact hq | assumption)
  obtain⟨t,h1,h2⟩:=qE h
  refine qAr mixed qXq (m:=1) (fn:=Tryz.f32) (b:=(Tryz.f32).body.getD .skip) (by kernel_rfl) (by kernel_rfl) (by kernel_rfl) hq (by kernel_rfl) (by kernel_rfl) (qQ.of (l':=[qG Tryz.f32 11]) (by kernel_rfl) ⟨qlE,trivial⟩) ((qlA _ _ _ _ _ _).trans h1) fun v objs' hd=>?_
  unfold qXr at hd;split at hd;(cases hd;exact h2);cases hd
 ·exact ho _ _ _ _ _ h
def qPw:Ex->List V->List Obj->Option (Nat×LI×LI×Int×LL×LL×Int×Int×Int×Int×Bool×Nat×LL×List (LI×LI)):=fun e vs objs=>match e,vs,objs with
 | .exit 0,[.s (.ptr 0 0 none 0),.s (.ptr 1 0 none 0),.s (.sl 2 0 y0 true)],[.cells 87 [.arr .i8 81 y1,.arr .i8 16 y2,.one [.i .i8 y3],.rows [.i .u64,.i .u64] 32 y4,.rows [.i .u64,.i .u64] 2 y5],.cells 79 [.one [.ptr 0 0 none 0,.i .i64 y6,.i .i64 y7,.i .u64 y8,.i .u64 y9,.mp 3,.b y10]],.sli 51 false (.rows [.i .i64,.i .i64,.i .i64,.b] y11 y12),.map false true [.i .i64] [.i .u64,.i .u64] y13]=>some (y0,y1,y2,y3,y4,y5,y6,y7,y8,y9,y10,y11,y12,y13)
 | _,_,_=>none
def qPu:Ex->List V->List Obj->Option (Nat×LI×LI×Int×LL×LL×Nat×LL):=fun e vs objs=>match e,vs,objs with
 | .exit 2,[.s (.sl 1 0 y0 true)],[.cells 87 [.arr .i8 81 y1,.arr .i8 16 y2,.one [.i .i8 y3],.rows [.i .u64,.i .u64] 32 y4,.rows [.i .u64,.i .u64] 2 y5],.sli 51 false (.rows [.i .i64,.i .i64,.i .i64,.b] y6 y7)]=>some (y0,y1,y2,y3,y4,y5,y6,y7)
 | _,_,_=>none
def qPz:HL:=fun vs objs K=>match vs,objs with
 | [.s (.ptr 0 0 none 0),.s (.ptr 1 0 none 0),.s (.sl 2 0 x0 true),.s (.sl 3 0 x1 true),.s (.i .i64 x2),.s (.i .i64 x3)],[.cells 87 [.arr .i8 81 x4,.arr .i8 16 x5,.one [.i .i8 x6],.rows [.i .u64,.i .u64] 32 x7,.rows [.i .u64,.i .u64] 2 x8],.cells 79 [.one [.ptr 0 0 none 0,.i .i64 x9,.i .i64 x10,.i .u64 x11,.i .u64 x12,.mp 4,.b x13]],.sli 51 false (.rows [.i .i64,.i .i64,.i .i64,.b] x14 x15),.sli 51 false (.rows [.i .i64,.i .i64,.i .i64,.b] x16 x17),.map false true [.i .i64] [.i .u64,.i .u64] x18]=>ob (qFp qB x0 x1 x2 x3 x4 x5 x6 x7 x8 x9 x10 x11 x12 x13 x14 x15 x16 x17 x18) fun z=>K (.exit 0) ([.s (.ptr 0 0 none 0),.s (.ptr 1 0 none 0),.s (.sl 2 0 (z.1) true)]) ([.cells 87 [.arr .i8 81 (z.2.1),.arr .i8 16 (z.2.2.1),.one [.i .i8 (z.2.2.2.1)],.rows [.i .u64,.i .u64] 32 (z.2.2.2.2.1),.rows [.i .u64,.i .u64] 2 (z.2.2.2.2.2.1)],.cells 79 [.one [.ptr 0 0 none 0,.i .i64 (z.2.2.2.2.2.2.1),.i .i64 (z.2.2.2.2.2.2.2.1),.i .u64 (z.2.2.2.2.2.2.2.2.1),.i .u64 (z.2.2.2.2.2.2.2.2.2.1),.mp 3,.b (z.2.2.2.2.2.2.2.2.2.2.1)]],.sli 51 false (.rows [.i .i64,.i .i64,.i .i64,.b] (z.2.2.2.2.2.2.2.2.2.2.2.1) (z.2.2.2.2.2.2.2.2.2.2.2.2.1)),.map false true [.i .i64] [.i .u64,.i .u64] (z.2.2.2.2.2.2.2.2.2.2.2.2.2)])
 | _,_=>none
def qPy:HL:=fun vs objs K=>match vs,objs with
 | [.s (.ptr 0 0 none 0),.s (.sl 1 0 x0 true),.s (.sl 2 0 x1 true),.s (.i .i64 x2),.s (.i .i64 x3)],[.cells 87 [.arr .i8 81 x4,.arr .i8 16 x5,.one [.i .i8 x6],.rows [.i .u64,.i .u64] 32 x7,.rows [.i .u64,.i .u64] 2 x8],.sli 51 false (.rows [.i .i64,.i .i64,.i .i64,.b] x9 x10),.sli 51 false (.rows [.i .i64,.i .i64,.i .i64,.b] x11 x12)]=>ob (qEd qB x0 x1 x2 x3 x4 x5 x6 x7 x8 x9 x10 x11 x12) fun z=>K (.exit 2) ([.s (.sl 1 0 (z.1) true)]) ([.cells 87 [.arr .i8 81 (z.2.1),.arr .i8 16 (z.2.2.1),.one [.i .i8 (z.2.2.2.1)],.rows [.i .u64,.i .u64] 32 (z.2.2.2.2.1),.rows [.i .u64,.i .u64] 2 (z.2.2.2.2.2.1)],.sli 51 false (.rows [.i .i64,.i .i64,.i .i64,.b] (z.2.2.2.2.2.2.1) (z.2.2.2.2.2.2.2))])
 | _,_=>none
def qk2:{R:Type}->Nat->List V->List Obj->(Ex->List V->List Obj->Option R)->Option R:=fun q vs objs K=>bif Nat.beq q 4 then qPz vs objs K else bif Nat.beq q 10 then qPy vs objs K else none
def qIF:Ctx:=mkC 51 ((qXt (qWj (qP7 (qPF (qKa (qP6 qK))))))) [(4,[0,3,4,13,14,15],[0,3,4]),(10,[0,4,30,31,32],[4])] qk2
theorem qPt:CtxOK Tryz.prog qIF:=mkC_ok ((qlD _ (qjp _ (qX1 _ (qWe _ (qMt _ (qXx _ qM)))))))
def qPx (f:Nat) (x0 x1:Nat) (x2 x3:Int) (x4 x5:LI) (x6:Int) (x7 x8:LL) (x9 x10:Int) (x11 x12:Int) (x13:Bool) (x14:Nat) (x15:LL) (x16:Nat) (x17:LL) (x18:List (LI×LI)):Option (Nat×LI×LI×Int×LL×LL×Int×Int×Int×Int×Bool×Nat×LL×List (LI×LI)):=qh qIF 1 [0,3,4,13,14,15] [0,3,4] (qG Tryz.f10 4) f ([.s (.ptr 0 0 none 0),.s (.ptr 1 0 none 0),.s (.sl 2 0 x0 true),.s (.sl 3 0 x1 true),.s (.i .i64 x2),.s (.i .i64 x3)]) ([.cells 87 [.arr .i8 81 x4,.arr .i8 16 x5,.one [.i .i8 x6],.rows [.i .u64,.i .u64] 32 x7,.rows [.i .u64,.i .u64] 2 x8],.cells 79 [.one [.ptr 0 0 none 0,.i .i64 x9,.i .i64 x10,.i .u64 x11,.i .u64 x12,.mp 4,.b x13]],.sli 51 false (.rows [.i .i64,.i .i64,.i .i64,.b] x14 x15),.sli 51 false (.rows [.i .i64,.i .i64,.i .i64,.b] x16 x17),.map false true [.i .i64] [.i .u64,.i .u64] x18]) qPw
theorem qk1 (f:Nat) (x0 x1:Nat) (x2 x3:Int) (x4 x5:LI) (x6:Int) (x7 x8:LL) (x9 x10:Int) (x11 x12:Int) (x13:Bool) (x14:Nat) (x15:LL) (x16:Nat) (x17:LL) (x18:List (LI×LI)):qPx (f+1) x0 x1 x2 x3 x4 x5 x6 x7 x8 x9 x10 x11 x12 x13 x14 x15 x16 x17 x18=qIH (qPx f) x0 x1 x2 x3 x4 x5 x6 x7 x8 x9 x10 x11 x12 x13 x14 x15 x16 x17 x18:=by kernel_rfl
theorem qXj:∀ f,qPx f=qFp f
 | 0=>rfl
 | f+1=>by funext x0 x1 x2 x3 x4 x5 x6 x7 x8 x9 x10 x11 x12 x13 x14 x15 x16 x17 x18;rw[qk1,qXj f];rfl
def qPv (f:Nat) (x0 x1:Nat) (x2 x3:Int) (x4 x5:LI) (x6:Int) (x7 x8:LL) (x9:Nat) (x10:LL) (x11:Nat) (x12:LL):Option (Nat×LI×LI×Int×LL×LL×Nat×LL):=qh qIF 1 [0,4,30,31,32] [4] (qG Tryz.f10 10) f ([.s (.ptr 0 0 none 0),.s (.sl 1 0 x0 true),.s (.sl 2 0 x1 true),.s (.i .i64 x2),.s (.i .i64 x3)]) ([.cells 87 [.arr .i8 81 x4,.arr .i8 16 x5,.one [.i .i8 x6],.rows [.i .u64,.i .u64] 32 x7,.rows [.i .u64,.i .u64] 2 x8],.sli 51 false (.rows [.i .i64,.i .i64,.i .i64,.b] x9 x10),.sli 51 false (.rows [.i .i64,.i .i64,.i .i64,.b] x11 x12)]) qPu
theorem qk0 (f:Nat) (x0 x1:Nat) (x2 x3:Int) (x4 x5:LI) (x6:Int) (x7 x8:LL) (x9:Nat) (x10:LL) (x11:Nat) (x12:LL):qPv (f+1) x0 x1 x2 x3 x4 x5 x6 x7 x8 x9 x10 x11 x12=qIG (qPv f) x0 x1 x2 x3 x4 x5 x6 x7 x8 x9 x10 x11 x12:=by kernel_rfl
theorem qXi:∀ f,qPv f=qEd f
 | 0=>rfl
 | f+1=>by funext x0 x1 x2 x3 x4 x5 x6 x7 x8 x9 x10 x11 x12;rw[qk0,qXi f];rfl
theorem qk4:qg Tryz.prog qIF 1 (qG Tryz.f10 4):=
 qi mixed qPt (qQ.of (l':=[]) (by kernel_rfl) trivial) (q:=4) (kin:=[0,3,4,13,14,15]) (kout:=[0,3,4]) (by kernel_rfl) (by kernel_rfl) fun vs objs K r h=>by
  replace h:qPz vs objs K=some r:=h
  unfold qPz at h
  split at h
  ·skip
   obtain⟨t,h1,h2⟩:=qE h
   rw[<- qXj] at h1
   refine⟨_,qPw,t,qB,h1,fun e vs' objs' hd=>?_⟩
   unfold qPw at hd;split at hd;(cases hd;exact h2);cases hd
  ·cases h
theorem qk3:qg Tryz.prog qIF 1 (qG Tryz.f10 10):=
 qi mixed qPt (qQ.of (l':=[]) (by kernel_rfl) trivial) (q:=10) (kin:=[0,4,30,31,32]) (kout:=[4]) (by kernel_rfl) (by kernel_rfl) fun vs objs K r h=>by
  replace h:qPy vs objs K=some r:=h
  unfold qPy at h
  split at h
  ·skip
   obtain⟨t,h1,h2⟩:=qE h
   rw[<- qXi] at h1
   refine⟨_,qPu,t,qB,h1,fun e vs' objs' hd=>?_⟩
   unfold qPu at hd;split at hd;(cases hd;exact h2);cases hd
  ·cases h
def qXh:V->List Obj->Option (Nat×LI×LI×Int×LL×LL×Nat×LL):=fun v objs=>match v,objs with
 | .s (.sl 1 0 y0 true),[.cells 87 [.arr .i8 81 y1,.arr .i8 16 y2,.one [.i .i8 y3],.rows [.i .u64,.i .u64] 32 y4,.rows [.i .u64,.i .u64] 2 y5],.sli 51 false (.rows [.i .i64,.i .i64,.i .i64,.b] y6 y7)]=>some (y0,y1,y2,y3,y4,y5,y6,y7)
 | _,_=>none
theorem qkz (x0 x1:LI) (x2:Int) (x3 x4:LL):fnE qIF Tryz.f10 ([.s (.ptr 0 0 none 0)]) ([.cells 87 [.arr .i8 81 x0,.arr .i8 16 x1,.one [.i .i8 x2],.rows [.i .u64,.i .u64] 32 x3,.rows [.i .u64,.i .u64] 2 x4]]) qXh=qDN x0 x1 x2 x3 x4:=by kernel_rfl
def qXg:HA:=fun o vs objs K=>match vs,objs with
 | [.s (.ptr 0 0 none 0)],[.cells 87 [.arr .i8 81 x0,.arr .i8 16 x1,.one [.i .i8 x2],.rows [.i .u64,.i .u64] 32 x3,.rows [.i .u64,.i .u64] 2 x4]]=>ob (qDN x0 x1 x2 x3 x4) fun z=>K false (.s (.sl 1 0 (z.1) true)) ([.cells 87 [.arr .i8 81 (z.2.1),.arr .i8 16 (z.2.2.1),.one [.i .i8 (z.2.2.2.1)],.rows [.i .u64,.i .u64] 32 (z.2.2.2.2.1),.rows [.i .u64,.i .u64] 2 (z.2.2.2.2.2.1)],.sli 51 false (.rows [.i .i64,.i .i64,.i .i64,.b] (z.2.2.2.2.2.2.1) (z.2.2.2.2.2.2.2))])
 | _,_=>o 10 vs objs K
def qJy (o:Orc):Orc:=qN 10 (qXg o) o
theorem qLj:OQ Tryz.prog qJy:=fun _ ho=>qO ho fun vs objs K r h=>by
 unfold qXg at h
 split at h
 ·skip
  obtain⟨t,h1,h2⟩:=qE h
  refine qAR mixed qPt (fn:=Tryz.f10) (b:=(Tryz.f10).body.getD .skip) (by kernel_rfl) (by kernel_rfl) (by kernel_rfl) ((qkz _ _ _ _ _).trans h1) (m:=1) rfl (qQ.of (l':=[qG Tryz.f10 4,qG Tryz.f10 10]) (by kernel_rfl) ⟨qk4,qk3,trivial⟩) fun v objs' hd=>?_
  unfold qXh at hd;split at hd;(cases hd;exact h2);cases hd
 ·exact ho _ _ _ _ _ h
def qef:Ctx:=mkC 19 ((qPh qK)) [] qW
theorem qtM:CtxOK Tryz.prog qef:=mkC_ok ((qXK _ qM))
def qeg:V->List Obj->Option (Nat):=fun v objs=>match v,objs with
 | .s (.ptr 1 0 (some (y0,1)) 0),[]=>some (y0)
 | _,_=>none
theorem qtL (x0 x1:LI) (x2:Int) (x3:Nat) (x4:Int) (x5:Nat) (x6:LL):fnE qef Tryz.f87 ([.s (.ptr 0 0 none 0),.agg [.arr .i8 81 x0,.arr .i8 16 x1,.one [.i .i8 x2]]]) ([.rcells 59 [.one [.sl 1 0 x3 true,.i .i64 x4]],.sli 127 true (.rows kL0 x5 x6)]) (qAf 2 qeg)=qFC x0 x1 x2 x3 x4 x5 x6:=by kernel_rfl
def qee:HA:=fun o vs objs K=>match vs,List.map Obj.toRO objs with
 | [.s (.ptr 0 0 none 0),.agg [.arr .i8 81 x0,.arr .i8 16 x1,.one [.i .i8 x2]]],[.rcells 59 [.one [.sl 1 0 x3 true,.i .i64 x4]],.sli 127 true (.rows kk0 x5 x6)]=>bif decide (kk0=kL0) then ob (qFC x0 x1 x2 x3 x4 x5 x6) fun y0=>K true (.s (.ptr 1 0 (some (y0,1)) 0)) ([]) else none
 | _,_=>o 87 vs objs K
def qS2 (o:Orc):Orc:=qN 87 (qee o) o
theorem qeh:OQ Tryz.prog qS2:=fun _ ho=>qO ho fun vs objs K r h=>by
 unfold qee at h
 split at h
 ·skip
  have g:=(qV h).1
  replace h:=(qV h).2
  obtain rfl:=of_decide_eq_true g
  have hq:List.map Obj.toRO objs=_:=(by rename_i hq;first | exact hq | assumption)
  obtain⟨t,h1,h2⟩:=qE h
  refine qAr mixed qtM (m:=2) (fn:=Tryz.f87) (b:=(Tryz.f87).body.getD .skip) (by kernel_rfl) (by kernel_rfl) (by kernel_rfl) hq (by kernel_rfl) (by kernel_rfl) (qQ.of (l':=[]) (by kernel_rfl) trivial) ((qtL _ _ _ _ _ _ _).trans h1) fun v objs' hd=>?_
  unfold qeg at hd;split at hd;(cases hd;exact h2);cases hd
 ·exact ho _ _ _ _ _ h
def qeX:Ctx:=mkC 28 ((qS2 qK)) [] qW
theorem qtG:CtxOK Tryz.prog qeX:=mkC_ok ((qeh _ qM))
def qeY:V->List Obj->Option (Int×Int×Int×Int×Int×Int×Bool×Bool):=fun v objs=>match v,objs with
 | .tup [W.agg [.one [.i .i64 y0,.i .i64 y1,.i .i64 y2,.i .i64 y3,.i .i64 y4,.i .i64 y5,.b y6]],W.s (.b y7)],[]=>some (y0,y1,y2,y3,y4,y5,y6,y7)
 | _,_=>none
theorem qtF (x0 x1:LI) (x2:Int) (x3:Nat) (x4:Int) (x5:Nat) (x6:LL):fnE qeX Tryz.f42 ([.s (.ptr 0 0 none 0),.agg [.arr .i8 81 x0,.arr .i8 16 x1,.one [.i .i8 x2]]]) ([.rcells 59 [.one [.sl 1 0 x3 true,.i .i64 x4]],.sli 127 true (.rows kL0 x5 x6)]) (qAf 2 qeY)=qEK x0 x1 x2 x3 x4 x5 x6:=by kernel_rfl
def qeW:HA:=fun o vs objs K=>match vs,List.map Obj.toRO objs with
 | [.s (.ptr 0 0 none 0),.agg [.arr .i8 81 x0,.arr .i8 16 x1,.one [.i .i8 x2]]],[.rcells 59 [.one [.sl 1 0 x3 true,.i .i64 x4]],.sli 127 true (.rows kk0 x5 x6)]=>bif decide (kk0=kL0) then ob (qEK x0 x1 x2 x3 x4 x5 x6) fun z=>K true (.tup [W.agg [.one [.i .i64 (z.1),.i .i64 (z.2.1),.i .i64 (z.2.2.1),.i .i64 (z.2.2.2.1),.i .i64 (z.2.2.2.2.1),.i .i64 (z.2.2.2.2.2.1),.b (z.2.2.2.2.2.2.1)]],W.s (.b (z.2.2.2.2.2.2.2))]) ([]) else none
 | _,_=>o 42 vs objs K
def qeZ (o:Orc):Orc:=qN 42 (qeW o) o
theorem qtH:OQ Tryz.prog qeZ:=fun _ ho=>qO ho fun vs objs K r h=>by
 unfold qeW at h
 split at h
 ·skip
  have g:=(qV h).1
  replace h:=(qV h).2
  obtain rfl:=of_decide_eq_true g
  have hq:List.map Obj.toRO objs=_:=(by rename_i hq;first | exact hq | assumption)
  obtain⟨t,h1,h2⟩:=qE h
  refine qAr mixed qtG (m:=2) (fn:=Tryz.f42) (b:=(Tryz.f42).body.getD .skip) (by kernel_rfl) (by kernel_rfl) (by kernel_rfl) hq (by kernel_rfl) (by kernel_rfl) (qQ.of (l':=[]) (by kernel_rfl) trivial) ((qtF _ _ _ _ _ _ _).trans h1) fun v objs' hd=>?_
  unfold qeY at hd;split at hd;(cases hd;exact h2);cases hd
 ·exact ho _ _ _ _ _ h
def qce:Ctx:=mkC 18 (qK) [] qW
theorem qrF:CtxOK Tryz.prog qce:=mkC_ok (qM)
def qcf:V->List Obj->Option (Int):=fun v objs=>match v,objs with
 | .s (.i .i64 y0),[]=>some (y0)
 | _,_=>none
theorem qrE (x0 x1:Int):fnE qce Tryz.f43 ([.s (.i .i64 x0),.s (.i .i64 x1)]) ([]) qcf=qGG x0 x1:=by kernel_rfl
def qcd:HA:=fun o vs objs K=>match vs,objs with
 | [.s (.i .i64 x0),.s (.i .i64 x1)],[]=>ob (qGG x0 x1) fun y0=>K false (.s (.i .i64 y0)) ([])
 | _,_=>o 43 vs objs K
def qcg (o:Orc):Orc:=qN 43 (qcd o) o
theorem qrG:OQ Tryz.prog qcg:=fun _ ho=>qO ho fun vs objs K r h=>by
 unfold qcd at h
 split at h
 ·skip
  obtain⟨t,h1,h2⟩:=qE h
  refine qa mixed qrF ((qrE _ _).trans h1) (by kernel_rfl) fun v objs' hd=>?_
  unfold qcf at hd;split at hd;(cases hd;exact h2);cases hd
 ·exact ho _ _ _ _ _ h
def qSg:Ex->List V->List Obj->Option ((Int×Nat×LL)⊕(Nat×LL)):=fun e vs objs=>match e,vs,objs with
 | .ret,[.s (.i .i64 y0)],[.sli 51 true (.rows [.i .i64,.i .i64,.i .i64,.b] y1 y2)]=>some (.inl (y0,y1,y2))
 | .exit 0,[.s .bad],[.sli 51 true (.rows [.i .i64,.i .i64,.i .i64,.b] y0 y1)]=>some (.inr (y0,y1))
 | _,_,_=>none
def qSi:HL:=fun vs objs K=>match vs,objs with
 | [.s (.sl 0 0 x0 true),.s (.ptr 1 0 none 0),.s (.i .i64 x1),.s (.i .i64 x2)],[.sli 51 true (.rows [.i .i64,.i .i64,.i .i64,.b] x3 x4),.cells 51 [.one [.i .i64 x5,.i .i64 x6,.i .i64 x7,.b x8]]]=>ob (qEG qB x0 x1 x2 x3 x4 x5 x6 x7 x8) fun t0=>sw t0 (fun z=>K (.ret) ([.s (.i .i64 (z.1))]) ([.sli 51 true (.rows [.i .i64,.i .i64,.i .i64,.b] (z.2.1) (z.2.2))])) (fun z=>K (.exit 0) ([.s .bad]) ([.sli 51 true (.rows [.i .i64,.i .i64,.i .i64,.b] (z.1) (z.2))]))
 | _,_=>none
def qsL:{R:Type}->Nat->List V->List Obj->(Ex->List V->List Obj->Option R)->Option R:=fun q vs objs K=>bif Nat.beq q 2 then qSi vs objs K else none
def qNC:Ctx:=mkC 19 (qK) [(2,[0,3,7,8],[4])] qsL
theorem qdo:CtxOK Tryz.prog qNC:=mkC_ok (qM)
def qSh (f:Nat) (x0:Nat) (x1 x2:Int) (x3:Nat) (x4:LL) (x5 x6 x7:Int) (x8:Bool):Option ((Int×Nat×LL)⊕(Nat×LL)):=qh qNC 1 [0,3,7,8] [4] (qG Tryz.f44 2) f ([.s (.sl 0 0 x0 true),.s (.ptr 1 0 none 0),.s (.i .i64 x1),.s (.i .i64 x2)]) ([.sli 51 true (.rows [.i .i64,.i .i64,.i .i64,.b] x3 x4),.cells 51 [.one [.i .i64 x5,.i .i64 x6,.i .i64 x7,.b x8]]]) qSg
theorem qsK (f:Nat) (x0:Nat) (x1 x2:Int) (x3:Nat) (x4:LL) (x5 x6 x7:Int) (x8:Bool):qSh (f+1) x0 x1 x2 x3 x4 x5 x6 x7 x8=qND (qSh f) x0 x1 x2 x3 x4 x5 x6 x7 x8:=by kernel_rfl
theorem qdq:∀ f,qSh f=qEG f
 | 0=>rfl
 | f+1=>by funext x0 x1 x2 x3 x4 x5 x6 x7 x8;rw[qsK,qdq f];rfl
theorem qsN:qg Tryz.prog qNC 1 (qG Tryz.f44 2):=
 qi mixed qdo (qQ.of (l':=[]) (by kernel_rfl) trivial) (q:=2) (kin:=[0,3,7,8]) (kout:=[4]) (by kernel_rfl) (by kernel_rfl) fun vs objs K r h=>by
  replace h:qSi vs objs K=some r:=h
  unfold qSi at h
  split at h
  ·skip
   obtain⟨t,h1,h2⟩:=qE h
   rw[<- qdq] at h1
   refine⟨_,qSg,t,qB,h1,fun e vs' objs' hd=>?_⟩
   unfold qSg at hd
   split at hd
   ·skip
    cases hd
    exact h2
   ·skip
    cases hd
    exact h2
   ·cases hd
  ·cases h
def qdp:V->List Obj->Option (Int):=fun v objs=>match v,objs with
 | .s (.i .i64 y0),[]=>some (y0)
 | _,_=>none
theorem qsJ (x0:Nat) (x1 x2 x3:Int) (x4:Bool) (x5:Nat) (x6:LL):fnE qNC Tryz.f44 ([.s (.sl 0 0 x0 true),.agg [.one [.i .i64 x1,.i .i64 x2,.i .i64 x3,.b x4]]]) ([.sli 51 true (.rows [.i .i64,.i .i64,.i .i64,.b] x5 x6)]) (qAf 1 qdp)=qI9 x0 x1 x2 x3 x4 x5 x6:=by kernel_rfl
def qdn:HA:=fun o vs objs K=>match vs,List.map Obj.toRO objs with
 | [.s (.sl 0 0 x0 true),.agg [.one [.i .i64 x1,.i .i64 x2,.i .i64 x3,.b x4]]],[.sli 51 true (.rows [.i .i64,.i .i64,.i .i64,.b] x5 x6)]=>ob (qI9 x0 x1 x2 x3 x4 x5 x6) fun y0=>K true (.s (.i .i64 y0)) ([])
 | _,_=>o 44 vs objs K
def qdr (o:Orc):Orc:=qN 44 (qdn o) o
theorem qsM:OQ Tryz.prog qdr:=fun _ ho=>qO ho fun vs objs K r h=>by
 unfold qdn at h
 split at h
 ·skip
  have hq:List.map Obj.toRO objs=_:=(by rename_i hq;first | exact hq | assumption)
  obtain⟨t,h1,h2⟩:=qE h
  refine qAr mixed qdo (m:=1) (fn:=Tryz.f44) (b:=(Tryz.f44).body.getD .skip) (by kernel_rfl) (by kernel_rfl) (by kernel_rfl) hq (by kernel_rfl) (by kernel_rfl) (qQ.of (l':=[qG Tryz.f44 2]) (by kernel_rfl) ⟨qsN,trivial⟩) ((qsJ _ _ _ _ _ _ _).trans h1) fun v objs' hd=>?_
  unfold qdp at hd;split at hd;(cases hd;exact h2);cases hd
 ·exact ho _ _ _ _ _ h
def qYW:Ctx:=mkC 48 (qK) [] qW
theorem qls:CtxOK Tryz.prog qYW:=mkC_ok (qM)
def qYX:V->List Obj->Option (Int):=fun v objs=>match v,objs with
 | .s (.i .i64 y0),[]=>some (y0)
 | _,_=>none
theorem qlr (x0 x1 x2:Int) (x3:Bool):fnE qYW Tryz.f109 ([.agg [.one [.i .i64 x0,.i .i64 x1,.i .i64 x2,.b x3]]]) ([]) qYX=qGu x0 x1 x2 x3:=by kernel_rfl
def qYV:HA:=fun o vs objs K=>match vs,objs with
 | [.agg [.one [.i .i64 x0,.i .i64 x1,.i .i64 x2,.b x3]]],[]=>ob (qGu x0 x1 x2 x3) fun y0=>K false (.s (.i .i64 y0)) ([])
 | _,_=>o 109 vs objs K
def qYY (o:Orc):Orc:=qN 109 (qYV o) o
theorem qlt:OQ Tryz.prog qYY:=fun _ ho=>qO ho fun vs objs K r h=>by
 unfold qYV at h
 split at h
 ·skip
  obtain⟨t,h1,h2⟩:=qE h
  refine qa mixed qls ((qlr _ _ _ _).trans h1) (by kernel_rfl) fun v objs' hd=>?_
  unfold qYX at hd;split at hd;(cases hd;exact h2);cases hd
 ·exact ho _ _ _ _ _ h
def qVk:Ctx:=mkC 104 ((qME (qCj (qEi (qGf (qK5 (qYY qK))))))) [] qW
theorem qik:CtxOK Tryz.prog qVk:=mkC_ok ((qQZ _ (qC4 _ (qFw _ (qHh _ (qOG _ (qlt _ qM)))))))
def qVl:V->List Obj->Option (Bool):=fun v objs=>match v,objs with
 | .s (.b y0),[]=>some (y0)
 | _,_=>none
theorem qij (x0 x1 x2:Int) (x3:Bool) (x4:Int) (x5:Nat) (x6 x7:LI) (x8:Int) (x9 x10:LL) (x11:Nat) (x12:LL):fnE qVk Tryz.f79 ([.s (.ptr 0 0 none 0),.agg [.one [.i .i64 x0,.i .i64 x1,.i .i64 x2,.b x3]]]) ([.rcells 71 [.one [.ptr 1 0 none 0,.i .u64 x4,.sl 2 0 x5 true]],.rcells 87 [.arr .i8 81 x6,.arr .i8 16 x7,.one [.i .i8 x8],.rows [.i .u64,.i .u64] 32 x9,.rows [.i .u64,.i .u64] 2 x10],.sli 119 true (.rows [.i .i64,.i .i64,.i .i64,.b,.i .i8,.i .i8] x11 x12)]) (qAf 3 qVl)=qDq x0 x1 x2 x3 x4 x5 x6 x7 x8 x9 x10 x11 x12:=by kernel_rfl
def qVj:HA:=fun o vs objs K=>match vs,List.map Obj.toRO objs with
 | [.s (.ptr 0 0 none 0),.agg [.one [.i .i64 x0,.i .i64 x1,.i .i64 x2,.b x3]]],[.rcells 71 [.one [.ptr 1 0 none 0,.i .u64 x4,.sl 2 0 x5 true]],.rcells 87 [.arr .i8 81 x6,.arr .i8 16 x7,.one [.i .i8 x8],.rows [.i .u64,.i .u64] 32 x9,.rows [.i .u64,.i .u64] 2 x10],.sli 119 true (.rows [.i .i64,.i .i64,.i .i64,.b,.i .i8,.i .i8] x11 x12)]=>ob (qDq x0 x1 x2 x3 x4 x5 x6 x7 x8 x9 x10 x11 x12) fun y0=>K true (.s (.b y0)) ([])
 | _,_=>o 79 vs objs K
def qVm (o:Orc):Orc:=qN 79 (qVj o) o
theorem qil:OQ Tryz.prog qVm:=fun _ ho=>qO ho fun vs objs K r h=>by
 unfold qVj at h
 split at h
 ·skip
  have hq:List.map Obj.toRO objs=_:=(by rename_i hq;first | exact hq | assumption)
  obtain⟨t,h1,h2⟩:=qE h
  refine qAr mixed qik (m:=3) (fn:=Tryz.f79) (b:=(Tryz.f79).body.getD .skip) (by kernel_rfl) (by kernel_rfl) (by kernel_rfl) hq (by kernel_rfl) (by kernel_rfl) (qQ.of (l':=[]) (by kernel_rfl) trivial) ((qij _ _ _ _ _ _ _ _ _ _ _ _ _).trans h1) fun v objs' hd=>?_
  unfold qVl at hd;split at hd;(cases hd;exact h2);cases hd
 ·exact ho _ _ _ _ _ h
def qVs:Ctx:=mkC 54 ((qPa (qK5 qK))) [] qW
theorem qip:CtxOK Tryz.prog qVs:=mkC_ok ((qXE _ (qOG _ qM)))
def qVt:V->List Obj->Option (Int×Nat×LI×LI×Int×LL×LL×Nat×LL):=fun v objs=>match v,objs with
 | .tup [],[.cells 71 [.one [.ptr 1 0 none 0,.i .u64 y0,.sl 2 0 y1 true]],.cells 87 [.arr .i8 81 y2,.arr .i8 16 y3,.one [.i .i8 y4],.rows [.i .u64,.i .u64] 32 y5,.rows [.i .u64,.i .u64] 2 y6],.sli 119 false (.rows [.i .i64,.i .i64,.i .i64,.b,.i .i8,.i .i8] y7 y8)]=>some (y0,y1,y2,y3,y4,y5,y6,y7,y8)
 | _,_=>none
theorem qio (x0 x1:Int) (x2 x3:Int) (x4:Nat) (x5 x6:LI) (x7:Int) (x8 x9:LL) (x10:Nat) (x11:LL):fnE qVs Tryz.f80 ([.s (.ptr 0 0 none 0),.s (.i .i64 x0),.s (.i .i64 x1),.s (.i .i64 x2)]) ([.cells 71 [.one [.ptr 1 0 none 0,.i .u64 x3,.sl 2 0 x4 true]],.cells 87 [.arr .i8 81 x5,.arr .i8 16 x6,.one [.i .i8 x7],.rows [.i .u64,.i .u64] 32 x8,.rows [.i .u64,.i .u64] 2 x9],.sli 119 false (.rows [.i .i64,.i .i64,.i .i64,.b,.i .i8,.i .i8] x10 x11)]) qVt=qDK x0 x1 x2 x3 x4 x5 x6 x7 x8 x9 x10 x11:=by kernel_rfl
def qVr:HA:=fun o vs objs K=>match vs,objs with
 | [.s (.ptr 0 0 none 0),.s (.i .i64 x0),.s (.i .i64 x1),.s (.i .i64 x2)],[.cells 71 [.one [.ptr 1 0 none 0,.i .u64 x3,.sl 2 0 x4 true]],.cells 87 [.arr .i8 81 x5,.arr .i8 16 x6,.one [.i .i8 x7],.rows [.i .u64,.i .u64] 32 x8,.rows [.i .u64,.i .u64] 2 x9],.sli 119 false (.rows [.i .i64,.i .i64,.i .i64,.b,.i .i8,.i .i8] x10 x11)]=>ob (qDK x0 x1 x2 x3 x4 x5 x6 x7 x8 x9 x10 x11) fun z=>K false (.tup []) ([.cells 71 [.one [.ptr 1 0 none 0,.i .u64 (z.1),.sl 2 0 (z.2.1) true]],.cells 87 [.arr .i8 81 (z.2.2.1),.arr .i8 16 (z.2.2.2.1),.one [.i .i8 (z.2.2.2.2.1)],.rows [.i .u64,.i .u64] 32 (z.2.2.2.2.2.1),.rows [.i .u64,.i .u64] 2 (z.2.2.2.2.2.2.1)],.sli 119 false (.rows [.i .i64,.i .i64,.i .i64,.b,.i .i8,.i .i8] (z.2.2.2.2.2.2.2.1) (z.2.2.2.2.2.2.2.2))])
 | _,_=>o 80 vs objs K
def qOs (o:Orc):Orc:=qN 80 (qVr o) o
theorem qVu:OQ Tryz.prog qOs:=fun _ ho=>qO ho fun vs objs K r h=>by
 unfold qVr at h
 split at h
 ·skip
  obtain⟨t,h1,h2⟩:=qE h
  refine qa mixed qip ((qio _ _ _ _ _ _ _ _ _ _ _ _).trans h1) (by kernel_rfl) fun v objs' hd=>?_
  unfold qVt at hd;split at hd;(cases hd;exact h2);cases hd
 ·exact ho _ _ _ _ _ h
def qVw:Ctx:=mkC 32 ((qK9 (qPl (qGf qK)))) [] qW
theorem qir:CtxOK Tryz.prog qVw:=mkC_ok ((qOM _ (qXO _ (qHh _ qM))))
def qVx:V->List Obj->Option (Int×Nat×LI×LI×Int×LL×LL×Nat×LL):=fun v objs=>match v,objs with
 | .tup [],[.cells 71 [.one [.ptr 1 0 none 0,.i .u64 y0,.sl 2 0 y1 true]],.cells 87 [.arr .i8 81 y2,.arr .i8 16 y3,.one [.i .i8 y4],.rows [.i .u64,.i .u64] 32 y5,.rows [.i .u64,.i .u64] 2 y6],.sli 119 false (.rows [.i .i64,.i .i64,.i .i64,.b,.i .i8,.i .i8] y7 y8)]=>some (y0,y1,y2,y3,y4,y5,y6,y7,y8)
 | _,_=>none
theorem qiq (x0 x1 x2:Int) (x3:Nat) (x4 x5:LI) (x6:Int) (x7 x8:LL) (x9:Nat) (x10:LL):fnE qVw Tryz.f81 ([.s (.ptr 0 0 none 0),.s (.i .i64 x0),.s (.i .i8 x1)]) ([.cells 71 [.one [.ptr 1 0 none 0,.i .u64 x2,.sl 2 0 x3 true]],.cells 87 [.arr .i8 81 x4,.arr .i8 16 x5,.one [.i .i8 x6],.rows [.i .u64,.i .u64] 32 x7,.rows [.i .u64,.i .u64] 2 x8],.sli 119 false (.rows [.i .i64,.i .i64,.i .i64,.b,.i .i8,.i .i8] x9 x10)]) qVx=qBI x0 x1 x2 x3 x4 x5 x6 x7 x8 x9 x10:=by kernel_rfl
def qVv:HA:=fun o vs objs K=>match vs,objs with
 | [.s (.ptr 0 0 none 0),.s (.i .i64 x0),.s (.i .i8 x1)],[.cells 71 [.one [.ptr 1 0 none 0,.i .u64 x2,.sl 2 0 x3 true]],.cells 87 [.arr .i8 81 x4,.arr .i8 16 x5,.one [.i .i8 x6],.rows [.i .u64,.i .u64] 32 x7,.rows [.i .u64,.i .u64] 2 x8],.sli 119 false (.rows [.i .i64,.i .i64,.i .i64,.b,.i .i8,.i .i8] x9 x10)]=>ob (qBI x0 x1 x2 x3 x4 x5 x6 x7 x8 x9 x10) fun z=>K false (.tup []) ([.cells 71 [.one [.ptr 1 0 none 0,.i .u64 (z.1),.sl 2 0 (z.2.1) true]],.cells 87 [.arr .i8 81 (z.2.2.1),.arr .i8 16 (z.2.2.2.1),.one [.i .i8 (z.2.2.2.2.1)],.rows [.i .u64,.i .u64] 32 (z.2.2.2.2.2.1),.rows [.i .u64,.i .u64] 2 (z.2.2.2.2.2.2.1)],.sli 119 false (.rows [.i .i64,.i .i64,.i .i64,.b,.i .i8,.i .i8] (z.2.2.2.2.2.2.2.1) (z.2.2.2.2.2.2.2.2))])
 | _,_=>o 81 vs objs K
def qOt (o:Orc):Orc:=qN 81 (qVv o) o
theorem qVy:OQ Tryz.prog qOt:=fun _ ho=>qO ho fun vs objs K r h=>by
 unfold qVv at h
 split at h
 ·skip
  obtain⟨t,h1,h2⟩:=qE h
  refine qa mixed qir ((qiq _ _ _ _ _ _ _ _ _ _ _).trans h1) (by kernel_rfl) fun v objs' hd=>?_
  unfold qVx at hd;split at hd;(cases hd;exact h2);cases hd
 ·exact ho _ _ _ _ _ h
def qV0:Ctx:=mkC 26 ((qPm qK)) [] qW
theorem qit:CtxOK Tryz.prog qV0:=mkC_ok ((qXS _ qM))
def qV1:V->List Obj->Option (Int×Nat×LI×LI×Int×LL×LL×Nat×LL):=fun v objs=>match v,objs with
 | .tup [],[.cells 71 [.one [.ptr 1 0 none 0,.i .u64 y0,.sl 2 0 y1 true]],.cells 87 [.arr .i8 81 y2,.arr .i8 16 y3,.one [.i .i8 y4],.rows [.i .u64,.i .u64] 32 y5,.rows [.i .u64,.i .u64] 2 y6],.sli 119 false (.rows [.i .i64,.i .i64,.i .i64,.b,.i .i8,.i .i8] y7 y8)]=>some (y0,y1,y2,y3,y4,y5,y6,y7,y8)
 | _,_=>none
theorem qis (x0:Int) (x1:Nat) (x2 x3:LI) (x4:Int) (x5 x6:LL) (x7:Nat) (x8:LL):fnE qV0 Tryz.f83 ([.s (.ptr 0 0 none 0)]) ([.cells 71 [.one [.ptr 1 0 none 0,.i .u64 x0,.sl 2 0 x1 true]],.cells 87 [.arr .i8 81 x2,.arr .i8 16 x3,.one [.i .i8 x4],.rows [.i .u64,.i .u64] 32 x5,.rows [.i .u64,.i .u64] 2 x6],.sli 119 false (.rows [.i .i64,.i .i64,.i .i64,.b,.i .i8,.i .i8] x7 x8)]) qV1=qCG x0 x1 x2 x3 x4 x5 x6 x7 x8:=by kernel_rfl
def qVz:HA:=fun o vs objs K=>match vs,objs with
 | [.s (.ptr 0 0 none 0)],[.cells 71 [.one [.ptr 1 0 none 0,.i .u64 x0,.sl 2 0 x1 true]],.cells 87 [.arr .i8 81 x2,.arr .i8 16 x3,.one [.i .i8 x4],.rows [.i .u64,.i .u64] 32 x5,.rows [.i .u64,.i .u64] 2 x6],.sli 119 false (.rows [.i .i64,.i .i64,.i .i64,.b,.i .i8,.i .i8] x7 x8)]=>ob (qCG x0 x1 x2 x3 x4 x5 x6 x7 x8) fun z=>K false (.tup []) ([.cells 71 [.one [.ptr 1 0 none 0,.i .u64 (z.1),.sl 2 0 (z.2.1) true]],.cells 87 [.arr .i8 81 (z.2.2.1),.arr .i8 16 (z.2.2.2.1),.one [.i .i8 (z.2.2.2.2.1)],.rows [.i .u64,.i .u64] 32 (z.2.2.2.2.2.1),.rows [.i .u64,.i .u64] 2 (z.2.2.2.2.2.2.1)],.sli 119 false (.rows [.i .i64,.i .i64,.i .i64,.b,.i .i8,.i .i8] (z.2.2.2.2.2.2.2.1) (z.2.2.2.2.2.2.2.2))])
 | _,_=>o 83 vs objs K
def qOu (o:Orc):Orc:=qN 83 (qVz o) o
theorem qV2:OQ Tryz.prog qOu:=fun _ ho=>qO ho fun vs objs K r h=>by
 unfold qVz at h
 split at h
 ·skip
  obtain⟨t,h1,h2⟩:=qE h
  refine qa mixed qit ((qis _ _ _ _ _ _ _ _ _).trans h1) (by kernel_rfl) fun v objs' hd=>?_
  unfold qV1 at hd;split at hd;(cases hd;exact h2);cases hd
 ·exact ho _ _ _ _ _ h
def qY5:Ctx:=mkC 13 ((qFv qK)) [] qW
theorem qnM:CtxOK Tryz.prog qY5:=mkC_ok ((qGz _ qM))
def qY6:V->List Obj->Option (Int):=fun v objs=>match v,objs with
 | .s (.i .i64 y0),[]=>some (y0)
 | _,_=>none
theorem qnL (x0:Int):fnE qY5 Tryz.f47 ([.s (.i .i64 x0)]) ([]) qY6=qC5 x0:=by kernel_rfl
def qY4:HA:=fun o vs objs K=>match vs,objs with
 | [.s (.i .i64 x0)],[]=>ob (qC5 x0) fun y0=>K false (.s (.i .i64 y0)) ([])
 | _,_=>o 47 vs objs K
def qMC (o:Orc):Orc:=qN 47 (qY4 o) o
theorem qQY:OQ Tryz.prog qMC:=fun _ ho=>qO ho fun vs objs K r h=>by
 unfold qY4 at h
 split at h
 ·skip
  obtain⟨t,h1,h2⟩:=qE h
  refine qa mixed qnM ((qnL _).trans h1) (by kernel_rfl) fun v objs' hd=>?_
  unfold qY6 at hd;split at hd;(cases hd;exact h2);cases hd
 ·exact ho _ _ _ _ _ h
def qVo:Ctx:=mkC 97 ((qMC (qME (qCj (qOu (qOt (qOs (qFv (qGf (qVm qK)))))))))) [] qW
theorem qin:CtxOK Tryz.prog qVo:=mkC_ok ((qQY _ (qQZ _ (qC4 _ (qV2 _ (qVy _ (qVu _ (qGz _ (qHh _ (qil _ qM))))))))))
def qVp:V->List Obj->Option ((Bool×Int×Nat×LI×LI×Int×LL×LL×Nat×LL)⊕(Bool×Int×Nat×LI×LI×Int×LL×LL×Nat×LL)):=fun v objs=>match v,objs with
 | .s (.b y0),[.cells 71 [.one [.ptr 1 0 none 0,.i .u64 y1,.sl 2 0 y2 true]],.cells 87 [.arr .i8 81 y3,.arr .i8 16 y4,.one [.i .i8 y5],.rows [.i .u64,.i .u64] 32 y6,.rows [.i .u64,.i .u64] 2 y7],.sli 119 false (.rows [.i .i64,.i .i64,.i .i64,.b,.i .i8,.i .i8] y8 y9)]=>some (.inl (y0,y1,y2,y3,y4,y5,y6,y7,y8,y9))
 | .s (.b y0),[.cells 71 [.one [.ptr 1 0 none 0,.i .u64 y1,.sl 3 0 y2 true]],.cells 87 [.arr .i8 81 y3,.arr .i8 16 y4,.one [.i .i8 y5],.rows [.i .u64,.i .u64] 32 y6,.rows [.i .u64,.i .u64] 2 y7],Obj.dead,.sli 119 false (.rows [.i .i64,.i .i64,.i .i64,.b,.i .i8,.i .i8] y8 y9)]=>some (.inr (y0,y1,y2,y3,y4,y5,y6,y7,y8,y9))
 | _,_=>none
theorem qim (x0 x1 x2:Int) (x3:Bool) (x4:Int) (x5:Nat) (x6 x7:LI) (x8:Int) (x9 x10:LL) (x11:Nat) (x12:LL):fnE qVo Tryz.f37 ([.s (.ptr 0 0 none 0),.agg [.one [.i .i64 x0,.i .i64 x1,.i .i64 x2,.b x3]]]) ([.cells 71 [.one [.ptr 1 0 none 0,.i .u64 x4,.sl 2 0 x5 true]],.cells 87 [.arr .i8 81 x6,.arr .i8 16 x7,.one [.i .i8 x8],.rows [.i .u64,.i .u64] 32 x9,.rows [.i .u64,.i .u64] 2 x10],.sli 119 false (.rows [.i .i64,.i .i64,.i .i64,.b,.i .i8,.i .i8] x11 x12)]) qVp=qCb x0 x1 x2 x3 x4 x5 x6 x7 x8 x9 x10 x11 x12:=by kernel_rfl
def qVn:HA:=fun o vs objs K=>match vs,objs with
 | [.s (.ptr 0 0 none 0),.agg [.one [.i .i64 x0,.i .i64 x1,.i .i64 x2,.b x3]]],[.cells 71 [.one [.ptr 1 0 none 0,.i .u64 x4,.sl 2 0 x5 true]],.cells 87 [.arr .i8 81 x6,.arr .i8 16 x7,.one [.i .i8 x8],.rows [.i .u64,.i .u64] 32 x9,.rows [.i .u64,.i .u64] 2 x10],.sli 119 false (.rows [.i .i64,.i .i64,.i .i64,.b,.i .i8,.i .i8] x11 x12)]=>ob (qCb x0 x1 x2 x3 x4 x5 x6 x7 x8 x9 x10 x11 x12) fun t0=>sw t0 (fun z=>K false (.s (.b (z.1))) ([.cells 71 [.one [.ptr 1 0 none 0,.i .u64 (z.2.1),.sl 2 0 (z.2.2.1) true]],.cells 87 [.arr .i8 81 (z.2.2.2.1),.arr .i8 16 (z.2.2.2.2.1),.one [.i .i8 (z.2.2.2.2.2.1)],.rows [.i .u64,.i .u64] 32 (z.2.2.2.2.2.2.1),.rows [.i .u64,.i .u64] 2 (z.2.2.2.2.2.2.2.1)],.sli 119 false (.rows [.i .i64,.i .i64,.i .i64,.b,.i .i8,.i .i8] (z.2.2.2.2.2.2.2.2.1) (z.2.2.2.2.2.2.2.2.2))])) (fun z=>K false (.s (.b (z.1))) ([.cells 71 [.one [.ptr 1 0 none 0,.i .u64 (z.2.1),.sl 3 0 (z.2.2.1) true]],.cells 87 [.arr .i8 81 (z.2.2.2.1),.arr .i8 16 (z.2.2.2.2.1),.one [.i .i8 (z.2.2.2.2.2.1)],.rows [.i .u64,.i .u64] 32 (z.2.2.2.2.2.2.1),.rows [.i .u64,.i .u64] 2 (z.2.2.2.2.2.2.2.1)],Obj.dead,.sli 119 false (.rows [.i .i64,.i .i64,.i .i64,.b,.i .i8,.i .i8] (z.2.2.2.2.2.2.2.2.1) (z.2.2.2.2.2.2.2.2.2))]))
 | _,_=>o 37 vs objs K
def qOr (o:Orc):Orc:=qN 37 (qVn o) o
theorem qVq:OQ Tryz.prog qOr:=fun _ ho=>qO ho fun vs objs K r h=>by
 unfold qVn at h
 split at h
 ·skip
  obtain⟨t,h1,h2⟩:=qE h
  refine qa mixed qin ((qim _ _ _ _ _ _ _ _ _ _ _ _ _).trans h1) (by kernel_rfl) fun v objs' hd=>?_
  unfold qVp at hd
  split at hd
  ·skip
   cases hd
   exact h2
  ·skip
   cases hd
   exact h2
  ·cases hd
 ·exact ho _ _ _ _ _ h
def qeb:Ctx:=mkC 27 ((qS2 qK)) [] qW
theorem qtJ:CtxOK Tryz.prog qeb:=mkC_ok ((qeh _ qM))
def qec:V->List Obj->Option (Nat×Int×Nat×LL):=fun v objs=>match v,objs with
 | .tup [],[.cells 59 [.one [.sl 1 0 y0 true,.i .i64 y1]],.sli 127 false (.rows kk0 y2 y3)]=>bif decide (kk0=kL0) then some (y0,y1,y2,y3) else none
 | _,_=>none
theorem qtI (x0 x1:LI) (x2 x3:Int) (x4 x5:Int) (x6 x7 x8:Int) (x9:Bool) (x10:Nat) (x11:Int) (x12:Nat) (x13:LL):fnE qeb Tryz.f46 ([.s (.ptr 0 0 none 0),.agg [.arr .i8 81 x0,.arr .i8 16 x1,.one [.i .i8 x2]],.agg [.one [.i .i64 x3,.i .i64 x4,.i .i64 x5,.i .i64 x6,.i .i64 x7,.i .i64 x8,.b x9]]]) ([.cells 59 [.one [.sl 1 0 x10 true,.i .i64 x11]],.sli 127 false (.rows kL0 x12 x13)]) qec=qFB x0 x1 x2 x3 x4 x5 x6 x7 x8 x9 x10 x11 x12 x13:=by kernel_rfl
def qea:HA:=fun o vs objs K=>match vs,objs with
 | [.s (.ptr 0 0 none 0),.agg [.arr .i8 81 x0,.arr .i8 16 x1,.one [.i .i8 x2]],.agg [.one [.i .i64 x3,.i .i64 x4,.i .i64 x5,.i .i64 x6,.i .i64 x7,.i .i64 x8,.b x9]]],[.cells 59 [.one [.sl 1 0 x10 true,.i .i64 x11]],.sli 127 false (.rows kk0 x12 x13)]=>bif decide (kk0=kL0) then ob (qFB x0 x1 x2 x3 x4 x5 x6 x7 x8 x9 x10 x11 x12 x13) fun z=>K false (.tup []) ([.cells 59 [.one [.sl 1 0 (z.1) true,.i .i64 (z.2.1)]],.sli 127 false (.rows kL0 (z.2.2.1) (z.2.2.2))]) else none
 | _,_=>o 46 vs objs K
def qed (o:Orc):Orc:=qN 46 (qea o) o
theorem qtK:OQ Tryz.prog qed:=fun _ ho=>qO ho fun vs objs K r h=>by
 unfold qea at h
 split at h
 ·skip
  have g:=(qV h).1
  replace h:=(qV h).2
  obtain rfl:=of_decide_eq_true g
  obtain⟨t,h1,h2⟩:=qE h
  refine qa mixed qtJ ((qtI _ _ _ _ _ _ _ _ _ _ _ _ _ _).trans h1) (by kernel_rfl) fun v objs' hd=>?_
  unfold qec at hd
  split at hd
  ·skip
   have g:=(qV hd).1
   replace hd:=(qV hd).2
   obtain rfl:=of_decide_eq_true g
   cases hd
   exact h2
  ·cases hd
 ·exact ho _ _ _ _ _ h
def qVg:Ctx:=mkC 87 ((qMC (qCj (qOs (qOt (qOu qK)))))) [] qW
theorem qih:CtxOK Tryz.prog qVg:=mkC_ok ((qQY _ (qC4 _ (qVu _ (qVy _ (qV2 _ qM))))))
def qVh:V->List Obj->Option (Bool×Int×Nat×LI×LI×Int×LL×LL×Nat×LL):=fun v objs=>match v,objs with
 | .s (.b y0),[.cells 71 [.one [.ptr 1 0 none 0,.i .u64 y1,.sl 2 0 y2 true]],.cells 87 [.arr .i8 81 y3,.arr .i8 16 y4,.one [.i .i8 y5],.rows [.i .u64,.i .u64] 32 y6,.rows [.i .u64,.i .u64] 2 y7],.sli 119 false (.rows [.i .i64,.i .i64,.i .i64,.b,.i .i8,.i .i8] y8 y9)]=>some (y0,y1,y2,y3,y4,y5,y6,y7,y8,y9)
 | _,_=>none
theorem qig (x0:Int) (x1:Nat) (x2 x3:LI) (x4:Int) (x5 x6:LL) (x7:Nat) (x8:LL):fnE qVg Tryz.f45 ([.s (.ptr 0 0 none 0)]) ([.cells 71 [.one [.ptr 1 0 none 0,.i .u64 x0,.sl 2 0 x1 true]],.cells 87 [.arr .i8 81 x2,.arr .i8 16 x3,.one [.i .i8 x4],.rows [.i .u64,.i .u64] 32 x5,.rows [.i .u64,.i .u64] 2 x6],.sli 119 false (.rows [.i .i64,.i .i64,.i .i64,.b,.i .i8,.i .i8] x7 x8)]) qVh=qEW x0 x1 x2 x3 x4 x5 x6 x7 x8:=by kernel_rfl
def qVf:HA:=fun o vs objs K=>match vs,objs with
 | [.s (.ptr 0 0 none 0)],[.cells 71 [.one [.ptr 1 0 none 0,.i .u64 x0,.sl 2 0 x1 true]],.cells 87 [.arr .i8 81 x2,.arr .i8 16 x3,.one [.i .i8 x4],.rows [.i .u64,.i .u64] 32 x5,.rows [.i .u64,.i .u64] 2 x6],.sli 119 false (.rows [.i .i64,.i .i64,.i .i64,.b,.i .i8,.i .i8] x7 x8)]=>ob (qEW x0 x1 x2 x3 x4 x5 x6 x7 x8) fun z=>K false (.s (.b (z.1))) ([.cells 71 [.one [.ptr 1 0 none 0,.i .u64 (z.2.1),.sl 2 0 (z.2.2.1) true]],.cells 87 [.arr .i8 81 (z.2.2.2.1),.arr .i8 16 (z.2.2.2.2.1),.one [.i .i8 (z.2.2.2.2.2.1)],.rows [.i .u64,.i .u64] 32 (z.2.2.2.2.2.2.1),.rows [.i .u64,.i .u64] 2 (z.2.2.2.2.2.2.2.1)],.sli 119 false (.rows [.i .i64,.i .i64,.i .i64,.b,.i .i8,.i .i8] (z.2.2.2.2.2.2.2.2.1) (z.2.2.2.2.2.2.2.2.2))])
 | _,_=>o 45 vs objs K
def qVi (o:Orc):Orc:=qN 45 (qVf o) o
theorem qii:OQ Tryz.prog qVi:=fun _ ho=>qO ho fun vs objs K r h=>by
 unfold qVf at h
 split at h
 ·skip
  obtain⟨t,h1,h2⟩:=qE h
  refine qa mixed qih ((qig _ _ _ _ _ _ _ _ _).trans h1) (by kernel_rfl) fun v objs' hd=>?_
  unfold qVh at hd;split at hd;(cases hd;exact h2);cases hd
 ·exact ho _ _ _ _ _ h
def qSC:Ex->List V->List Obj->Option ((Int×Int×Int×Int×Int×Nat×Bool×Int×Nat×Int×Int×Nat×Int×Int×Nat×Nat×LL×LI×LI×Int×LL×LL×Nat×LL×Nat×LL×Nat×LL)⊕(Int×Int×Int×Int×Int×Nat×Int×Int×Nat×Int×Int×Nat×Nat×LL×LI×LI×Int×LL×LL×Nat×LL×Nat×LL)):=fun e vs objs=>match e,vs,objs with
 | .ret,[.s (.ptr 0 0 none 0),.s (.i .i64 y0),.s (.i .i64 y1),.s (.i .i64 y2),.s (.i .i64 y3),.s (.i .i64 y4),.s (.sl 7 0 y5 true),.s (.b y6),.s (.ptr 2 0 none 0),.s (.i .i64 y7),.s (.sl 8 0 y8 true)],[.cells 56 [.one [.ptr 1 0 none 0,.ptr 2 0 none 0,.i .i64 y9,.i .i64 y10]],.cells 59 [.one [.sl 3 0 y11 true,.i .i64 y12]],.cells 71 [.one [.ptr 4 0 none 0,.i .u64 y13,.sl 6 0 y14 true]],.sli 127 false (.rows kk0 y15 y16),.cells 87 [.arr .i8 81 y17,.arr .i8 16 y18,.one [.i .i8 y19],.rows [.i .u64,.i .u64] 32 y20,.rows [.i .u64,.i .u64] 2 y21],Obj.dead,.sli 119 false (.rows [.i .i64,.i .i64,.i .i64,.b,.i .i8,.i .i8] y22 y23),.sli 51 false (.rows [.i .i64,.i .i64,.i .i64,.b] y24 y25),.sli 51 false (.rows [.i .i64,.i .i64,.i .i64,.b] y26 y27)]=>bif decide (kk0=kL0) then some (.inl (y0,y1,y2,y3,y4,y5,y6,y7,y8,y9,y10,y11,y12,y13,y14,y15,y16,y17,y18,y19,y20,y21,y22,y23,y24,y25,y26,y27)) else none
 | .exit 1,[.s (.ptr 0 0 none 0),.s (.i .i64 y0),.s (.i .i64 y1),.s (.i .i64 y2),.s (.i .i64 y3),.s .bad,.s .bad,.s .bad,.s (.ptr 2 0 none 0),.s (.i .i64 y4),.s (.sl 7 0 y5 true)],[.cells 56 [.one [.ptr 1 0 none 0,.ptr 2 0 none 0,.i .i64 y6,.i .i64 y7]],.cells 59 [.one [.sl 3 0 y8 true,.i .i64 y9]],.cells 71 [.one [.ptr 4 0 none 0,.i .u64 y10,.sl 6 0 y11 true]],.sli 127 false (.rows kk0 y12 y13),.cells 87 [.arr .i8 81 y14,.arr .i8 16 y15,.one [.i .i8 y16],.rows [.i .u64,.i .u64] 32 y17,.rows [.i .u64,.i .u64] 2 y18],Obj.dead,.sli 119 false (.rows [.i .i64,.i .i64,.i .i64,.b,.i .i8,.i .i8] y19 y20),.sli 51 false (.rows [.i .i64,.i .i64,.i .i64,.b] y21 y22)]=>bif decide (kk0=kL0) then some (.inr (y0,y1,y2,y3,y4,y5,y6,y7,y8,y9,y10,y11,y12,y13,y14,y15,y16,y17,y18,y19,y20,y21,y22)) else none
 | _,_,_=>none
def qSF (n:Nat) {R:Type} (vs:List V) (objs:List Obj) (K:Ex->List V->List Obj->Option R):Option R:=match vs,objs with
 | [.s (.ptr 0 0 none 0),.s (.i .i64 x0),.s (.i .i64 x1),.s (.i .i64 x2),.s (.i .i64 x3),.s (.ptr 2 0 none 0),.s (.i .i64 x4),.s (.sl 7 0 x5 true),.s (.i .i64 x6),.s (.sl 8 0 x7 true),.s (.i .i64 x8),.s (.i .i64 x9)],[.cells 56 [.one [.ptr 1 0 none 0,.ptr 2 0 none 0,.i .i64 x10,.i .i64 x11]],.cells 59 [.one [.sl 3 0 x12 true,.i .i64 x13]],.cells 71 [.one [.ptr 4 0 none 0,.i .u64 x14,.sl 6 0 x15 true]],.sli 127 false (.rows kk0 x16 x17),.cells 87 [.arr .i8 81 x18,.arr .i8 16 x19,.one [.i .i8 x20],.rows [.i .u64,.i .u64] 32 x21,.rows [.i .u64,.i .u64] 2 x22],Obj.dead,.sli 119 false (.rows [.i .i64,.i .i64,.i .i64,.b,.i .i8,.i .i8] x23 x24),.sli 51 false (.rows [.i .i64,.i .i64,.i .i64,.b] x25 x26),.sli 51 false (.rows [.i .i64,.i .i64,.i .i64,.b] x27 x28)]=>bif decide (kk0=kL0) then ob (qCo (qCP n) qB x0 x1 x2 x3 x4 x5 x6 x7 x8 x9 x10 x11 x12 x13 x14 x15 x16 x17 x18 x19 x20 x21 x22 x23 x24 x25 x26 x27 x28) fun t0=>sw t0 (fun z=>K (.ret) ([.s (.ptr 0 0 none 0),.s (.i .i64 (z.1)),.s (.i .i64 (z.2.1)),.s (.i .i64 (z.2.2.1)),.s (.i .i64 (z.2.2.2.1)),.s (.i .i64 (z.2.2.2.2.1)),.s (.sl 7 0 (z.2.2.2.2.2.1) true),.s (.b (z.2.2.2.2.2.2.1)),.s (.ptr 2 0 none 0),.s (.i .i64 (z.2.2.2.2.2.2.2.1)),.s (.sl 8 0 (z.2.2.2.2.2.2.2.2.1) true)]) ([.cells 56 [.one [.ptr 1 0 none 0,.ptr 2 0 none 0,.i .i64 (z.2.2.2.2.2.2.2.2.2.1),.i .i64 (z.2.2.2.2.2.2.2.2.2.2.1)]],.cells 59 [.one [.sl 3 0 (z.2.2.2.2.2.2.2.2.2.2.2.1) true,.i .i64 (z.2.2.2.2.2.2.2.2.2.2.2.2.1)]],.cells 71 [.one [.ptr 4 0 none 0,.i .u64 (z.2.2.2.2.2.2.2.2.2.2.2.2.2.1),.sl 6 0 (z.2.2.2.2.2.2.2.2.2.2.2.2.2.2.1) true]],.sli 127 false (.rows kL0 (z.2.2.2.2.2.2.2.2.2.2.2.2.2.2.2.1) (z.2.2.2.2.2.2.2.2.2.2.2.2.2.2.2.2.1)),.cells 87 [.arr .i8 81 (z.2.2.2.2.2.2.2.2.2.2.2.2.2.2.2.2.2.1),.arr .i8 16 (z.2.2.2.2.2.2.2.2.2.2.2.2.2.2.2.2.2.2.1),.one [.i .i8 (z.2.2.2.2.2.2.2.2.2.2.2.2.2.2.2.2.2.2.2.1)],.rows [.i .u64,.i .u64] 32 (z.2.2.2.2.2.2.2.2.2.2.2.2.2.2.2.2.2.2.2.2.1),.rows [.i .u64,.i .u64] 2 (z.2.2.2.2.2.2.2.2.2.2.2.2.2.2.2.2.2.2.2.2.2.1)],Obj.dead,.sli 119 false (.rows [.i .i64,.i .i64,.i .i64,.b,.i .i8,.i .i8] (z.2.2.2.2.2.2.2.2.2.2.2.2.2.2.2.2.2.2.2.2.2.2.1) (z.2.2.2.2.2.2.2.2.2.2.2.2.2.2.2.2.2.2.2.2.2.2.2.1)),.sli 51 false (.rows [.i .i64,.i .i64,.i .i64,.b] (z.2.2.2.2.2.2.2.2.2.2.2.2.2.2.2.2.2.2.2.2.2.2.2.2.1) (z.2.2.2.2.2.2.2.2.2.2.2.2.2.2.2.2.2.2.2.2.2.2.2.2.2.1)),.sli 51 false (.rows [.i .i64,.i .i64,.i .i64,.b] (z.2.2.2.2.2.2.2.2.2.2.2.2.2.2.2.2.2.2.2.2.2.2.2.2.2.2.1) (z.2.2.2.2.2.2.2.2.2.2.2.2.2.2.2.2.2.2.2.2.2.2.2.2.2.2.2))])) (fun z=>K (.exit 1) ([.s (.ptr 0 0 none 0),.s (.i .i64 (z.1)),.s (.i .i64 (z.2.1)),.s (.i .i64 (z.2.2.1)),.s (.i .i64 (z.2.2.2.1)),.s .bad,.s .bad,.s .bad,.s (.ptr 2 0 none 0),.s (.i .i64 (z.2.2.2.2.1)),.s (.sl 7 0 (z.2.2.2.2.2.1) true)]) ([.cells 56 [.one [.ptr 1 0 none 0,.ptr 2 0 none 0,.i .i64 (z.2.2.2.2.2.2.1),.i .i64 (z.2.2.2.2.2.2.2.1)]],.cells 59 [.one [.sl 3 0 (z.2.2.2.2.2.2.2.2.1) true,.i .i64 (z.2.2.2.2.2.2.2.2.2.1)]],.cells 71 [.one [.ptr 4 0 none 0,.i .u64 (z.2.2.2.2.2.2.2.2.2.2.1),.sl 6 0 (z.2.2.2.2.2.2.2.2.2.2.2.1) true]],.sli 127 false (.rows kL0 (z.2.2.2.2.2.2.2.2.2.2.2.2.1) (z.2.2.2.2.2.2.2.2.2.2.2.2.2.1)),.cells 87 [.arr .i8 81 (z.2.2.2.2.2.2.2.2.2.2.2.2.2.2.1),.arr .i8 16 (z.2.2.2.2.2.2.2.2.2.2.2.2.2.2.2.1),.one [.i .i8 (z.2.2.2.2.2.2.2.2.2.2.2.2.2.2.2.2.1)],.rows [.i .u64,.i .u64] 32 (z.2.2.2.2.2.2.2.2.2.2.2.2.2.2.2.2.2.1),.rows [.i .u64,.i .u64] 2 (z.2.2.2.2.2.2.2.2.2.2.2.2.2.2.2.2.2.2.1)],Obj.dead,.sli 119 false (.rows [.i .i64,.i .i64,.i .i64,.b,.i .i8,.i .i8] (z.2.2.2.2.2.2.2.2.2.2.2.2.2.2.2.2.2.2.2.1) (z.2.2.2.2.2.2.2.2.2.2.2.2.2.2.2.2.2.2.2.2.1)),.sli 51 false (.rows [.i .i64,.i .i64,.i .i64,.b] (z.2.2.2.2.2.2.2.2.2.2.2.2.2.2.2.2.2.2.2.2.2.1) (z.2.2.2.2.2.2.2.2.2.2.2.2.2.2.2.2.2.2.2.2.2.2))])) else none
 | _,_=>none
def qrA (n:Nat):{R:Type}->Nat->List V->List Obj->(Ex->List V->List Obj->Option R)->Option R:=fun q vs objs K=>bif Nat.beq q 25 then qSF n vs objs K else none
def qHB (n:Nat) {R:Type} (o:Orc) (vs:List V) (objs:List Obj) (K:Bool->V->List Obj->Option R):Option R:=match vs,objs with
 | [.s (.ptr 0 0 none 0),.s (.i .i64 x0),.s (.i .i64 x1),.s (.i .i64 x2),.s (.i .i64 x3)],[.cells 56 [.one [.ptr 1 0 none 0,.ptr 2 0 none 0,.i .i64 x4,.i .i64 x5]],.cells 59 [.one [.sl 3 0 x6 true,.i .i64 x7]],.cells 71 [.one [.ptr 4 0 none 0,.i .u64 x8,.sl 5 0 x9 true]],.sli 127 false (.rows kk0 x10 x11),.cells 87 [.arr .i8 81 x12,.arr .i8 16 x13,.one [.i .i8 x14],.rows [.i .u64,.i .u64] 32 x15,.rows [.i .u64,.i .u64] 2 x16],.sli 119 false (.rows [.i .i64,.i .i64,.i .i64,.b,.i .i8,.i .i8] x17 x18)]=>bif decide (kk0=kL0) then ob (qCP n x0 x1 x2 x3 x4 x5 x6 x7 x8 x9 x10 x11 x12 x13 x14 x15 x16 x17 x18) fun t0=>sw t0 (fun z=>K false (.tup [W.s (.i .i64 (z.1)),W.s (.sl 6 0 (z.2.1) true),W.s (.b (z.2.2.1))]) ([.cells 56 [.one [.ptr 1 0 none 0,.ptr 2 0 none 0,.i .i64 (z.2.2.2.1),.i .i64 (z.2.2.2.2.1)]],.cells 59 [.one [.sl 3 0 (z.2.2.2.2.2.1) true,.i .i64 (z.2.2.2.2.2.2.1)]],.cells 71 [.one [.ptr 4 0 none 0,.i .u64 (z.2.2.2.2.2.2.2.1),.sl 5 0 (z.2.2.2.2.2.2.2.2.1) true]],.sli 127 false (.rows kL0 (z.2.2.2.2.2.2.2.2.2.1) (z.2.2.2.2.2.2.2.2.2.2.1)),.cells 87 [.arr .i8 81 (z.2.2.2.2.2.2.2.2.2.2.2.1),.arr .i8 16 (z.2.2.2.2.2.2.2.2.2.2.2.2.1),.one [.i .i8 (z.2.2.2.2.2.2.2.2.2.2.2.2.2.1)],.rows [.i .u64,.i .u64] 32 (z.2.2.2.2.2.2.2.2.2.2.2.2.2.2.1),.rows [.i .u64,.i .u64] 2 (z.2.2.2.2.2.2.2.2.2.2.2.2.2.2.2.1)],.sli 119 false (.rows [.i .i64,.i .i64,.i .i64,.b,.i .i8,.i .i8] (z.2.2.2.2.2.2.2.2.2.2.2.2.2.2.2.2.1) (z.2.2.2.2.2.2.2.2.2.2.2.2.2.2.2.2.2.1)),.sli 51 false (.rows [.i .i64,.i .i64,.i .i64,.b] (z.2.2.2.2.2.2.2.2.2.2.2.2.2.2.2.2.2.2.1) (z.2.2.2.2.2.2.2.2.2.2.2.2.2.2.2.2.2.2.2))])) (fun z=>K false (.tup [W.s (.i .i64 (z.1)),W.s (.sl 7 0 (z.2.1) true),W.s (.b (z.2.2.1))]) ([.cells 56 [.one [.ptr 1 0 none 0,.ptr 2 0 none 0,.i .i64 (z.2.2.2.1),.i .i64 (z.2.2.2.2.1)]],.cells 59 [.one [.sl 3 0 (z.2.2.2.2.2.1) true,.i .i64 (z.2.2.2.2.2.2.1)]],.cells 71 [.one [.ptr 4 0 none 0,.i .u64 (z.2.2.2.2.2.2.2.1),.sl 6 0 (z.2.2.2.2.2.2.2.2.1) true]],.sli 127 false (.rows kL0 (z.2.2.2.2.2.2.2.2.2.1) (z.2.2.2.2.2.2.2.2.2.2.1)),.cells 87 [.arr .i8 81 (z.2.2.2.2.2.2.2.2.2.2.2.1),.arr .i8 16 (z.2.2.2.2.2.2.2.2.2.2.2.2.1),.one [.i .i8 (z.2.2.2.2.2.2.2.2.2.2.2.2.2.1)],.rows [.i .u64,.i .u64] 32 (z.2.2.2.2.2.2.2.2.2.2.2.2.2.2.1),.rows [.i .u64,.i .u64] 2 (z.2.2.2.2.2.2.2.2.2.2.2.2.2.2.2.1)],Obj.dead,.sli 119 false (.rows [.i .i64,.i .i64,.i .i64,.b,.i .i8,.i .i8] (z.2.2.2.2.2.2.2.2.2.2.2.2.2.2.2.2.1) (z.2.2.2.2.2.2.2.2.2.2.2.2.2.2.2.2.2.1)),.sli 51 false (.rows [.i .i64,.i .i64,.i .i64,.b] (z.2.2.2.2.2.2.2.2.2.2.2.2.2.2.2.2.2.2.1) (z.2.2.2.2.2.2.2.2.2.2.2.2.2.2.2.2.2.2.2))])) else none
 | _,_=>o 24 vs objs K
def qSE (n:Nat) (o:Orc):Orc:=fun f vs objs K=>bif Nat.beq f 24 then qHB n o vs objs K else o f vs objs K
def qrC (n:Nat):Orc:=qSE n (qed (qVi (qOr (qdr (qcg (qeZ (qTL (qJy qK))))))))
def qKZ (n:Nat):Ctx:=mkC 217 (qrC n) [(25,[0,1,2,3,4,13,19,20,21,140,141,142],[0,1,2,3,4,10,11,12,13,19,20]),(1048601,[5],[])] (qrA n)
def qSD (n:Nat) (f:Nat) (x0 x1:Int) (x2 x3 x4:Int) (x5:Nat) (x6:Int) (x7:Nat) (x8 x9:Int) (x10 x11:Int) (x12:Nat) (x13 x14:Int) (x15 x16:Nat) (x17:LL) (x18 x19:LI) (x20:Int) (x21 x22:LL) (x23:Nat) (x24:LL) (x25:Nat) (x26:LL) (x27:Nat) (x28:LL):Option ((Int×Int×Int×Int×Int×Nat×Bool×Int×Nat×Int×Int×Nat×Int×Int×Nat×Nat×LL×LI×LI×Int×LL×LL×Nat×LL×Nat×LL×Nat×LL)⊕(Int×Int×Int×Int×Int×Nat×Int×Int×Nat×Int×Int×Nat×Nat×LL×LI×LI×Int×LL×LL×Nat×LL×Nat×LL)):=qh (qKZ n) 6 [0,1,2,3,4,13,19,20,21,140,141,142] [0,1,2,3,4,10,11,12,13,19,20] (qG Tryz.f24 25) f ([.s (.ptr 0 0 none 0),.s (.i .i64 x0),.s (.i .i64 x1),.s (.i .i64 x2),.s (.i .i64 x3),.s (.ptr 2 0 none 0),.s (.i .i64 x4),.s (.sl 7 0 x5 true),.s (.i .i64 x6),.s (.sl 8 0 x7 true),.s (.i .i64 x8),.s (.i .i64 x9)]) ([.cells 56 [.one [.ptr 1 0 none 0,.ptr 2 0 none 0,.i .i64 x10,.i .i64 x11]],.cells 59 [.one [.sl 3 0 x12 true,.i .i64 x13]],.cells 71 [.one [.ptr 4 0 none 0,.i .u64 x14,.sl 6 0 x15 true]],.sli 127 false (.rows kL0 x16 x17),.cells 87 [.arr .i8 81 x18,.arr .i8 16 x19,.one [.i .i8 x20],.rows [.i .u64,.i .u64] 32 x21,.rows [.i .u64,.i .u64] 2 x22],Obj.dead,.sli 119 false (.rows [.i .i64,.i .i64,.i .i64,.b,.i .i8,.i .i8] x23 x24),.sli 51 false (.rows [.i .i64,.i .i64,.i .i64,.b] x25 x26),.sli 51 false (.rows [.i .i64,.i .i64,.i .i64,.b] x27 x28)]) qSC
theorem qq9 (n:Nat) (f:Nat) (x0 x1:Int) (x2 x3 x4:Int) (x5:Nat) (x6:Int) (x7:Nat) (x8 x9:Int) (x10 x11:Int) (x12:Nat) (x13 x14:Int) (x15 x16:Nat) (x17:LL) (x18 x19:LI) (x20:Int) (x21 x22:LL) (x23:Nat) (x24:LL) (x25:Nat) (x26:LL) (x27:Nat) (x28:LL):qSD n (f+1) x0 x1 x2 x3 x4 x5 x6 x7 x8 x9 x10 x11 x12 x13 x14 x15 x16 x17 x18 x19 x20 x21 x22 x23 x24 x25 x26 x27 x28=qMr (qCP n) (qSD n f) x0 x1 x2 x3 x4 x5 x6 x7 x8 x9 x10 x11 x12 x13 x14 x15 x16 x17 x18 x19 x20 x21 x22 x23 x24 x25 x26 x27 x28:=by kernel_rfl
theorem qcb (n:Nat):∀ f,qSD n f=qCo (qCP n) f
 | 0=>rfl
 | f+1=>by funext x0 x1 x2 x3 x4 x5 x6 x7 x8 x9 x10 x11 x12 x13 x14 x15 x16 x17 x18 x19 x20 x21 x22 x23 x24 x25 x26 x27 x28;rw[qq9,qcb n f];rfl
theorem qrD (n:Nat) (hc:CtxOK Tryz.prog (qKZ n)):qg Tryz.prog (qKZ n) 6 (qG Tryz.f24 25):=
 qi mixed hc (qQ.of (l':=[]) (by kernel_rfl) trivial) (q:=25) (kin:=[0,1,2,3,4,13,19,20,21,140,141,142]) (kout:=[0,1,2,3,4,10,11,12,13,19,20]) (by kernel_rfl) (by kernel_rfl) fun vs objs K r h=>by
  replace h:qSF n vs objs K=some r:=h
  unfold qSF at h
  split at h
  ·skip
   have g:=(qV h).1
   replace h:=(qV h).2
   obtain rfl:=of_decide_eq_true g
   obtain⟨t,h1,h2⟩:=qE h
   rw[<- qcb n] at h1
   refine⟨_,qSC,t,qB,h1,fun e vs' objs' hd=>?_⟩
   unfold qSC at hd
   split at hd
   ·skip
    have g:=(qV hd).1
    replace hd:=(qV hd).2
    obtain rfl:=of_decide_eq_true g
    cases hd
    exact h2
   ·skip
    have g:=(qV hd).1
    replace hd:=(qV hd).2
    obtain rfl:=of_decide_eq_true g
    cases hd
    exact h2
   ·cases hd
  ·cases h
def qca:V->List Obj->Option ((Int×Nat×Bool×Int×Int×Nat×Int×Int×Nat×Nat×LL×LI×LI×Int×LL×LL×Nat×LL×Nat×LL)⊕(Int×Nat×Bool×Int×Int×Nat×Int×Int×Nat×Nat×LL×LI×LI×Int×LL×LL×Nat×LL×Nat×LL)):=fun v objs=>match v,objs with
 | .tup [W.s (.i .i64 y0),W.s (.sl 6 0 y1 true),W.s (.b y2)],[.cells 56 [.one [.ptr 1 0 none 0,.ptr 2 0 none 0,.i .i64 y3,.i .i64 y4]],.cells 59 [.one [.sl 3 0 y5 true,.i .i64 y6]],.cells 71 [.one [.ptr 4 0 none 0,.i .u64 y7,.sl 5 0 y8 true]],.sli 127 false (.rows kk0 y9 y10),.cells 87 [.arr .i8 81 y11,.arr .i8 16 y12,.one [.i .i8 y13],.rows [.i .u64,.i .u64] 32 y14,.rows [.i .u64,.i .u64] 2 y15],.sli 119 false (.rows [.i .i64,.i .i64,.i .i64,.b,.i .i8,.i .i8] y16 y17),.sli 51 false (.rows [.i .i64,.i .i64,.i .i64,.b] y18 y19)]=>bif decide (kk0=kL0) then some (.inl (y0,y1,y2,y3,y4,y5,y6,y7,y8,y9,y10,y11,y12,y13,y14,y15,y16,y17,y18,y19)) else none
 | .tup [W.s (.i .i64 y0),W.s (.sl 7 0 y1 true),W.s (.b y2)],[.cells 56 [.one [.ptr 1 0 none 0,.ptr 2 0 none 0,.i .i64 y3,.i .i64 y4]],.cells 59 [.one [.sl 3 0 y5 true,.i .i64 y6]],.cells 71 [.one [.ptr 4 0 none 0,.i .u64 y7,.sl 6 0 y8 true]],.sli 127 false (.rows kk0 y9 y10),.cells 87 [.arr .i8 81 y11,.arr .i8 16 y12,.one [.i .i8 y13],.rows [.i .u64,.i .u64] 32 y14,.rows [.i .u64,.i .u64] 2 y15],Obj.dead,.sli 119 false (.rows [.i .i64,.i .i64,.i .i64,.b,.i .i8,.i .i8] y16 y17),.sli 51 false (.rows [.i .i64,.i .i64,.i .i64,.b] y18 y19)]=>bif decide (kk0=kL0) then some (.inr (y0,y1,y2,y3,y4,y5,y6,y7,y8,y9,y10,y11,y12,y13,y14,y15,y16,y17,y18,y19)) else none
 | _,_=>none
theorem qq7 (n:Nat) (x0 x1:Int) (x2 x3:Int) (x4 x5:Int) (x6:Nat) (x7 x8:Int) (x9 x10:Nat) (x11:LL) (x12 x13:LI) (x14:Int) (x15 x16:LL) (x17:Nat) (x18:LL):fnE (qKZ n) Tryz.f24 ([.s (.ptr 0 0 none 0),.s (.i .i64 x0),.s (.i .i64 x1),.s (.i .i64 x2),.s (.i .i64 x3)]) ([.cells 56 [.one [.ptr 1 0 none 0,.ptr 2 0 none 0,.i .i64 x4,.i .i64 x5]],.cells 59 [.one [.sl 3 0 x6 true,.i .i64 x7]],.cells 71 [.one [.ptr 4 0 none 0,.i .u64 x8,.sl 5 0 x9 true]],.sli 127 false (.rows kL0 x10 x11),.cells 87 [.arr .i8 81 x12,.arr .i8 16 x13,.one [.i .i8 x14],.rows [.i .u64,.i .u64] 32 x15,.rows [.i .u64,.i .u64] 2 x16],.sli 119 false (.rows [.i .i64,.i .i64,.i .i64,.b,.i .i8,.i .i8] x17 x18)]) qca=qCP (n+1) x0 x1 x2 x3 x4 x5 x6 x7 x8 x9 x10 x11 x12 x13 x14 x15 x16 x17 x18:=by kernel_rfl
theorem qq8 (n:Nat) (hc:CtxOK Tryz.prog (qKZ n)) {vs:List V} {objs:List Obj} (x0 x1:Int) (x2 x3:Int) (x4 x5:Int) (x6:Nat) (x7 x8:Int) (x9 x10:Nat) (x11:LL) (x12 x13:LI) (x14:Int) (x15 x16:LL) (x17:Nat) (x18:LL) {R:Type} {K:Bool->V->List Obj->Option R} {r:R} (hv:vs=[.s (.ptr 0 0 none 0),.s (.i .i64 x0),.s (.i .i64 x1),.s (.i .i64 x2),.s (.i .i64 x3)]) (ho:objs=[.cells 56 [.one [.ptr 1 0 none 0,.ptr 2 0 none 0,.i .i64 x4,.i .i64 x5]],.cells 59 [.one [.sl 3 0 x6 true,.i .i64 x7]],.cells 71 [.one [.ptr 4 0 none 0,.i .u64 x8,.sl 5 0 x9 true]],.sli 127 false (.rows kL0 x10 x11),.cells 87 [.arr .i8 81 x12,.arr .i8 16 x13,.one [.i .i8 x14],.rows [.i .u64,.i .u64] 32 x15,.rows [.i .u64,.i .u64] 2 x16],.sli 119 false (.rows [.i .i64,.i .i64,.i .i64,.b,.i .i8,.i .i8] x17 x18)]) (h:ob (qCP (n+1) x0 x1 x2 x3 x4 x5 x6 x7 x8 x9 x10 x11 x12 x13 x14 x15 x16 x17 x18) (fun t0=>sw t0 (fun z=>K false (.tup [W.s (.i .i64 (z.1)),W.s (.sl 6 0 (z.2.1) true),W.s (.b (z.2.2.1))]) ([.cells 56 [.one [.ptr 1 0 none 0,.ptr 2 0 none 0,.i .i64 (z.2.2.2.1),.i .i64 (z.2.2.2.2.1)]],.cells 59 [.one [.sl 3 0 (z.2.2.2.2.2.1) true,.i .i64 (z.2.2.2.2.2.2.1)]],.cells 71 [.one [.ptr 4 0 none 0,.i .u64 (z.2.2.2.2.2.2.2.1),.sl 5 0 (z.2.2.2.2.2.2.2.2.1) true]],.sli 127 false (.rows kL0 (z.2.2.2.2.2.2.2.2.2.1) (z.2.2.2.2.2.2.2.2.2.2.1)),.cells 87 [.arr .i8 81 (z.2.2.2.2.2.2.2.2.2.2.2.1),.arr .i8 16 (z.2.2.2.2.2.2.2.2.2.2.2.2.1),.one [.i .i8 (z.2.2.2.2.2.2.2.2.2.2.2.2.2.1)],.rows [.i .u64,.i .u64] 32 (z.2.2.2.2.2.2.2.2.2.2.2.2.2.2.1),.rows [.i .u64,.i .u64] 2 (z.2.2.2.2.2.2.2.2.2.2.2.2.2.2.2.1)],.sli 119 false (.rows [.i .i64,.i .i64,.i .i64,.b,.i .i8,.i .i8] (z.2.2.2.2.2.2.2.2.2.2.2.2.2.2.2.2.1) (z.2.2.2.2.2.2.2.2.2.2.2.2.2.2.2.2.2.1)),.sli 51 false (.rows [.i .i64,.i .i64,.i .i64,.b] (z.2.2.2.2.2.2.2.2.2.2.2.2.2.2.2.2.2.2.1) (z.2.2.2.2.2.2.2.2.2.2.2.2.2.2.2.2.2.2.2))])) (fun z=>K false (.tup [W.s (.i .i64 (z.1)),W.s (.sl 7 0 (z.2.1) true),W.s (.b (z.2.2.1))]) ([.cells 56 [.one [.ptr 1 0 none 0,.ptr 2 0 none 0,.i .i64 (z.2.2.2.1),.i .i64 (z.2.2.2.2.1)]],.cells 59 [.one [.sl 3 0 (z.2.2.2.2.2.1) true,.i .i64 (z.2.2.2.2.2.2.1)]],.cells 71 [.one [.ptr 4 0 none 0,.i .u64 (z.2.2.2.2.2.2.2.1),.sl 6 0 (z.2.2.2.2.2.2.2.2.1) true]],.sli 127 false (.rows kL0 (z.2.2.2.2.2.2.2.2.2.1) (z.2.2.2.2.2.2.2.2.2.2.1)),.cells 87 [.arr .i8 81 (z.2.2.2.2.2.2.2.2.2.2.2.1),.arr .i8 16 (z.2.2.2.2.2.2.2.2.2.2.2.2.1),.one [.i .i8 (z.2.2.2.2.2.2.2.2.2.2.2.2.2.1)],.rows [.i .u64,.i .u64] 32 (z.2.2.2.2.2.2.2.2.2.2.2.2.2.2.1),.rows [.i .u64,.i .u64] 2 (z.2.2.2.2.2.2.2.2.2.2.2.2.2.2.2.1)],Obj.dead,.sli 119 false (.rows [.i .i64,.i .i64,.i .i64,.b,.i .i8,.i .i8] (z.2.2.2.2.2.2.2.2.2.2.2.2.2.2.2.2.1) (z.2.2.2.2.2.2.2.2.2.2.2.2.2.2.2.2.2.1)),.sli 51 false (.rows [.i .i64,.i .i64,.i .i64,.b] (z.2.2.2.2.2.2.2.2.2.2.2.2.2.2.2.2.2.2.1) (z.2.2.2.2.2.2.2.2.2.2.2.2.2.2.2.2.2.2.2))])))=some r):
  ∃ p v objs',K p v objs'=some r /\ qDe Tryz.prog 24 vs objs p v objs':=by
 subst hv
 subst ho
 obtain⟨t,h1,h2⟩:=qE h
 refine qJQ mixed hc (objs:=[.cells 56 [.one [.ptr 1 0 none 0,.ptr 2 0 none 0,.i .i64 x4,.i .i64 x5]],.cells 59 [.one [.sl 3 0 x6 true,.i .i64 x7]],.cells 71 [.one [.ptr 4 0 none 0,.i .u64 x8,.sl 5 0 x9 true]],.sli 127 false (.rows kL0 x10 x11),.cells 87 [.arr .i8 81 x12,.arr .i8 16 x13,.one [.i .i8 x14],.rows [.i .u64,.i .u64] 32 x15,.rows [.i .u64,.i .u64] 2 x16],.sli 119 false (.rows [.i .i64,.i .i64,.i .i64,.b,.i .i8,.i .i8] x17 x18)]) (fn:=Tryz.f24) (b:=(Tryz.f24).body.getD .skip) (by kernel_rfl) (by kernel_rfl) (by kernel_rfl) (qQ.of (l':=[qG Tryz.f24 25]) (by kernel_rfl) ⟨qrD n hc,trivial⟩) ((qq7 n x0 x1 x2 x3 x4 x5 x6 x7 x8 x9 x10 x11 x12 x13 x14 x15 x16 x17 x18).trans h1) fun v objs' hd=>?_
 unfold qca at hd
 split at hd
 ·skip
  have g:=(qV hd).1
  replace hd:=(qV hd).2
  obtain rfl:=of_decide_eq_true g
  cases hd
  exact h2
 ·skip
  have g:=(qV hd).1
  replace hd:=(qV hd).2
  obtain rfl:=of_decide_eq_true g
  cases hd
  exact h2
 ·cases hd
theorem qrB:∀ (n:Nat) (o:Orc) (_:qBx Tryz.prog o),qBx Tryz.prog (qSE n o):=by
 intro n
 induction n with
 | zero=>
   intro o ho R f vs objs K r h
   replace h:(bif Nat.beq f 24 then qHB 0 o vs objs K else o f vs objs K)=some r:=h
   cases hf:Nat.beq f 24 with
   | false=>rw[hf] at h;exact ho f vs objs K r h
   | true=>
     rw[hf] at h
     have e:=Nat.eq_of_beq_eq_true hf
     subst e
     replace h:qHB 0 o vs objs K=some r:=h
     unfold qHB at h
     split at h
     ·skip
      replace h:=(qV h).2
      cases h
     ·exact ho _ _ _ _ _ h
 | succ n ih=>
   intro o ho R f vs objs K r h
   replace h:(bif Nat.beq f 24 then qHB (n+1) o vs objs K else o f vs objs K)=some r:=h
   cases hf:Nat.beq f 24 with
   | false=>rw[hf] at h;exact ho f vs objs K r h
   | true=>
     rw[hf] at h
     have e:=Nat.eq_of_beq_eq_true hf
     subst e
     replace h:qHB (n+1) o vs objs K=some r:=h
     unfold qHB at h
     split at h
     ·skip
      have g:=(qV h).1
      replace h:=(qV h).2
      obtain rfl:=of_decide_eq_true g
      exact qq8 n ⟨tab_ok,ih _ (qtK _ (qii _ (qVq _ (qsM _ (qrG _ (qtH _ (qe9 _ (qLj _ qM)))))))),eqs_ok,bytes_ok,fun _ _ _=>rfl,exts_ok⟩ _ _ _ _ _ _ _ _ _ _ _ _ _ _ _ _ _ _ _ rfl rfl h
     ·exact ho _ _ _ _ _ h
end
end Go.Kk.KkWP
