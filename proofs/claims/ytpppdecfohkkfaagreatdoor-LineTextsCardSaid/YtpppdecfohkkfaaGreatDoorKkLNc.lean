/- Printed by a tool of this project (KkGen): the program's functions come to the plain ones. -/
import Derived.Test.YtpppdecfohkkfaaGreatDoorKkLNb
namespace Go.Kk.KkLN
noncomputable section
open Go.Proofs Go.Kk.Pl
set_option maxRecDepth 100000
set_option maxHeartbeats 4000000
def qNw:Ex->List V->List Obj->Option (LI×LI×Int×LL×LL×Int×Int×Int×Int):=fun e vs objs=>match e,vs,objs with
 | .exit 0,[.s (.ptr 1 0 none 0),.s (.ptr 2 0 none 0)],[.rcells 72 [.arr .i8 81 y0,.arr .i8 16 y1,.one [.i .i8 y2],.rows [.i .u64,.i .u64] 32 y3,.rows [.i .u64,.i .u64] 2 y4],.cells 68 [.one [.i .u64 y5,.i .u64 y6]],.cells 68 [.one [.i .u64 y7,.i .u64 y8]]]=>some (y0,y1,y2,y3,y4,y5,y6,y7,y8)
 | _,_,_=>none
def qNy:HL:=fun vs objs K=>match vs,objs with
 | [.s (.ptr 0 0 none 0),.s (.i .i64 x0),.s (.i .i64 x1),.s (.ptr 1 0 none 0),.s (.i .i8 x2),.s (.ptr 2 0 none 0),.s (.sl 3 0 x3 true),.s (.i .i64 x4),.s (.i .i64 x5)],[.rcells 72 [.arr .i8 81 x6,.arr .i8 16 x7,.one [.i .i8 x8],.rows [.i .u64,.i .u64] 32 x9,.rows [.i .u64,.i .u64] 2 x10],.cells 68 [.one [.i .u64 x11,.i .u64 x12]],.cells 68 [.one [.i .u64 x13,.i .u64 x14]],.sli 3 false (.arr .i64 x15 x16)]=>ob (qDL qD x0 x1 x2 x3 x4 x5 x6 x7 x8 x9 x10 x11 x12 x13 x14 x15 x16) fun z=>K (.exit 0) ([.s (.ptr 1 0 none 0),.s (.ptr 2 0 none 0)]) ([.rcells 72 [.arr .i8 81 (z.1),.arr .i8 16 (z.2.1),.one [.i .i8 (z.2.2.1)],.rows [.i .u64,.i .u64] 32 (z.2.2.2.1),.rows [.i .u64,.i .u64] 2 (z.2.2.2.2.1)],.cells 68 [.one [.i .u64 (z.2.2.2.2.2.1),.i .u64 (z.2.2.2.2.2.2.1)]],.cells 68 [.one [.i .u64 (z.2.2.2.2.2.2.2.1),.i .u64 (z.2.2.2.2.2.2.2.2)]]])
 | _,_=>none
def qgT:{R:Type}->Nat->List V->List Obj->(Ex->List V->List Obj->Option R)->Option R:=fun q vs objs K=>bif Nat.beq q 6 then qNy vs objs K else none
def qJ5:Ctx:=mkC 53 ((qEK (qHa (qE6 (qQU (qLR (qFR (qLi (qIt (qZ5 (qGQ (qDS qL)))))))))))) [(6,[0,1,2,6,7,8,24,25,26],[6,8])] qgT
theorem qUn:CtxOK Tryz.prog qJ5:=mkC_ok ((qFA _ (qIr _ (qFw _ (qZy _ (qQQ _ (qGO _ (qQr _ (qLa _ (qmn _ (qH3 _ (qD4 _ qN))))))))))))
def qNx (f:Nat) (x0 x1 x2:Int) (x3:Nat) (x4 x5:Int) (x6 x7:LI) (x8:Int) (x9 x10:LL) (x11 x12:Int) (x13 x14:Int) (x15:Nat) (x16:LI):Option (LI×LI×Int×LL×LL×Int×Int×Int×Int):=qi qJ5 1 [0,1,2,6,7,8,24,25,26] [6,8] (qI Tryz.f134 6) f ([.s (.ptr 0 0 none 0),.s (.i .i64 x0),.s (.i .i64 x1),.s (.ptr 1 0 none 0),.s (.i .i8 x2),.s (.ptr 2 0 none 0),.s (.sl 3 0 x3 true),.s (.i .i64 x4),.s (.i .i64 x5)]) ([.rcells 72 [.arr .i8 81 x6,.arr .i8 16 x7,.one [.i .i8 x8],.rows [.i .u64,.i .u64] 32 x9,.rows [.i .u64,.i .u64] 2 x10],.cells 68 [.one [.i .u64 x11,.i .u64 x12]],.cells 68 [.one [.i .u64 x13,.i .u64 x14]],.sli 3 false (.arr .i64 x15 x16)]) qNw
theorem qgS (f:Nat) (x0 x1 x2:Int) (x3:Nat) (x4 x5:Int) (x6 x7:LI) (x8:Int) (x9 x10:LL) (x11 x12:Int) (x13 x14:Int) (x15:Nat) (x16:LI):qNx (f+1) x0 x1 x2 x3 x4 x5 x6 x7 x8 x9 x10 x11 x12 x13 x14 x15 x16=qGi (qNx f) x0 x1 x2 x3 x4 x5 x6 x7 x8 x9 x10 x11 x12 x13 x14 x15 x16:=by kernel_rfl
theorem qUp:∀ f,qNx f=qDL f
 | 0=>rfl
 | f+1=>by funext x0 x1 x2 x3 x4 x5 x6 x7 x8 x9 x10 x11 x12 x13 x14 x15 x16;rw [qgS,qUp f];rfl
theorem qgV:qe Tryz.prog qJ5 1 (qI Tryz.f134 6):=
 qj mixed qUn (qR.of (l':=[]) (by kernel_rfl) trivial) (q:=6) (kin:=[0,1,2,6,7,8,24,25,26]) (kout:=[6,8]) (by kernel_rfl) (by kernel_rfl) fun vs objs K r h=>by
  replace h:qNy vs objs K=some r:=h
  unfold qNy at h
  split at h
  ·skip
   obtain ⟨t,h1,h2⟩:=qG h
   rw [<- qUp] at h1
   refine ⟨_,qNw,t,qD,h1,fun e vs' objs' hd=>?_⟩
   unfold qNw at hd;split at hd;(cases hd;exact h2);cases hd
  ·cases h
def qUo:V->List Obj->Option (Int×Int):=fun v objs=>match v,objs with
 | .agg [.one [.i .u64 y0,.i .u64 y1]],[]=>some (y0,y1)
 | _,_=>none
theorem qgR (x0 x1:Int) (x2 x3:LI) (x4:Int) (x5 x6:LL):fnE qJ5 Tryz.f134 ([.s (.ptr 0 0 none 0),.s (.i .i64 x0),.s (.i .i64 x1)]) ([.rcells 72 [.arr .i8 81 x2,.arr .i8 16 x3,.one [.i .i8 x4],.rows [.i .u64,.i .u64] 32 x5,.rows [.i .u64,.i .u64] 2 x6]]) (qAE 1 qUo)=qIH x0 x1 x2 x3 x4 x5 x6:=by kernel_rfl
def qUm:HA:=fun o vs objs K=>match vs,List.map Obj.toRO objs with
 | [.s (.ptr 0 0 none 0),.s (.i .i64 x0),.s (.i .i64 x1)],[.rcells 72 [.arr .i8 81 x2,.arr .i8 16 x3,.one [.i .i8 x4],.rows [.i .u64,.i .u64] 32 x5,.rows [.i .u64,.i .u64] 2 x6]]=>ob (qIH x0 x1 x2 x3 x4 x5 x6) fun z=>K true (.agg [.one [.i .u64 (z.1),.i .u64 (z.2)]]) ([])
 | _,_=>o 134 vs objs K
def qUq (o:Orc):Orc:=qM 134 (qUm o) o
theorem qgU:OQ Tryz.prog qUq:=fun _ ho=>qQ ho fun vs objs K r h=>by
 unfold qUm at h
 split at h
 ·skip
  have hq:List.map Obj.toRO objs=_:=(by rename_i hq;first | exact hq | assumption)
  obtain ⟨t,h1,h2⟩:=qG h
  refine qAU mixed qUn (m:=1) (fn:=Tryz.f134) (b:=(Tryz.f134).body.getD .skip) (by kernel_rfl) (by kernel_rfl) (by kernel_rfl) hq (by kernel_rfl) (by kernel_rfl) (qR.of (l':=[qI Tryz.f134 6]) (by kernel_rfl) ⟨qgV,trivial⟩) ((qgR _ _ _ _ _ _ _).trans h1) fun v objs' hd=>?_
  unfold qUo at hd;split at hd;(cases hd;exact h2);cases hd
 ·exact ho _ _ _ _ _ h
def qNs:Ex->List V->List Obj->Option (Nat×Int×Int×LI×LI×Int×LL×LL×Int×Int×Nat×LL):=fun e vs objs=>match e,vs,objs with
 | .exit 2,[.s (.ptr 0 0 none 0),.s (.ptr 1 0 none 0),.s (.sl 2 0 y0 true),.s (.i .i64 y1),.s (.i .i64 y2)],[.rcells 72 [.arr .i8 81 y3,.arr .i8 16 y4,.one [.i .i8 y5],.rows [.i .u64,.i .u64] 32 y6,.rows [.i .u64,.i .u64] 2 y7],.cells 68 [.one [.i .u64 y8,.i .u64 y9]],.sli 37 false (.rows [.i .i64,.i .i64,.i .i64,.b] y10 y11)]=>some (y0,y1,y2,y3,y4,y5,y6,y7,y8,y9,y10,y11)
 | _,_,_=>none
def qNq:Ex->List V->List Obj->Option (Nat×LI×LI×Int×LL×LL×Nat×LL):=fun e vs objs=>match e,vs,objs with
 | .exit 0,[.s (.sl 1 0 y0 true)],[.rcells 72 [.arr .i8 81 y1,.arr .i8 16 y2,.one [.i .i8 y3],.rows [.i .u64,.i .u64] 32 y4,.rows [.i .u64,.i .u64] 2 y5],.sli 37 false (.rows [.i .i64,.i .i64,.i .i64,.b] y6 y7)]=>some (y0,y1,y2,y3,y4,y5,y6,y7)
 | _,_,_=>none
def qNv:HL:=fun vs objs K=>match vs,objs with
 | [.s (.ptr 0 0 none 0),.s (.ptr 1 0 none 0),.s (.sl 2 0 x0 true),.s (.i .i64 x1),.s (.i .i64 x2),.s (.sl 3 0 x3 true),.s (.i .i64 x4),.s (.i .i64 x5)],[.rcells 72 [.arr .i8 81 x6,.arr .i8 16 x7,.one [.i .i8 x8],.rows [.i .u64,.i .u64] 32 x9,.rows [.i .u64,.i .u64] 2 x10],.cells 68 [.one [.i .u64 x11,.i .u64 x12]],.sli 37 false (.rows [.i .i64,.i .i64,.i .i64,.b] x13 x14),.sli 3 false (.arr .i64 x15 x16)]=>ob (qEn qD x0 x1 x2 x3 x4 x5 x6 x7 x8 x9 x10 x11 x12 x13 x14 x15 x16) fun z=>K (.exit 2) ([.s (.ptr 0 0 none 0),.s (.ptr 1 0 none 0),.s (.sl 2 0 (z.1) true),.s (.i .i64 (z.2.1)),.s (.i .i64 (z.2.2.1))]) ([.rcells 72 [.arr .i8 81 (z.2.2.2.1),.arr .i8 16 (z.2.2.2.2.1),.one [.i .i8 (z.2.2.2.2.2.1)],.rows [.i .u64,.i .u64] 32 (z.2.2.2.2.2.2.1),.rows [.i .u64,.i .u64] 2 (z.2.2.2.2.2.2.2.1)],.cells 68 [.one [.i .u64 (z.2.2.2.2.2.2.2.2.1),.i .u64 (z.2.2.2.2.2.2.2.2.2.1)]],.sli 37 false (.rows [.i .i64,.i .i64,.i .i64,.b] (z.2.2.2.2.2.2.2.2.2.2.1) (z.2.2.2.2.2.2.2.2.2.2.2))])
 | _,_=>none
def qNu:HL:=fun vs objs K=>match vs,objs with
 | [.s (.ptr 0 0 none 0),.s (.ptr 1 0 none 0),.s (.sl 2 0 x0 true),.s (.i .i64 x1),.s (.i .i64 x2)],[.rcells 72 [.arr .i8 81 x3,.arr .i8 16 x4,.one [.i .i8 x5],.rows [.i .u64,.i .u64] 32 x6,.rows [.i .u64,.i .u64] 2 x7],.cells 68 [.one [.i .u64 x8,.i .u64 x9]],.sli 37 false (.rows [.i .i64,.i .i64,.i .i64,.b] x10 x11)]=>ob (qEm qD x0 x1 x2 x3 x4 x5 x6 x7 x8 x9 x10 x11) fun z=>K (.exit 0) ([.s (.sl 1 0 (z.1) true)]) ([.rcells 72 [.arr .i8 81 (z.2.1),.arr .i8 16 (z.2.2.1),.one [.i .i8 (z.2.2.2.1)],.rows [.i .u64,.i .u64] 32 (z.2.2.2.2.1),.rows [.i .u64,.i .u64] 2 (z.2.2.2.2.2.1)],.sli 37 false (.rows [.i .i64,.i .i64,.i .i64,.b] (z.2.2.2.2.2.2.1) (z.2.2.2.2.2.2.2))])
 | _,_=>none
def qgN:{R:Type}->Nat->List V->List Obj->(Ex->List V->List Obj->Option R)->Option R:=fun q vs objs K=>bif Nat.beq q 8 then qNv vs objs K else bif Nat.beq q 4 then qNu vs objs K else none
def qGf:Ctx:=mkC 45 ((qIt (qE6 (qUq (qJS qL))))) [(4,[0,3,5,6,7],[5]),(8,[0,3,5,6,7,31,32,33],[0,3,5,6,7])] qgN
theorem qNp:CtxOK Tryz.prog qGf:=mkC_ok ((qLa _ (qFw _ (qgU _ (qMp _ qN)))))
def qNt (f:Nat) (x0:Nat) (x1 x2:Int) (x3:Nat) (x4 x5:Int) (x6 x7:LI) (x8:Int) (x9 x10:LL) (x11 x12:Int) (x13:Nat) (x14:LL) (x15:Nat) (x16:LI):Option (Nat×Int×Int×LI×LI×Int×LL×LL×Int×Int×Nat×LL):=qi qGf 1 [0,3,5,6,7,31,32,33] [0,3,5,6,7] (qI Tryz.f99 8) f ([.s (.ptr 0 0 none 0),.s (.ptr 1 0 none 0),.s (.sl 2 0 x0 true),.s (.i .i64 x1),.s (.i .i64 x2),.s (.sl 3 0 x3 true),.s (.i .i64 x4),.s (.i .i64 x5)]) ([.rcells 72 [.arr .i8 81 x6,.arr .i8 16 x7,.one [.i .i8 x8],.rows [.i .u64,.i .u64] 32 x9,.rows [.i .u64,.i .u64] 2 x10],.cells 68 [.one [.i .u64 x11,.i .u64 x12]],.sli 37 false (.rows [.i .i64,.i .i64,.i .i64,.b] x13 x14),.sli 3 false (.arr .i64 x15 x16)]) qNs
theorem qgM (f:Nat) (x0:Nat) (x1 x2:Int) (x3:Nat) (x4 x5:Int) (x6 x7:LI) (x8:Int) (x9 x10:LL) (x11 x12:Int) (x13:Nat) (x14:LL) (x15:Nat) (x16:LI):qNt (f+1) x0 x1 x2 x3 x4 x5 x6 x7 x8 x9 x10 x11 x12 x13 x14 x15 x16=qGh (qNt f) x0 x1 x2 x3 x4 x5 x6 x7 x8 x9 x10 x11 x12 x13 x14 x15 x16:=by kernel_rfl
theorem qUk:∀ f,qNt f=qEn f
 | 0=>rfl
 | f+1=>by funext x0 x1 x2 x3 x4 x5 x6 x7 x8 x9 x10 x11 x12 x13 x14 x15 x16;rw [qgM,qUk f];rfl
def qNr (f:Nat) (x0:Nat) (x1 x2:Int) (x3 x4:LI) (x5:Int) (x6 x7:LL) (x8 x9:Int) (x10:Nat) (x11:LL):Option (Nat×LI×LI×Int×LL×LL×Nat×LL):=qi qGf 1 [0,3,5,6,7] [5] (qI Tryz.f99 4) f ([.s (.ptr 0 0 none 0),.s (.ptr 1 0 none 0),.s (.sl 2 0 x0 true),.s (.i .i64 x1),.s (.i .i64 x2)]) ([.rcells 72 [.arr .i8 81 x3,.arr .i8 16 x4,.one [.i .i8 x5],.rows [.i .u64,.i .u64] 32 x6,.rows [.i .u64,.i .u64] 2 x7],.cells 68 [.one [.i .u64 x8,.i .u64 x9]],.sli 37 false (.rows [.i .i64,.i .i64,.i .i64,.b] x10 x11)]) qNq
theorem qgL (f:Nat) (x0:Nat) (x1 x2:Int) (x3 x4:LI) (x5:Int) (x6 x7:LL) (x8 x9:Int) (x10:Nat) (x11:LL):qNr (f+1) x0 x1 x2 x3 x4 x5 x6 x7 x8 x9 x10 x11=qGg (qNr f) x0 x1 x2 x3 x4 x5 x6 x7 x8 x9 x10 x11:=by kernel_rfl
theorem qUj:∀ f,qNr f=qEm f
 | 0=>rfl
 | f+1=>by funext x0 x1 x2 x3 x4 x5 x6 x7 x8 x9 x10 x11;rw [qgL,qUj f];rfl
theorem qgQ:qe Tryz.prog qGf 1 (qI Tryz.f99 8):=
 qj mixed qNp (qR.of (l':=[]) (by kernel_rfl) trivial) (q:=8) (kin:=[0,3,5,6,7,31,32,33]) (kout:=[0,3,5,6,7]) (by kernel_rfl) (by kernel_rfl) fun vs objs K r h=>by
  replace h:qNv vs objs K=some r:=h
  unfold qNv at h
  split at h
  ·skip
   obtain ⟨t,h1,h2⟩:=qG h
   rw [<- qUk] at h1
   refine ⟨_,qNs,t,qD,h1,fun e vs' objs' hd=>?_⟩
   unfold qNs at hd;split at hd;(cases hd;exact h2);cases hd
  ·cases h
theorem qgP:qe Tryz.prog qGf 1 (qI Tryz.f99 4):=
 qj mixed qNp (qR.of (l':=[qI Tryz.f99 8]) (by kernel_rfl) ⟨qgQ,trivial⟩) (q:=4) (kin:=[0,3,5,6,7]) (kout:=[5]) (by kernel_rfl) (by kernel_rfl) fun vs objs K r h=>by
  replace h:qNu vs objs K=some r:=h
  unfold qNu at h
  split at h
  ·skip
   obtain ⟨t,h1,h2⟩:=qG h
   rw [<- qUj] at h1
   refine ⟨_,qNq,t,qD,h1,fun e vs' objs' hd=>?_⟩
   unfold qNq at hd;split at hd;(cases hd;exact h2);cases hd
  ·cases h
def qUi:V->List Obj->Option (Nat×Nat×LL):=fun v objs=>match v,objs with
 | .s (.sl 1 0 y0 true),[.sli 37 false (.rows [.i .i64,.i .i64,.i .i64,.b] y1 y2)]=>some (y0,y1,y2)
 | _,_=>none
theorem qgK (x0 x1:Int) (x2 x3:LI) (x4:Int) (x5 x6:LL):fnE qGf Tryz.f99 ([.s (.ptr 0 0 none 0),.agg [.one [.i .u64 x0,.i .u64 x1]]]) ([.rcells 72 [.arr .i8 81 x2,.arr .i8 16 x3,.one [.i .i8 x4],.rows [.i .u64,.i .u64] 32 x5,.rows [.i .u64,.i .u64] 2 x6]]) (qAE 1 qUi)=qIG x0 x1 x2 x3 x4 x5 x6:=by kernel_rfl
def qUh:HA:=fun o vs objs K=>match vs,List.map Obj.toRO objs with
 | [.s (.ptr 0 0 none 0),.agg [.one [.i .u64 x0,.i .u64 x1]]],[.rcells 72 [.arr .i8 81 x2,.arr .i8 16 x3,.one [.i .i8 x4],.rows [.i .u64,.i .u64] 32 x5,.rows [.i .u64,.i .u64] 2 x6]]=>ob (qIG x0 x1 x2 x3 x4 x5 x6) fun z=>K true (.s (.sl 1 0 (z.1) true)) ([.sli 37 false (.rows [.i .i64,.i .i64,.i .i64,.b] (z.2.1) (z.2.2))])
 | _,_=>o 99 vs objs K
def qUl (o:Orc):Orc:=qM 99 (qUh o) o
theorem qgO:OQ Tryz.prog qUl:=fun _ ho=>qQ ho fun vs objs K r h=>by
 unfold qUh at h
 split at h
 ·skip
  have hq:List.map Obj.toRO objs=_:=(by rename_i hq;first | exact hq | assumption)
  obtain ⟨t,h1,h2⟩:=qG h
  refine qAU mixed qNp (m:=1) (fn:=Tryz.f99) (b:=(Tryz.f99).body.getD .skip) (by kernel_rfl) (by kernel_rfl) (by kernel_rfl) hq (by kernel_rfl) (by kernel_rfl) (qR.of (l':=[qI Tryz.f99 4]) (by kernel_rfl) ⟨qgP,trivial⟩) ((qgK _ _ _ _ _ _ _).trans h1) fun v objs' hd=>?_
  unfold qUi at hd;split at hd;(cases hd;exact h2);cases hd
 ·exact ho _ _ _ _ _ h
def qSW:Ctx:=mkC 7 (qL) [] qa
theorem qdr:CtxOK Tryz.prog qSW:=mkC_ok (qN)
def qSX:V->List Obj->Option (LI×LI×Int×LL×LL):=fun v objs=>match v,objs with
 | .s (.ptr 1 0 none 0),[.cells 72 [.arr .i8 81 y0,.arr .i8 16 y1,.one [.i .i8 y2],.rows [.i .u64,.i .u64] 32 y3,.rows [.i .u64,.i .u64] 2 y4]]=>some (y0,y1,y2,y3,y4)
 | _,_=>none
theorem qdq (x0 x1:LI) (x2:Int) (x3 x4:LL):fnE qSW Tryz.f135 ([.s (.ptr 0 0 none 0)]) ([.rcells 72 [.arr .i8 81 x0,.arr .i8 16 x1,.one [.i .i8 x2],.rows [.i .u64,.i .u64] 32 x3,.rows [.i .u64,.i .u64] 2 x4]]) (qAE 1 qSX)=qJR x0 x1 x2 x3 x4:=by kernel_rfl
def qSV:HA:=fun o vs objs K=>match vs,List.map Obj.toRO objs with
 | [.s (.ptr 0 0 none 0)],[.rcells 72 [.arr .i8 81 x0,.arr .i8 16 x1,.one [.i .i8 x2],.rows [.i .u64,.i .u64] 32 x3,.rows [.i .u64,.i .u64] 2 x4]]=>ob (qJR x0 x1 x2 x3 x4) fun z=>K true (.s (.ptr 1 0 none 0)) ([.cells 72 [.arr .i8 81 (z.1),.arr .i8 16 (z.2.1),.one [.i .i8 (z.2.2.1)],.rows [.i .u64,.i .u64] 32 (z.2.2.2.1),.rows [.i .u64,.i .u64] 2 (z.2.2.2.2)]])
 | _,_=>o 135 vs objs K
def qSY (o:Orc):Orc:=qM 135 (qSV o) o
theorem qds:OQ Tryz.prog qSY:=fun _ ho=>qQ ho fun vs objs K r h=>by
 unfold qSV at h
 split at h
 ·skip
  have hq:List.map Obj.toRO objs=_:=(by rename_i hq;first | exact hq | assumption)
  obtain ⟨t,h1,h2⟩:=qG h
  refine qAU mixed qdr (m:=1) (fn:=Tryz.f135) (b:=(Tryz.f135).body.getD .skip) (by kernel_rfl) (by kernel_rfl) (by kernel_rfl) hq (by kernel_rfl) (by kernel_rfl) (qR.of (l':=[]) (by kernel_rfl) trivial) ((qdq _ _ _ _ _).trans h1) fun v objs' hd=>?_
  unfold qSX at hd;split at hd;(cases hd;exact h2);cases hd
 ·exact ho _ _ _ _ _ h
def qOh:Ex->List V->List Obj->Option ((Bool×LI×LI×Int×LL×LL)⊕(LI×LI×Int×LL×LL)):=fun e vs objs=>match e,vs,objs with
 | .ret,[.s (.b y0)],[.rcells 72 [.arr .i8 81 y1,.arr .i8 16 y2,.one [.i .i8 y3],.rows [.i .u64,.i .u64] 32 y4,.rows [.i .u64,.i .u64] 2 y5]]=>some (.inl (y0,y1,y2,y3,y4,y5))
 | .exit 0,[.s .bad],[.rcells 72 [.arr .i8 81 y0,.arr .i8 16 y1,.one [.i .i8 y2],.rows [.i .u64,.i .u64] 32 y3,.rows [.i .u64,.i .u64] 2 y4]]=>some (.inr (y0,y1,y2,y3,y4))
 | _,_,_=>none
def qOj:HL:=fun vs objs K=>match vs,objs with
 | [.s (.ptr 1 0 none 0),.s (.sl 2 0 x0 true),.s (.i .i64 x1),.s (.i .i64 x2)],[.rcells 72 [.arr .i8 81 x3,.arr .i8 16 x4,.one [.i .i8 x5],.rows [.i .u64,.i .u64] 32 x6,.rows [.i .u64,.i .u64] 2 x7],.cells 130 [.one [.ptr 3 0 none 0,.i .i64 x8,.i .i64 x9,.i .u64 x10,.i .u64 x11,.mp 4,.b x12]],.sli 37 false (.rows [.i .i64,.i .i64,.i .i64,.b] x13 x14),.cells 72 [.arr .i8 81 x15,.arr .i8 16 x16,.one [.i .i8 x17],.rows [.i .u64,.i .u64] 32 x18,.rows [.i .u64,.i .u64] 2 x19],.map false true [.i .i64] [.i .u64,.i .u64] x20]=>ob (qEw qD x0 x1 x2 x3 x4 x5 x6 x7 x8 x9 x10 x11 x12 x13 x14 x15 x16 x17 x18 x19 x20) fun t0=>sw t0 (fun z=>K (.ret) ([.s (.b (z.1))]) ([.rcells 72 [.arr .i8 81 (z.2.1),.arr .i8 16 (z.2.2.1),.one [.i .i8 (z.2.2.2.1)],.rows [.i .u64,.i .u64] 32 (z.2.2.2.2.1),.rows [.i .u64,.i .u64] 2 (z.2.2.2.2.2)]])) (fun z=>K (.exit 0) ([.s .bad]) ([.rcells 72 [.arr .i8 81 (z.1),.arr .i8 16 (z.2.1),.one [.i .i8 (z.2.2.1)],.rows [.i .u64,.i .u64] 32 (z.2.2.2.1),.rows [.i .u64,.i .u64] 2 (z.2.2.2.2)]]))
 | _,_=>none
def qhw:{R:Type}->Nat->List V->List Obj->(Ex->List V->List Obj->Option R)->Option R:=fun q vs objs K=>bif Nat.beq q 11 then qOj vs objs K else none
def qKO:Ctx:=mkC 74 ((qOl (qNm (qIq (qOk (qF0 (qJK (qJX (qSY (qFP (qDS qL))))))))))) [(11,[7,64,65,66],[4])] qhw
theorem qVy:CtxOK Tryz.prog qKO:=mkC_ok ((qV9 _ (qUg _ (qLP _ (qV5 _ (qHb _ (qMH _ (qMw _ (qds _ (qGN _ (qD4 _ qN)))))))))))
def qOi (f:Nat) (x0:Nat) (x1 x2:Int) (x3 x4:LI) (x5:Int) (x6 x7:LL) (x8 x9:Int) (x10 x11:Int) (x12:Bool) (x13:Nat) (x14:LL) (x15 x16:LI) (x17:Int) (x18 x19:LL) (x20:List (LI×LI)):Option ((Bool×LI×LI×Int×LL×LL)⊕(LI×LI×Int×LL×LL)):=qi qKO 1 [7,64,65,66] [4] (qI Tryz.f100 11) f ([.s (.ptr 1 0 none 0),.s (.sl 2 0 x0 true),.s (.i .i64 x1),.s (.i .i64 x2)]) ([.rcells 72 [.arr .i8 81 x3,.arr .i8 16 x4,.one [.i .i8 x5],.rows [.i .u64,.i .u64] 32 x6,.rows [.i .u64,.i .u64] 2 x7],.cells 130 [.one [.ptr 3 0 none 0,.i .i64 x8,.i .i64 x9,.i .u64 x10,.i .u64 x11,.mp 4,.b x12]],.sli 37 false (.rows [.i .i64,.i .i64,.i .i64,.b] x13 x14),.cells 72 [.arr .i8 81 x15,.arr .i8 16 x16,.one [.i .i8 x17],.rows [.i .u64,.i .u64] 32 x18,.rows [.i .u64,.i .u64] 2 x19],.map false true [.i .i64] [.i .u64,.i .u64] x20]) qOh
theorem qhv (f:Nat) (x0:Nat) (x1 x2:Int) (x3 x4:LI) (x5:Int) (x6 x7:LL) (x8 x9:Int) (x10 x11:Int) (x12:Bool) (x13:Nat) (x14:LL) (x15 x16:LI) (x17:Int) (x18 x19:LL) (x20:List (LI×LI)):qOi (f+1) x0 x1 x2 x3 x4 x5 x6 x7 x8 x9 x10 x11 x12 x13 x14 x15 x16 x17 x18 x19 x20=qG4 (qOi f) x0 x1 x2 x3 x4 x5 x6 x7 x8 x9 x10 x11 x12 x13 x14 x15 x16 x17 x18 x19 x20:=by kernel_rfl
theorem qV0:∀ f,qOi f=qEw f
 | 0=>rfl
 | f+1=>by funext x0 x1 x2 x3 x4 x5 x6 x7 x8 x9 x10 x11 x12 x13 x14 x15 x16 x17 x18 x19 x20;rw [qhv,qV0 f];rfl
theorem qhy:qe Tryz.prog qKO 1 (qI Tryz.f100 11):=
 qj mixed qVy (qR.of (l':=[]) (by kernel_rfl) trivial) (q:=11) (kin:=[7,64,65,66]) (kout:=[4]) (by kernel_rfl) (by kernel_rfl) fun vs objs K r h=>by
  replace h:qOj vs objs K=some r:=h
  unfold qOj at h
  split at h
  ·skip
   obtain ⟨t,h1,h2⟩:=qG h
   rw [<- qV0] at h1
   refine ⟨_,qOh,t,qD,h1,fun e vs' objs' hd=>?_⟩
   unfold qOh at hd
   split at hd
   ·skip
    cases hd
    exact h2
   ·skip
    cases hd
    exact h2
   ·cases hd
  ·cases h
def qVz:V->List Obj->Option (Bool):=fun v objs=>match v,objs with
 | .s (.b y0),[]=>some (y0)
 | _,_=>none
theorem qhu (x0:Int) (x1 x2:LI) (x3:Int) (x4 x5:LL):fnE qKO Tryz.f100 ([.s (.ptr 0 0 none 0),.s (.i .i64 x0)]) ([.rcells 72 [.arr .i8 81 x1,.arr .i8 16 x2,.one [.i .i8 x3],.rows [.i .u64,.i .u64] 32 x4,.rows [.i .u64,.i .u64] 2 x5]]) (qAE 1 qVz)=qIQ x0 x1 x2 x3 x4 x5:=by kernel_rfl
def qVx:HA:=fun o vs objs K=>match vs,List.map Obj.toRO objs with
 | [.s (.ptr 0 0 none 0),.s (.i .i64 x0)],[.rcells 72 [.arr .i8 81 x1,.arr .i8 16 x2,.one [.i .i8 x3],.rows [.i .u64,.i .u64] 32 x4,.rows [.i .u64,.i .u64] 2 x5]]=>ob (qIQ x0 x1 x2 x3 x4 x5) fun y0=>K true (.s (.b y0)) ([])
 | _,_=>o 100 vs objs K
def qV1 (o:Orc):Orc:=qM 100 (qVx o) o
theorem qhx:OQ Tryz.prog qV1:=fun _ ho=>qQ ho fun vs objs K r h=>by
 unfold qVx at h
 split at h
 ·skip
  have hq:List.map Obj.toRO objs=_:=(by rename_i hq;first | exact hq | assumption)
  obtain ⟨t,h1,h2⟩:=qG h
  refine qAU mixed qVy (m:=1) (fn:=Tryz.f100) (b:=(Tryz.f100).body.getD .skip) (by kernel_rfl) (by kernel_rfl) (by kernel_rfl) hq (by kernel_rfl) (by kernel_rfl) (qR.of (l':=[qI Tryz.f100 11]) (by kernel_rfl) ⟨qhy,trivial⟩) ((qhu _ _ _ _ _ _).trans h1) fun v objs' hd=>?_
  unfold qVz at hd;split at hd;(cases hd;exact h2);cases hd
 ·exact ho _ _ _ _ _ h
def qOa:Ex->List V->List Obj->Option (Nat×LI×LI×Int×LL×LL×Int×Int×Int×Int×Bool×Nat×LL×List (LI×LI)):=fun e vs objs=>match e,vs,objs with
 | .exit 0,[.s (.ptr 0 0 none 0),.s (.ptr 1 0 none 0),.s (.sl 2 0 y0 true)],[.cells 72 [.arr .i8 81 y1,.arr .i8 16 y2,.one [.i .i8 y3],.rows [.i .u64,.i .u64] 32 y4,.rows [.i .u64,.i .u64] 2 y5],.cells 130 [.one [.ptr 0 0 none 0,.i .i64 y6,.i .i64 y7,.i .u64 y8,.i .u64 y9,.mp 3,.b y10]],.sli 37 false (.rows [.i .i64,.i .i64,.i .i64,.b] y11 y12),.map false true [.i .i64] [.i .u64,.i .u64] y13]=>some (y0,y1,y2,y3,y4,y5,y6,y7,y8,y9,y10,y11,y12,y13)
 | _,_,_=>none
def qOY:Ex->List V->List Obj->Option (Nat×LI×LI×Int×LL×LL×Nat×LL):=fun e vs objs=>match e,vs,objs with
 | .exit 2,[.s (.sl 1 0 y0 true)],[.cells 72 [.arr .i8 81 y1,.arr .i8 16 y2,.one [.i .i8 y3],.rows [.i .u64,.i .u64] 32 y4,.rows [.i .u64,.i .u64] 2 y5],.sli 37 false (.rows [.i .i64,.i .i64,.i .i64,.b] y6 y7)]=>some (y0,y1,y2,y3,y4,y5,y6,y7)
 | _,_,_=>none
def qOd:HL:=fun vs objs K=>match vs,objs with
 | [.s (.ptr 0 0 none 0),.s (.ptr 1 0 none 0),.s (.sl 2 0 x0 true),.s (.sl 3 0 x1 true),.s (.i .i64 x2),.s (.i .i64 x3)],[.cells 72 [.arr .i8 81 x4,.arr .i8 16 x5,.one [.i .i8 x6],.rows [.i .u64,.i .u64] 32 x7,.rows [.i .u64,.i .u64] 2 x8],.cells 130 [.one [.ptr 0 0 none 0,.i .i64 x9,.i .i64 x10,.i .u64 x11,.i .u64 x12,.mp 4,.b x13]],.sli 37 false (.rows [.i .i64,.i .i64,.i .i64,.b] x14 x15),.sli 37 false (.rows [.i .i64,.i .i64,.i .i64,.b] x16 x17),.map false true [.i .i64] [.i .u64,.i .u64] x18]=>ob (qEu qD x0 x1 x2 x3 x4 x5 x6 x7 x8 x9 x10 x11 x12 x13 x14 x15 x16 x17 x18) fun z=>K (.exit 0) ([.s (.ptr 0 0 none 0),.s (.ptr 1 0 none 0),.s (.sl 2 0 (z.1) true)]) ([.cells 72 [.arr .i8 81 (z.2.1),.arr .i8 16 (z.2.2.1),.one [.i .i8 (z.2.2.2.1)],.rows [.i .u64,.i .u64] 32 (z.2.2.2.2.1),.rows [.i .u64,.i .u64] 2 (z.2.2.2.2.2.1)],.cells 130 [.one [.ptr 0 0 none 0,.i .i64 (z.2.2.2.2.2.2.1),.i .i64 (z.2.2.2.2.2.2.2.1),.i .u64 (z.2.2.2.2.2.2.2.2.1),.i .u64 (z.2.2.2.2.2.2.2.2.2.1),.mp 3,.b (z.2.2.2.2.2.2.2.2.2.2.1)]],.sli 37 false (.rows [.i .i64,.i .i64,.i .i64,.b] (z.2.2.2.2.2.2.2.2.2.2.2.1) (z.2.2.2.2.2.2.2.2.2.2.2.2.1)),.map false true [.i .i64] [.i .u64,.i .u64] (z.2.2.2.2.2.2.2.2.2.2.2.2.2)])
 | _,_=>none
def qOc:HL:=fun vs objs K=>match vs,objs with
 | [.s (.ptr 0 0 none 0),.s (.sl 1 0 x0 true),.s (.sl 2 0 x1 true),.s (.i .i64 x2),.s (.i .i64 x3)],[.cells 72 [.arr .i8 81 x4,.arr .i8 16 x5,.one [.i .i8 x6],.rows [.i .u64,.i .u64] 32 x7,.rows [.i .u64,.i .u64] 2 x8],.sli 37 false (.rows [.i .i64,.i .i64,.i .i64,.b] x9 x10),.sli 37 false (.rows [.i .i64,.i .i64,.i .i64,.b] x11 x12)]=>ob (qDw qD x0 x1 x2 x3 x4 x5 x6 x7 x8 x9 x10 x11 x12) fun z=>K (.exit 2) ([.s (.sl 1 0 (z.1) true)]) ([.cells 72 [.arr .i8 81 (z.2.1),.arr .i8 16 (z.2.2.1),.one [.i .i8 (z.2.2.2.1)],.rows [.i .u64,.i .u64] 32 (z.2.2.2.2.1),.rows [.i .u64,.i .u64] 2 (z.2.2.2.2.2.1)],.sli 37 false (.rows [.i .i64,.i .i64,.i .i64,.b] (z.2.2.2.2.2.2.1) (z.2.2.2.2.2.2.2))])
 | _,_=>none
def qhl:{R:Type}->Nat->List V->List Obj->(Ex->List V->List Obj->Option R)->Option R:=fun q vs objs K=>bif Nat.beq q 4 then qOd vs objs K else bif Nat.beq q 10 then qOc vs objs K else none
def qGz:Ctx:=mkC 51 ((qV1 (qUl (qOl (qNm (qIq (qOk qL))))))) [(4,[0,3,4,13,14,15],[0,3,4]),(10,[0,4,30,31,32],[4])] qhl
theorem qOX:CtxOK Tryz.prog qGz:=mkC_ok ((qhx _ (qgO _ (qV9 _ (qUg _ (qLP _ (qV5 _ qN)))))))
def qOb (f:Nat) (x0 x1:Nat) (x2 x3:Int) (x4 x5:LI) (x6:Int) (x7 x8:LL) (x9 x10:Int) (x11 x12:Int) (x13:Bool) (x14:Nat) (x15:LL) (x16:Nat) (x17:LL) (x18:List (LI×LI)):Option (Nat×LI×LI×Int×LL×LL×Int×Int×Int×Int×Bool×Nat×LL×List (LI×LI)):=qi qGz 1 [0,3,4,13,14,15] [0,3,4] (qI Tryz.f54 4) f ([.s (.ptr 0 0 none 0),.s (.ptr 1 0 none 0),.s (.sl 2 0 x0 true),.s (.sl 3 0 x1 true),.s (.i .i64 x2),.s (.i .i64 x3)]) ([.cells 72 [.arr .i8 81 x4,.arr .i8 16 x5,.one [.i .i8 x6],.rows [.i .u64,.i .u64] 32 x7,.rows [.i .u64,.i .u64] 2 x8],.cells 130 [.one [.ptr 0 0 none 0,.i .i64 x9,.i .i64 x10,.i .u64 x11,.i .u64 x12,.mp 4,.b x13]],.sli 37 false (.rows [.i .i64,.i .i64,.i .i64,.b] x14 x15),.sli 37 false (.rows [.i .i64,.i .i64,.i .i64,.b] x16 x17),.map false true [.i .i64] [.i .u64,.i .u64] x18]) qOa
theorem qhk (f:Nat) (x0 x1:Nat) (x2 x3:Int) (x4 x5:LI) (x6:Int) (x7 x8:LL) (x9 x10:Int) (x11 x12:Int) (x13:Bool) (x14:Nat) (x15:LL) (x16:Nat) (x17:LL) (x18:List (LI×LI)):qOb (f+1) x0 x1 x2 x3 x4 x5 x6 x7 x8 x9 x10 x11 x12 x13 x14 x15 x16 x17 x18=qG1 (qOb f) x0 x1 x2 x3 x4 x5 x6 x7 x8 x9 x10 x11 x12 x13 x14 x15 x16 x17 x18:=by kernel_rfl
theorem qVq:∀ f,qOb f=qEu f
 | 0=>rfl
 | f+1=>by funext x0 x1 x2 x3 x4 x5 x6 x7 x8 x9 x10 x11 x12 x13 x14 x15 x16 x17 x18;rw [qhk,qVq f];rfl
def qOZ (f:Nat) (x0 x1:Nat) (x2 x3:Int) (x4 x5:LI) (x6:Int) (x7 x8:LL) (x9:Nat) (x10:LL) (x11:Nat) (x12:LL):Option (Nat×LI×LI×Int×LL×LL×Nat×LL):=qi qGz 1 [0,4,30,31,32] [4] (qI Tryz.f54 10) f ([.s (.ptr 0 0 none 0),.s (.sl 1 0 x0 true),.s (.sl 2 0 x1 true),.s (.i .i64 x2),.s (.i .i64 x3)]) ([.cells 72 [.arr .i8 81 x4,.arr .i8 16 x5,.one [.i .i8 x6],.rows [.i .u64,.i .u64] 32 x7,.rows [.i .u64,.i .u64] 2 x8],.sli 37 false (.rows [.i .i64,.i .i64,.i .i64,.b] x9 x10),.sli 37 false (.rows [.i .i64,.i .i64,.i .i64,.b] x11 x12)]) qOY
theorem qhj (f:Nat) (x0 x1:Nat) (x2 x3:Int) (x4 x5:LI) (x6:Int) (x7 x8:LL) (x9:Nat) (x10:LL) (x11:Nat) (x12:LL):qOZ (f+1) x0 x1 x2 x3 x4 x5 x6 x7 x8 x9 x10 x11 x12=qG0 (qOZ f) x0 x1 x2 x3 x4 x5 x6 x7 x8 x9 x10 x11 x12:=by kernel_rfl
theorem qVp:∀ f,qOZ f=qDw f
 | 0=>rfl
 | f+1=>by funext x0 x1 x2 x3 x4 x5 x6 x7 x8 x9 x10 x11 x12;rw [qhj,qVp f];rfl
theorem qho:qe Tryz.prog qGz 1 (qI Tryz.f54 4):=
 qj mixed qOX (qR.of (l':=[]) (by kernel_rfl) trivial) (q:=4) (kin:=[0,3,4,13,14,15]) (kout:=[0,3,4]) (by kernel_rfl) (by kernel_rfl) fun vs objs K r h=>by
  replace h:qOd vs objs K=some r:=h
  unfold qOd at h
  split at h
  ·skip
   obtain ⟨t,h1,h2⟩:=qG h
   rw [<- qVq] at h1
   refine ⟨_,qOa,t,qD,h1,fun e vs' objs' hd=>?_⟩
   unfold qOa at hd;split at hd;(cases hd;exact h2);cases hd
  ·cases h
theorem qhn:qe Tryz.prog qGz 1 (qI Tryz.f54 10):=
 qj mixed qOX (qR.of (l':=[]) (by kernel_rfl) trivial) (q:=10) (kin:=[0,4,30,31,32]) (kout:=[4]) (by kernel_rfl) (by kernel_rfl) fun vs objs K r h=>by
  replace h:qOc vs objs K=some r:=h
  unfold qOc at h
  split at h
  ·skip
   obtain ⟨t,h1,h2⟩:=qG h
   rw [<- qVp] at h1
   refine ⟨_,qOY,t,qD,h1,fun e vs' objs' hd=>?_⟩
   unfold qOY at hd;split at hd;(cases hd;exact h2);cases hd
  ·cases h
def qVo:V->List Obj->Option (Nat×LI×LI×Int×LL×LL×Nat×LL):=fun v objs=>match v,objs with
 | .s (.sl 1 0 y0 true),[.cells 72 [.arr .i8 81 y1,.arr .i8 16 y2,.one [.i .i8 y3],.rows [.i .u64,.i .u64] 32 y4,.rows [.i .u64,.i .u64] 2 y5],.sli 37 false (.rows [.i .i64,.i .i64,.i .i64,.b] y6 y7)]=>some (y0,y1,y2,y3,y4,y5,y6,y7)
 | _,_=>none
theorem qhi (x0 x1:LI) (x2:Int) (x3 x4:LL):fnE qGz Tryz.f54 ([.s (.ptr 0 0 none 0)]) ([.cells 72 [.arr .i8 81 x0,.arr .i8 16 x1,.one [.i .i8 x2],.rows [.i .u64,.i .u64] 32 x3,.rows [.i .u64,.i .u64] 2 x4]]) qVo=qGy x0 x1 x2 x3 x4:=by kernel_rfl
def qVn:HA:=fun o vs objs K=>match vs,objs with
 | [.s (.ptr 0 0 none 0)],[.cells 72 [.arr .i8 81 x0,.arr .i8 16 x1,.one [.i .i8 x2],.rows [.i .u64,.i .u64] 32 x3,.rows [.i .u64,.i .u64] 2 x4]]=>ob (qGy x0 x1 x2 x3 x4) fun z=>K false (.s (.sl 1 0 (z.1) true)) ([.cells 72 [.arr .i8 81 (z.2.1),.arr .i8 16 (z.2.2.1),.one [.i .i8 (z.2.2.2.1)],.rows [.i .u64,.i .u64] 32 (z.2.2.2.2.1),.rows [.i .u64,.i .u64] 2 (z.2.2.2.2.2.1)],.sli 37 false (.rows [.i .i64,.i .i64,.i .i64,.b] (z.2.2.2.2.2.2.1) (z.2.2.2.2.2.2.2))])
 | _,_=>o 54 vs objs K
def qVr (o:Orc):Orc:=qM 54 (qVn o) o
theorem qhm:OQ Tryz.prog qVr:=fun _ ho=>qQ ho fun vs objs K r h=>by
 unfold qVn at h
 split at h
 ·skip
  obtain ⟨t,h1,h2⟩:=qG h
  refine qAc mixed qOX (fn:=Tryz.f54) (b:=(Tryz.f54).body.getD .skip) (by kernel_rfl) (by kernel_rfl) (by kernel_rfl) ((qhi _ _ _ _ _).trans h1) (m:=1) rfl (qR.of (l':=[qI Tryz.f54 4,qI Tryz.f54 10]) (by kernel_rfl) ⟨qho,qhn,trivial⟩) fun v objs' hd=>?_
  unfold qVo at hd;split at hd;(cases hd;exact h2);cases hd
 ·exact ho _ _ _ _ _ h
def qOe:Ex->List V->List Obj->Option ((Bool×LI×LI×Int×LL×LL)⊕(LI×LI×Int×LL×LL)):=fun e vs objs=>match e,vs,objs with
 | .ret,[.s (.b y0)],[.cells 72 [.arr .i8 81 y1,.arr .i8 16 y2,.one [.i .i8 y3],.rows [.i .u64,.i .u64] 32 y4,.rows [.i .u64,.i .u64] 2 y5]]=>some (.inl (y0,y1,y2,y3,y4,y5))
 | .exit 0,[.s .bad],[.cells 72 [.arr .i8 81 y0,.arr .i8 16 y1,.one [.i .i8 y2],.rows [.i .u64,.i .u64] 32 y3,.rows [.i .u64,.i .u64] 2 y4]]=>some (.inr (y0,y1,y2,y3,y4))
 | _,_,_=>none
def qOg:HL:=fun vs objs K=>match vs,objs with
 | [.s (.ptr 1 0 none 0),.s (.sl 2 0 x0 true),.s (.i .i64 x1),.s (.i .i64 x2)],[.cells 72 [.arr .i8 81 x3,.arr .i8 16 x4,.one [.i .i8 x5],.rows [.i .u64,.i .u64] 32 x6,.rows [.i .u64,.i .u64] 2 x7],.cells 37 [.one [.i .i64 x8,.i .i64 x9,.i .i64 x10,.b x11]],.sli 37 false (.rows [.i .i64,.i .i64,.i .i64,.b] x12 x13)]=>ob (qEv qD x0 x1 x2 x3 x4 x5 x6 x7 x8 x9 x10 x11 x12 x13) fun t0=>sw t0 (fun z=>K (.ret) ([.s (.b (z.1))]) ([.cells 72 [.arr .i8 81 (z.2.1),.arr .i8 16 (z.2.2.1),.one [.i .i8 (z.2.2.2.1)],.rows [.i .u64,.i .u64] 32 (z.2.2.2.2.1),.rows [.i .u64,.i .u64] 2 (z.2.2.2.2.2)]])) (fun z=>K (.exit 0) ([.s .bad]) ([.cells 72 [.arr .i8 81 (z.1),.arr .i8 16 (z.2.1),.one [.i .i8 (z.2.2.1)],.rows [.i .u64,.i .u64] 32 (z.2.2.2.1),.rows [.i .u64,.i .u64] 2 (z.2.2.2.2)]]))
 | _,_=>none
def qhr:{R:Type}->Nat->List V->List Obj->(Ex->List V->List Obj->Option R)->Option R:=fun q vs objs K=>bif Nat.beq q 2 then qOg vs objs K else none
def qKN:Ctx:=mkC 18 ((qVr qL)) [(2,[3,8,9,10],[4])] qhr
theorem qVt:CtxOK Tryz.prog qKN:=mkC_ok ((qhm _ qN))
def qOf (f:Nat) (x0:Nat) (x1 x2:Int) (x3 x4:LI) (x5:Int) (x6 x7:LL) (x8 x9 x10:Int) (x11:Bool) (x12:Nat) (x13:LL):Option ((Bool×LI×LI×Int×LL×LL)⊕(LI×LI×Int×LL×LL)):=qi qKN 1 [3,8,9,10] [4] (qI Tryz.f25 2) f ([.s (.ptr 1 0 none 0),.s (.sl 2 0 x0 true),.s (.i .i64 x1),.s (.i .i64 x2)]) ([.cells 72 [.arr .i8 81 x3,.arr .i8 16 x4,.one [.i .i8 x5],.rows [.i .u64,.i .u64] 32 x6,.rows [.i .u64,.i .u64] 2 x7],.cells 37 [.one [.i .i64 x8,.i .i64 x9,.i .i64 x10,.b x11]],.sli 37 false (.rows [.i .i64,.i .i64,.i .i64,.b] x12 x13)]) qOe
theorem qhq (f:Nat) (x0:Nat) (x1 x2:Int) (x3 x4:LI) (x5:Int) (x6 x7:LL) (x8 x9 x10:Int) (x11:Bool) (x12:Nat) (x13:LL):qOf (f+1) x0 x1 x2 x3 x4 x5 x6 x7 x8 x9 x10 x11 x12 x13=qG3 (qOf f) x0 x1 x2 x3 x4 x5 x6 x7 x8 x9 x10 x11 x12 x13:=by kernel_rfl
theorem qVv:∀ f,qOf f=qEv f
 | 0=>rfl
 | f+1=>by funext x0 x1 x2 x3 x4 x5 x6 x7 x8 x9 x10 x11 x12 x13;rw [qhq,qVv f];rfl
theorem qht:qe Tryz.prog qKN 1 (qI Tryz.f25 2):=
 qj mixed qVt (qR.of (l':=[]) (by kernel_rfl) trivial) (q:=2) (kin:=[3,8,9,10]) (kout:=[4]) (by kernel_rfl) (by kernel_rfl) fun vs objs K r h=>by
  replace h:qOg vs objs K=some r:=h
  unfold qOg at h
  split at h
  ·skip
   obtain ⟨t,h1,h2⟩:=qG h
   rw [<- qVv] at h1
   refine ⟨_,qOe,t,qD,h1,fun e vs' objs' hd=>?_⟩
   unfold qOe at hd
   split at hd
   ·skip
    cases hd
    exact h2
   ·skip
    cases hd
    exact h2
   ·cases hd
  ·cases h
def qVu:V->List Obj->Option (Bool×LI×LI×Int×LL×LL):=fun v objs=>match v,objs with
 | .s (.b y0),[.cells 72 [.arr .i8 81 y1,.arr .i8 16 y2,.one [.i .i8 y3],.rows [.i .u64,.i .u64] 32 y4,.rows [.i .u64,.i .u64] 2 y5]]=>some (y0,y1,y2,y3,y4,y5)
 | _,_=>none
theorem qhp (x0 x1 x2:Int) (x3:Bool) (x4 x5:LI) (x6:Int) (x7 x8:LL):fnE qKN Tryz.f25 ([.s (.ptr 0 0 none 0),.agg [.one [.i .i64 x0,.i .i64 x1,.i .i64 x2,.b x3]]]) ([.cells 72 [.arr .i8 81 x4,.arr .i8 16 x5,.one [.i .i8 x6],.rows [.i .u64,.i .u64] 32 x7,.rows [.i .u64,.i .u64] 2 x8]]) qVu=qG2 x0 x1 x2 x3 x4 x5 x6 x7 x8:=by kernel_rfl
def qVs:HA:=fun o vs objs K=>match vs,objs with
 | [.s (.ptr 0 0 none 0),.agg [.one [.i .i64 x0,.i .i64 x1,.i .i64 x2,.b x3]]],[.cells 72 [.arr .i8 81 x4,.arr .i8 16 x5,.one [.i .i8 x6],.rows [.i .u64,.i .u64] 32 x7,.rows [.i .u64,.i .u64] 2 x8]]=>ob (qG2 x0 x1 x2 x3 x4 x5 x6 x7 x8) fun z=>K false (.s (.b (z.1))) ([.cells 72 [.arr .i8 81 (z.2.1),.arr .i8 16 (z.2.2.1),.one [.i .i8 (z.2.2.2.1)],.rows [.i .u64,.i .u64] 32 (z.2.2.2.2.1),.rows [.i .u64,.i .u64] 2 (z.2.2.2.2.2)]])
 | _,_=>o 25 vs objs K
def qVw (o:Orc):Orc:=qM 25 (qVs o) o
theorem qhs:OQ Tryz.prog qVw:=fun _ ho=>qQ ho fun vs objs K r h=>by
 unfold qVs at h
 split at h
 ·skip
  obtain ⟨t,h1,h2⟩:=qG h
  refine qAc mixed qVt (fn:=Tryz.f25) (b:=(Tryz.f25).body.getD .skip) (by kernel_rfl) (by kernel_rfl) (by kernel_rfl) ((qhp _ _ _ _ _ _ _ _ _).trans h1) (m:=1) rfl (qR.of (l':=[qI Tryz.f25 2]) (by kernel_rfl) ⟨qht,trivial⟩) fun v objs' hd=>?_
  unfold qVu at hd;split at hd;(cases hd;exact h2);cases hd
 ·exact ho _ _ _ _ _ h
def qW0:Ctx:=mkC 48 (qL) [] qa
theorem qis:CtxOK Tryz.prog qW0:=mkC_ok (qN)
def qW1:V->List Obj->Option (Int):=fun v objs=>match v,objs with
 | .s (.i .i64 y0),[]=>some (y0)
 | _,_=>none
theorem qir (x0 x1 x2:Int) (x3:Bool):fnE qW0 Tryz.f73 ([.agg [.one [.i .i64 x0,.i .i64 x1,.i .i64 x2,.b x3]]]) ([]) qW1=qDQ x0 x1 x2 x3:=by kernel_rfl
def qWz:HA:=fun o vs objs K=>match vs,objs with
 | [.agg [.one [.i .i64 x0,.i .i64 x1,.i .i64 x2,.b x3]]],[]=>ob (qDQ x0 x1 x2 x3) fun y0=>K false (.s (.i .i64 y0)) ([])
 | _,_=>o 73 vs objs K
def qPC (o:Orc):Orc:=qM 73 (qWz o) o
theorem qW2:OQ Tryz.prog qPC:=fun _ ho=>qQ ho fun vs objs K r h=>by
 unfold qWz at h
 split at h
 ·skip
  obtain ⟨t,h1,h2⟩:=qG h
  refine qd mixed qis ((qir _ _ _ _).trans h1) (by kernel_rfl) fun v objs' hd=>?_
  unfold qW1 at hd;split at hd;(cases hd;exact h2);cases hd
 ·exact ho _ _ _ _ _ h
def qTk:Ctx:=mkC 104 ((qIb (qCa (qDU (qFP (qJS (qPC qL))))))) [] qa
theorem qfD:CtxOK Tryz.prog qTk:=mkC_ok ((qKy _ (qCv _ (qD5 _ (qGN _ (qMp _ (qW2 _ qN)))))))
def qTl:V->List Obj->Option (Bool):=fun v objs=>match v,objs with
 | .s (.b y0),[]=>some (y0)
 | _,_=>none
theorem qfC (x0 x1 x2:Int) (x3:Bool) (x4:Int) (x5:Nat) (x6 x7:LI) (x8:Int) (x9 x10:LL) (x11:Nat) (x12:LL):fnE qTk Tryz.f55 ([.s (.ptr 0 0 none 0),.agg [.one [.i .i64 x0,.i .i64 x1,.i .i64 x2,.b x3]]]) ([.rcells 66 [.one [.ptr 1 0 none 0,.i .u64 x4,.sl 2 0 x5 true]],.rcells 72 [.arr .i8 81 x6,.arr .i8 16 x7,.one [.i .i8 x8],.rows [.i .u64,.i .u64] 32 x9,.rows [.i .u64,.i .u64] 2 x10],.sli 98 true (.rows [.i .i64,.i .i64,.i .i64,.b,.i .i8,.i .i8] x11 x12)]) (qAE 3 qTl)=qDo x0 x1 x2 x3 x4 x5 x6 x7 x8 x9 x10 x11 x12:=by kernel_rfl
def qTj:HA:=fun o vs objs K=>match vs,List.map Obj.toRO objs with
 | [.s (.ptr 0 0 none 0),.agg [.one [.i .i64 x0,.i .i64 x1,.i .i64 x2,.b x3]]],[.rcells 66 [.one [.ptr 1 0 none 0,.i .u64 x4,.sl 2 0 x5 true]],.rcells 72 [.arr .i8 81 x6,.arr .i8 16 x7,.one [.i .i8 x8],.rows [.i .u64,.i .u64] 32 x9,.rows [.i .u64,.i .u64] 2 x10],.sli 98 true (.rows [.i .i64,.i .i64,.i .i64,.b,.i .i8,.i .i8] x11 x12)]=>ob (qDo x0 x1 x2 x3 x4 x5 x6 x7 x8 x9 x10 x11 x12) fun y0=>K true (.s (.b y0)) ([])
 | _,_=>o 55 vs objs K
def qTm (o:Orc):Orc:=qM 55 (qTj o) o
theorem qfE:OQ Tryz.prog qTm:=fun _ ho=>qQ ho fun vs objs K r h=>by
 unfold qTj at h
 split at h
 ·skip
  have hq:List.map Obj.toRO objs=_:=(by rename_i hq;first | exact hq | assumption)
  obtain ⟨t,h1,h2⟩:=qG h
  refine qAU mixed qfD (m:=3) (fn:=Tryz.f55) (b:=(Tryz.f55).body.getD .skip) (by kernel_rfl) (by kernel_rfl) (by kernel_rfl) hq (by kernel_rfl) (by kernel_rfl) (qR.of (l':=[]) (by kernel_rfl) trivial) ((qfC _ _ _ _ _ _ _ _ _ _ _ _ _).trans h1) fun v objs' hd=>?_
  unfold qTl at hd;split at hd;(cases hd;exact h2);cases hd
 ·exact ho _ _ _ _ _ h
def qTs:Ctx:=mkC 54 ((qN7 (qJS qL))) [] qa
theorem qfJ:CtxOK Tryz.prog qTs:=mkC_ok ((qVD _ (qMp _ qN)))
def qTt:V->List Obj->Option (Int×Nat×LI×LI×Int×LL×LL×Nat×LL):=fun v objs=>match v,objs with
 | .tup [],[.cells 66 [.one [.ptr 1 0 none 0,.i .u64 y0,.sl 2 0 y1 true]],.cells 72 [.arr .i8 81 y2,.arr .i8 16 y3,.one [.i .i8 y4],.rows [.i .u64,.i .u64] 32 y5,.rows [.i .u64,.i .u64] 2 y6],.sli 98 false (.rows [.i .i64,.i .i64,.i .i64,.b,.i .i8,.i .i8] y7 y8)]=>some (y0,y1,y2,y3,y4,y5,y6,y7,y8)
 | _,_=>none
theorem qfI (x0 x1:Int) (x2 x3:Int) (x4:Nat) (x5 x6:LI) (x7:Int) (x8 x9:LL) (x10:Nat) (x11:LL):fnE qTs Tryz.f57 ([.s (.ptr 0 0 none 0),.s (.i .i64 x0),.s (.i .i64 x1),.s (.i .i64 x2)]) ([.cells 66 [.one [.ptr 1 0 none 0,.i .u64 x3,.sl 2 0 x4 true]],.cells 72 [.arr .i8 81 x5,.arr .i8 16 x6,.one [.i .i8 x7],.rows [.i .u64,.i .u64] 32 x8,.rows [.i .u64,.i .u64] 2 x9],.sli 98 false (.rows [.i .i64,.i .i64,.i .i64,.b,.i .i8,.i .i8] x10 x11)]) qTt=qDI x0 x1 x2 x3 x4 x5 x6 x7 x8 x9 x10 x11:=by kernel_rfl
def qTr:HA:=fun o vs objs K=>match vs,objs with
 | [.s (.ptr 0 0 none 0),.s (.i .i64 x0),.s (.i .i64 x1),.s (.i .i64 x2)],[.cells 66 [.one [.ptr 1 0 none 0,.i .u64 x3,.sl 2 0 x4 true]],.cells 72 [.arr .i8 81 x5,.arr .i8 16 x6,.one [.i .i8 x7],.rows [.i .u64,.i .u64] 32 x8,.rows [.i .u64,.i .u64] 2 x9],.sli 98 false (.rows [.i .i64,.i .i64,.i .i64,.b,.i .i8,.i .i8] x10 x11)]=>ob (qDI x0 x1 x2 x3 x4 x5 x6 x7 x8 x9 x10 x11) fun z=>K false (.tup []) ([.cells 66 [.one [.ptr 1 0 none 0,.i .u64 (z.1),.sl 2 0 (z.2.1) true]],.cells 72 [.arr .i8 81 (z.2.2.1),.arr .i8 16 (z.2.2.2.1),.one [.i .i8 (z.2.2.2.2.1)],.rows [.i .u64,.i .u64] 32 (z.2.2.2.2.2.1),.rows [.i .u64,.i .u64] 2 (z.2.2.2.2.2.2.1)],.sli 98 false (.rows [.i .i64,.i .i64,.i .i64,.b,.i .i8,.i .i8] (z.2.2.2.2.2.2.2.1) (z.2.2.2.2.2.2.2.2))])
 | _,_=>o 57 vs objs K
def qTu (o:Orc):Orc:=qM 57 (qTr o) o
theorem qfK:OQ Tryz.prog qTu:=fun _ ho=>qQ ho fun vs objs K r h=>by
 unfold qTr at h
 split at h
 ·skip
  obtain ⟨t,h1,h2⟩:=qG h
  refine qd mixed qfJ ((qfI _ _ _ _ _ _ _ _ _ _ _ _).trans h1) (by kernel_rfl) fun v objs' hd=>?_
  unfold qTt at hd;split at hd;(cases hd;exact h2);cases hd
 ·exact ho _ _ _ _ _ h
def qTw:Ctx:=mkC 32 ((qJX (qOH (qFP qL)))) [] qa
theorem qfM:CtxOK Tryz.prog qTw:=mkC_ok ((qMw _ (qVN _ (qGN _ qN))))
def qTx:V->List Obj->Option (Int×Nat×LI×LI×Int×LL×LL×Nat×LL):=fun v objs=>match v,objs with
 | .tup [],[.cells 66 [.one [.ptr 1 0 none 0,.i .u64 y0,.sl 2 0 y1 true]],.cells 72 [.arr .i8 81 y2,.arr .i8 16 y3,.one [.i .i8 y4],.rows [.i .u64,.i .u64] 32 y5,.rows [.i .u64,.i .u64] 2 y6],.sli 98 false (.rows [.i .i64,.i .i64,.i .i64,.b,.i .i8,.i .i8] y7 y8)]=>some (y0,y1,y2,y3,y4,y5,y6,y7,y8)
 | _,_=>none
theorem qfL (x0 x1 x2:Int) (x3:Nat) (x4 x5:LI) (x6:Int) (x7 x8:LL) (x9:Nat) (x10:LL):fnE qTw Tryz.f58 ([.s (.ptr 0 0 none 0),.s (.i .i64 x0),.s (.i .i8 x1)]) ([.cells 66 [.one [.ptr 1 0 none 0,.i .u64 x2,.sl 2 0 x3 true]],.cells 72 [.arr .i8 81 x4,.arr .i8 16 x5,.one [.i .i8 x6],.rows [.i .u64,.i .u64] 32 x7,.rows [.i .u64,.i .u64] 2 x8],.sli 98 false (.rows [.i .i64,.i .i64,.i .i64,.b,.i .i8,.i .i8] x9 x10)]) qTx=qBw x0 x1 x2 x3 x4 x5 x6 x7 x8 x9 x10:=by kernel_rfl
def qTv:HA:=fun o vs objs K=>match vs,objs with
 | [.s (.ptr 0 0 none 0),.s (.i .i64 x0),.s (.i .i8 x1)],[.cells 66 [.one [.ptr 1 0 none 0,.i .u64 x2,.sl 2 0 x3 true]],.cells 72 [.arr .i8 81 x4,.arr .i8 16 x5,.one [.i .i8 x6],.rows [.i .u64,.i .u64] 32 x7,.rows [.i .u64,.i .u64] 2 x8],.sli 98 false (.rows [.i .i64,.i .i64,.i .i64,.b,.i .i8,.i .i8] x9 x10)]=>ob (qBw x0 x1 x2 x3 x4 x5 x6 x7 x8 x9 x10) fun z=>K false (.tup []) ([.cells 66 [.one [.ptr 1 0 none 0,.i .u64 (z.1),.sl 2 0 (z.2.1) true]],.cells 72 [.arr .i8 81 (z.2.2.1),.arr .i8 16 (z.2.2.2.1),.one [.i .i8 (z.2.2.2.2.1)],.rows [.i .u64,.i .u64] 32 (z.2.2.2.2.2.1),.rows [.i .u64,.i .u64] 2 (z.2.2.2.2.2.2.1)],.sli 98 false (.rows [.i .i64,.i .i64,.i .i64,.b,.i .i8,.i .i8] (z.2.2.2.2.2.2.2.1) (z.2.2.2.2.2.2.2.2))])
 | _,_=>o 58 vs objs K
def qTy (o:Orc):Orc:=qM 58 (qTv o) o
theorem qfN:OQ Tryz.prog qTy:=fun _ ho=>qQ ho fun vs objs K r h=>by
 unfold qTv at h
 split at h
 ·skip
  obtain ⟨t,h1,h2⟩:=qG h
  refine qd mixed qfM ((qfL _ _ _ _ _ _ _ _ _ _ _).trans h1) (by kernel_rfl) fun v objs' hd=>?_
  unfold qTx at hd;split at hd;(cases hd;exact h2);cases hd
 ·exact ho _ _ _ _ _ h
def qT0:Ctx:=mkC 26 ((qOI qL)) [] qa
theorem qfP:CtxOK Tryz.prog qT0:=mkC_ok ((qVR _ qN))
def qT1:V->List Obj->Option (Int×Nat×LI×LI×Int×LL×LL×Nat×LL):=fun v objs=>match v,objs with
 | .tup [],[.cells 66 [.one [.ptr 1 0 none 0,.i .u64 y0,.sl 2 0 y1 true]],.cells 72 [.arr .i8 81 y2,.arr .i8 16 y3,.one [.i .i8 y4],.rows [.i .u64,.i .u64] 32 y5,.rows [.i .u64,.i .u64] 2 y6],.sli 98 false (.rows [.i .i64,.i .i64,.i .i64,.b,.i .i8,.i .i8] y7 y8)]=>some (y0,y1,y2,y3,y4,y5,y6,y7,y8)
 | _,_=>none
theorem qfO (x0:Int) (x1:Nat) (x2 x3:LI) (x4:Int) (x5 x6:LL) (x7:Nat) (x8:LL):fnE qT0 Tryz.f62 ([.s (.ptr 0 0 none 0)]) ([.cells 66 [.one [.ptr 1 0 none 0,.i .u64 x0,.sl 2 0 x1 true]],.cells 72 [.arr .i8 81 x2,.arr .i8 16 x3,.one [.i .i8 x4],.rows [.i .u64,.i .u64] 32 x5,.rows [.i .u64,.i .u64] 2 x6],.sli 98 false (.rows [.i .i64,.i .i64,.i .i64,.b,.i .i8,.i .i8] x7 x8)]) qT1=qCP x0 x1 x2 x3 x4 x5 x6 x7 x8:=by kernel_rfl
def qTz:HA:=fun o vs objs K=>match vs,objs with
 | [.s (.ptr 0 0 none 0)],[.cells 66 [.one [.ptr 1 0 none 0,.i .u64 x0,.sl 2 0 x1 true]],.cells 72 [.arr .i8 81 x2,.arr .i8 16 x3,.one [.i .i8 x4],.rows [.i .u64,.i .u64] 32 x5,.rows [.i .u64,.i .u64] 2 x6],.sli 98 false (.rows [.i .i64,.i .i64,.i .i64,.b,.i .i8,.i .i8] x7 x8)]=>ob (qCP x0 x1 x2 x3 x4 x5 x6 x7 x8) fun z=>K false (.tup []) ([.cells 66 [.one [.ptr 1 0 none 0,.i .u64 (z.1),.sl 2 0 (z.2.1) true]],.cells 72 [.arr .i8 81 (z.2.2.1),.arr .i8 16 (z.2.2.2.1),.one [.i .i8 (z.2.2.2.2.1)],.rows [.i .u64,.i .u64] 32 (z.2.2.2.2.2.1),.rows [.i .u64,.i .u64] 2 (z.2.2.2.2.2.2.1)],.sli 98 false (.rows [.i .i64,.i .i64,.i .i64,.b,.i .i8,.i .i8] (z.2.2.2.2.2.2.2.1) (z.2.2.2.2.2.2.2.2))])
 | _,_=>o 62 vs objs K
def qT2 (o:Orc):Orc:=qM 62 (qTz o) o
theorem qfQ:OQ Tryz.prog qT2:=fun _ ho=>qQ ho fun vs objs K r h=>by
 unfold qTz at h
 split at h
 ·skip
  obtain ⟨t,h1,h2⟩:=qG h
  refine qd mixed qfP ((qfO _ _ _ _ _ _ _ _ _).trans h1) (by kernel_rfl) fun v objs' hd=>?_
  unfold qT1 at hd;split at hd;(cases hd;exact h2);cases hd
 ·exact ho _ _ _ _ _ h
def qTo:Ctx:=mkC 97 ((qKx (qIb (qCa (qT2 (qTy (qTu (qDS (qFP (qTm qL)))))))))) [] qa
theorem qfG:CtxOK Tryz.prog qTo:=mkC_ok ((qPc _ (qKy _ (qCv _ (qfQ _ (qfN _ (qfK _ (qD4 _ (qGN _ (qfE _ qN))))))))))
def qTp:V->List Obj->Option ((Bool×Int×Nat×LI×LI×Int×LL×LL×Nat×LL)⊕(Bool×Int×Nat×LI×LI×Int×LL×LL×Nat×LL)):=fun v objs=>match v,objs with
 | .s (.b y0),[.cells 66 [.one [.ptr 1 0 none 0,.i .u64 y1,.sl 2 0 y2 true]],.cells 72 [.arr .i8 81 y3,.arr .i8 16 y4,.one [.i .i8 y5],.rows [.i .u64,.i .u64] 32 y6,.rows [.i .u64,.i .u64] 2 y7],.sli 98 false (.rows [.i .i64,.i .i64,.i .i64,.b,.i .i8,.i .i8] y8 y9)]=>some (.inl (y0,y1,y2,y3,y4,y5,y6,y7,y8,y9))
 | .s (.b y0),[.cells 66 [.one [.ptr 1 0 none 0,.i .u64 y1,.sl 3 0 y2 true]],.cells 72 [.arr .i8 81 y3,.arr .i8 16 y4,.one [.i .i8 y5],.rows [.i .u64,.i .u64] 32 y6,.rows [.i .u64,.i .u64] 2 y7],Obj.dead,.sli 98 false (.rows [.i .i64,.i .i64,.i .i64,.b,.i .i8,.i .i8] y8 y9)]=>some (.inr (y0,y1,y2,y3,y4,y5,y6,y7,y8,y9))
 | _,_=>none
theorem qfF (x0 x1 x2:Int) (x3:Bool) (x4:Int) (x5:Nat) (x6 x7:LI) (x8:Int) (x9 x10:LL) (x11:Nat) (x12:LL):fnE qTo Tryz.f26 ([.s (.ptr 0 0 none 0),.agg [.one [.i .i64 x0,.i .i64 x1,.i .i64 x2,.b x3]]]) ([.cells 66 [.one [.ptr 1 0 none 0,.i .u64 x4,.sl 2 0 x5 true]],.cells 72 [.arr .i8 81 x6,.arr .i8 16 x7,.one [.i .i8 x8],.rows [.i .u64,.i .u64] 32 x9,.rows [.i .u64,.i .u64] 2 x10],.sli 98 false (.rows [.i .i64,.i .i64,.i .i64,.b,.i .i8,.i .i8] x11 x12)]) qTp=qEg x0 x1 x2 x3 x4 x5 x6 x7 x8 x9 x10 x11 x12:=by kernel_rfl
def qTn:HA:=fun o vs objs K=>match vs,objs with
 | [.s (.ptr 0 0 none 0),.agg [.one [.i .i64 x0,.i .i64 x1,.i .i64 x2,.b x3]]],[.cells 66 [.one [.ptr 1 0 none 0,.i .u64 x4,.sl 2 0 x5 true]],.cells 72 [.arr .i8 81 x6,.arr .i8 16 x7,.one [.i .i8 x8],.rows [.i .u64,.i .u64] 32 x9,.rows [.i .u64,.i .u64] 2 x10],.sli 98 false (.rows [.i .i64,.i .i64,.i .i64,.b,.i .i8,.i .i8] x11 x12)]=>ob (qEg x0 x1 x2 x3 x4 x5 x6 x7 x8 x9 x10 x11 x12) fun t0=>sw t0 (fun z=>K false (.s (.b (z.1))) ([.cells 66 [.one [.ptr 1 0 none 0,.i .u64 (z.2.1),.sl 2 0 (z.2.2.1) true]],.cells 72 [.arr .i8 81 (z.2.2.2.1),.arr .i8 16 (z.2.2.2.2.1),.one [.i .i8 (z.2.2.2.2.2.1)],.rows [.i .u64,.i .u64] 32 (z.2.2.2.2.2.2.1),.rows [.i .u64,.i .u64] 2 (z.2.2.2.2.2.2.2.1)],.sli 98 false (.rows [.i .i64,.i .i64,.i .i64,.b,.i .i8,.i .i8] (z.2.2.2.2.2.2.2.2.1) (z.2.2.2.2.2.2.2.2.2))])) (fun z=>K false (.s (.b (z.1))) ([.cells 66 [.one [.ptr 1 0 none 0,.i .u64 (z.2.1),.sl 3 0 (z.2.2.1) true]],.cells 72 [.arr .i8 81 (z.2.2.2.1),.arr .i8 16 (z.2.2.2.2.1),.one [.i .i8 (z.2.2.2.2.2.1)],.rows [.i .u64,.i .u64] 32 (z.2.2.2.2.2.2.1),.rows [.i .u64,.i .u64] 2 (z.2.2.2.2.2.2.2.1)],Obj.dead,.sli 98 false (.rows [.i .i64,.i .i64,.i .i64,.b,.i .i8,.i .i8] (z.2.2.2.2.2.2.2.2.1) (z.2.2.2.2.2.2.2.2.2))]))
 | _,_=>o 26 vs objs K
def qTq (o:Orc):Orc:=qM 26 (qTn o) o
theorem qfH:OQ Tryz.prog qTq:=fun _ ho=>qQ ho fun vs objs K r h=>by
 unfold qTn at h
 split at h
 ·skip
  obtain ⟨t,h1,h2⟩:=qG h
  refine qd mixed qfG ((qfF _ _ _ _ _ _ _ _ _ _ _ _ _).trans h1) (by kernel_rfl) fun v objs' hd=>?_
  unfold qTp at hd
  split at hd
  ·skip
   cases hd
   exact h2
  ·skip
   cases hd
   exact h2
  ·cases hd
 ·exact ho _ _ _ _ _ h
def qOt:Ex->List V->List Obj->Option ((Nat×Int×Int×Nat×LL×LI×LI×Int×Int×Nat×LI×LI×Int×LL×LL×Nat×LL)⊕(Nat×Nat×LL×LI×LI×Int×Int×Nat×LI×LI×Int×LL×LL×Nat×LL)):=fun e vs objs=>match e,vs,objs with
 | .ret,[.s (.sl 0 0 y0 true),.s (.i .i64 y1),.s (.ptr 1 0 none 0),.s (.i .i64 y2),.s (.ptr 2 0 none 0)],[.sli 37 true (.rows [.i .i64,.i .i64,.i .i64,.b] y3 y4),.cells 28 [.arr .i8 81 y5,.arr .i8 16 y6,.one [.i .i8 y7]],.cells 66 [.one [.ptr 3 0 none 0,.i .u64 y8,.sl 4 0 y9 true]],.cells 72 [.arr .i8 81 y10,.arr .i8 16 y11,.one [.i .i8 y12],.rows [.i .u64,.i .u64] 32 y13,.rows [.i .u64,.i .u64] 2 y14],.sli 98 false (.rows [.i .i64,.i .i64,.i .i64,.b,.i .i8,.i .i8] y15 y16)]=>some (.inl (y0,y1,y2,y3,y4,y5,y6,y7,y8,y9,y10,y11,y12,y13,y14,y15,y16))
 | .exit 0,[.s (.sl 0 0 y0 true),.s .bad,.s (.ptr 1 0 none 0),.s .bad,.s (.ptr 2 0 none 0)],[.sli 37 true (.rows [.i .i64,.i .i64,.i .i64,.b] y1 y2),.cells 28 [.arr .i8 81 y3,.arr .i8 16 y4,.one [.i .i8 y5]],.cells 66 [.one [.ptr 3 0 none 0,.i .u64 y6,.sl 4 0 y7 true]],.cells 72 [.arr .i8 81 y8,.arr .i8 16 y9,.one [.i .i8 y10],.rows [.i .u64,.i .u64] 32 y11,.rows [.i .u64,.i .u64] 2 y12],.sli 98 false (.rows [.i .i64,.i .i64,.i .i64,.b,.i .i8,.i .i8] y13 y14)]=>some (.inr (y0,y1,y2,y3,y4,y5,y6,y7,y8,y9,y10,y11,y12,y13,y14))
 | _,_,_=>none
def qOv:HL:=fun vs objs K=>match vs,objs with
 | [.s (.sl 0 0 x0 true),.s (.ptr 1 0 none 0),.s (.ptr 2 0 none 0),.s (.sl 0 0 x1 true),.s (.i .i64 x2),.s (.i .i64 x3)],[.sli 37 true (.rows [.i .i64,.i .i64,.i .i64,.b] x4 x5),.cells 28 [.arr .i8 81 x6,.arr .i8 16 x7,.one [.i .i8 x8]],.cells 66 [.one [.ptr 3 0 none 0,.i .u64 x9,.sl 4 0 x10 true]],.cells 72 [.arr .i8 81 x11,.arr .i8 16 x12,.one [.i .i8 x13],.rows [.i .u64,.i .u64] 32 x14,.rows [.i .u64,.i .u64] 2 x15],.sli 98 false (.rows [.i .i64,.i .i64,.i .i64,.b,.i .i8,.i .i8] x16 x17)]=>ob (qKU qD x0 x1 x2 x3 x4 x5 x6 x7 x8 x9 x10 x11 x12 x13 x14 x15 x16 x17) fun t0=>sw t0 (fun z=>K (.ret) ([.s (.sl 0 0 (z.1) true),.s (.i .i64 (z.2.1)),.s (.ptr 1 0 none 0),.s (.i .i64 (z.2.2.1)),.s (.ptr 2 0 none 0)]) ([.sli 37 true (.rows [.i .i64,.i .i64,.i .i64,.b] (z.2.2.2.1) (z.2.2.2.2.1)),.cells 28 [.arr .i8 81 (z.2.2.2.2.2.1),.arr .i8 16 (z.2.2.2.2.2.2.1),.one [.i .i8 (z.2.2.2.2.2.2.2.1)]],.cells 66 [.one [.ptr 3 0 none 0,.i .u64 (z.2.2.2.2.2.2.2.2.1),.sl 4 0 (z.2.2.2.2.2.2.2.2.2.1) true]],.cells 72 [.arr .i8 81 (z.2.2.2.2.2.2.2.2.2.2.1),.arr .i8 16 (z.2.2.2.2.2.2.2.2.2.2.2.1),.one [.i .i8 (z.2.2.2.2.2.2.2.2.2.2.2.2.1)],.rows [.i .u64,.i .u64] 32 (z.2.2.2.2.2.2.2.2.2.2.2.2.2.1),.rows [.i .u64,.i .u64] 2 (z.2.2.2.2.2.2.2.2.2.2.2.2.2.2.1)],.sli 98 false (.rows [.i .i64,.i .i64,.i .i64,.b,.i .i8,.i .i8] (z.2.2.2.2.2.2.2.2.2.2.2.2.2.2.2.1) (z.2.2.2.2.2.2.2.2.2.2.2.2.2.2.2.2))])) (fun z=>K (.exit 0) ([.s (.sl 0 0 (z.1) true),.s .bad,.s (.ptr 1 0 none 0),.s .bad,.s (.ptr 2 0 none 0)]) ([.sli 37 true (.rows [.i .i64,.i .i64,.i .i64,.b] (z.2.1) (z.2.2.1)),.cells 28 [.arr .i8 81 (z.2.2.2.1),.arr .i8 16 (z.2.2.2.2.1),.one [.i .i8 (z.2.2.2.2.2.1)]],.cells 66 [.one [.ptr 3 0 none 0,.i .u64 (z.2.2.2.2.2.2.1),.sl 4 0 (z.2.2.2.2.2.2.2.1) true]],.cells 72 [.arr .i8 81 (z.2.2.2.2.2.2.2.2.1),.arr .i8 16 (z.2.2.2.2.2.2.2.2.2.1),.one [.i .i8 (z.2.2.2.2.2.2.2.2.2.2.1)],.rows [.i .u64,.i .u64] 32 (z.2.2.2.2.2.2.2.2.2.2.2.1),.rows [.i .u64,.i .u64] 2 (z.2.2.2.2.2.2.2.2.2.2.2.2.1)],.sli 98 false (.rows [.i .i64,.i .i64,.i .i64,.b,.i .i8,.i .i8] (z.2.2.2.2.2.2.2.2.2.2.2.2.2.1) (z.2.2.2.2.2.2.2.2.2.2.2.2.2.2))]))
 | _,_=>none
def qiI:{R:Type}->Nat->List V->List Obj->(Ex->List V->List Obj->Option R)->Option R:=fun q vs objs K=>bif Nat.beq q 6 then qOv vs objs K else none
def qKT:Ctx:=mkC 54 ((qTq (qVw (qT6 (qRt qL))))) [(6,[1,5,8,19,20,21],[1,4,5,6,8])] qiI
theorem qWO:CtxOK Tryz.prog qKT:=mkC_ok ((qfH _ (qhs _ (qfT _ (qcz _ qN)))))
def qOu (f:Nat) (x0 x1:Nat) (x2 x3:Int) (x4:Nat) (x5:LL) (x6 x7:LI) (x8 x9:Int) (x10:Nat) (x11 x12:LI) (x13:Int) (x14 x15:LL) (x16:Nat) (x17:LL):Option ((Nat×Int×Int×Nat×LL×LI×LI×Int×Int×Nat×LI×LI×Int×LL×LL×Nat×LL)⊕(Nat×Nat×LL×LI×LI×Int×Int×Nat×LI×LI×Int×LL×LL×Nat×LL)):=qi qKT 1 [1,5,8,19,20,21] [1,4,5,6,8] (qI Tryz.f9 6) f ([.s (.sl 0 0 x0 true),.s (.ptr 1 0 none 0),.s (.ptr 2 0 none 0),.s (.sl 0 0 x1 true),.s (.i .i64 x2),.s (.i .i64 x3)]) ([.sli 37 true (.rows [.i .i64,.i .i64,.i .i64,.b] x4 x5),.cells 28 [.arr .i8 81 x6,.arr .i8 16 x7,.one [.i .i8 x8]],.cells 66 [.one [.ptr 3 0 none 0,.i .u64 x9,.sl 4 0 x10 true]],.cells 72 [.arr .i8 81 x11,.arr .i8 16 x12,.one [.i .i8 x13],.rows [.i .u64,.i .u64] 32 x14,.rows [.i .u64,.i .u64] 2 x15],.sli 98 false (.rows [.i .i64,.i .i64,.i .i64,.b,.i .i8,.i .i8] x16 x17)]) qOt
theorem qiH (f:Nat) (x0 x1:Nat) (x2 x3:Int) (x4:Nat) (x5:LL) (x6 x7:LI) (x8 x9:Int) (x10:Nat) (x11 x12:LI) (x13:Int) (x14 x15:LL) (x16:Nat) (x17:LL):qOu (f+1) x0 x1 x2 x3 x4 x5 x6 x7 x8 x9 x10 x11 x12 x13 x14 x15 x16 x17=qWR (qOu f) x0 x1 x2 x3 x4 x5 x6 x7 x8 x9 x10 x11 x12 x13 x14 x15 x16 x17:=by kernel_rfl
theorem qWQ:∀ f,qOu f=qKU f
 | 0=>rfl
 | f+1=>by funext x0 x1 x2 x3 x4 x5 x6 x7 x8 x9 x10 x11 x12 x13 x14 x15 x16 x17;rw [qiH,qWQ f];rfl
theorem qiK:qe Tryz.prog qKT 1 (qI Tryz.f9 6):=
 qj mixed qWO (qR.of (l':=[]) (by kernel_rfl) trivial) (q:=6) (kin:=[1,5,8,19,20,21]) (kout:=[1,4,5,6,8]) (by kernel_rfl) (by kernel_rfl) fun vs objs K r h=>by
  replace h:qOv vs objs K=some r:=h
  unfold qOv at h
  split at h
  ·skip
   obtain ⟨t,h1,h2⟩:=qG h
   rw [<- qWQ] at h1
   refine ⟨_,qOt,t,qD,h1,fun e vs' objs' hd=>?_⟩
   unfold qOt at hd
   split at hd
   ·skip
    cases hd
    exact h2
   ·skip
    cases hd
    exact h2
   ·cases hd
  ·cases h
def qWP:V->List Obj->Option (Int×LI×LI×Int×Int):=fun v objs=>match v,objs with
 | .tup [W.s (.i .i64 y0),W.agg [.arr .i8 81 y1,.arr .i8 16 y2,.one [.i .i8 y3]],W.s (.i .i64 y4)],[]=>some (y0,y1,y2,y3,y4)
 | _,_=>none
theorem qiG (x0 x1:LI) (x2:Int) (x3 x4:Nat) (x5:LL):fnE qKT Tryz.f9 ([.agg [.arr .i8 81 x0,.arr .i8 16 x1,.one [.i .i8 x2]],.s (.sl 0 0 x3 true)]) ([.sli 37 true (.rows [.i .i64,.i .i64,.i .i64,.b] x4 x5)]) (qAE 1 qWP)=qOs x0 x1 x2 x3 x4 x5:=by kernel_rfl
def qWN:HA:=fun o vs objs K=>match vs,List.map Obj.toRO objs with
 | [.agg [.arr .i8 81 x0,.arr .i8 16 x1,.one [.i .i8 x2]],.s (.sl 0 0 x3 true)],[.sli 37 true (.rows [.i .i64,.i .i64,.i .i64,.b] x4 x5)]=>ob (qOs x0 x1 x2 x3 x4 x5) fun z=>K true (.tup [W.s (.i .i64 (z.1)),W.agg [.arr .i8 81 (z.2.1),.arr .i8 16 (z.2.2.1),.one [.i .i8 (z.2.2.2.1)]],W.s (.i .i64 (z.2.2.2.2))]) ([])
 | _,_=>o 9 vs objs K
def qWS (o:Orc):Orc:=qM 9 (qWN o) o
theorem qiJ:OQ Tryz.prog qWS:=fun _ ho=>qQ ho fun vs objs K r h=>by
 unfold qWN at h
 split at h
 ·skip
  have hq:List.map Obj.toRO objs=_:=(by rename_i hq;first | exact hq | assumption)
  obtain ⟨t,h1,h2⟩:=qG h
  refine qAU mixed qWO (m:=1) (fn:=Tryz.f9) (b:=(Tryz.f9).body.getD .skip) (by kernel_rfl) (by kernel_rfl) (by kernel_rfl) hq (by kernel_rfl) (by kernel_rfl) (qR.of (l':=[qI Tryz.f9 6]) (by kernel_rfl) ⟨qiK,trivial⟩) ((qiG _ _ _ _ _ _).trans h1) fun v objs' hd=>?_
  unfold qWP at hd;split at hd;(cases hd;exact h2);cases hd
 ·exact ho _ _ _ _ _ h
def qRU:Ex->List V->List Obj->Option (Int):=fun e vs objs=>match e,vs,objs with
 | .exit 0,[.s (.i .i64 y0)],[]=>some (y0)
 | _,_,_=>none
def qRX:HL:=fun vs objs K=>match vs,objs with
 | [.s (.i .i64 x0),.s (S.it 0)],[Obj.iter x1 x2]=>ob (qL1 qD x0 x1 x2) fun y0=>K (.exit 0) ([.s (.i .i64 y0)]) ([])
 | _,_=>none
def qoz:{R:Type}->Nat->List V->List Obj->(Ex->List V->List Obj->Option R)->Option R:=fun q vs objs K=>bif Nat.beq q 2 then qRX vs objs K else none
def qL0:Ctx:=mkC 10 (qL) [(2,[2,4],[2])] qoz
theorem qb6:CtxOK Tryz.prog qL0:=mkC_ok (qN)
def qRV (f:Nat) (x0:Int) (x1:ByteArray) (x2:Nat):Option (Int):=qi qL0 0 [2,4] [2] (qI Tryz.f138 2) f ([.s (.i .i64 x0),.s (S.it 0)]) ([Obj.iter x1 x2]) qRU
theorem qoy (f:Nat) (x0:Int) (x1:ByteArray) (x2:Nat):qRV (f+1) x0 x1 x2=qb9 (qRV f) x0 x1 x2:=by kernel_rfl
theorem qb8:∀ f,qRV f=qL1 f
 | 0=>rfl
 | f+1=>by funext x0 x1 x2;rw [qoy,qb8 f];rfl
theorem qo0:qe Tryz.prog qL0 0 (qI Tryz.f138 2):=
 qj mixed qb6 (qR.of (l':=[]) (by kernel_rfl) trivial) (q:=2) (kin:=[2,4]) (kout:=[2]) (by kernel_rfl) (by kernel_rfl) fun vs objs K r h=>by
  replace h:qRX vs objs K=some r:=h
  unfold qRX at h
  split at h
  ·skip
   obtain ⟨t,h1,h2⟩:=qG h
   rw [<- qb8] at h1
   refine ⟨_,qRU,t,qD,h1,fun e vs' objs' hd=>?_⟩
   unfold qRU at hd;split at hd;(cases hd;exact h2);cases hd
  ·cases h
def qb7:V->List Obj->Option (Int):=fun v objs=>match v,objs with
 | .s (.i .i64 y0),[]=>some (y0)
 | _,_=>none
theorem qox (x0:ByteArray):fnE qL0 Tryz.f138 ([.s (.str x0)]) ([]) qb7=qLz x0:=by kernel_rfl
def qb5:HA:=fun o vs objs K=>match vs,objs with
 | [.s (.str x0)],[]=>ob (qLz x0) fun y0=>K false (.s (.i .i64 y0)) ([])
 | _,_=>o 138 vs objs K
def qRW (o:Orc):Orc:=qM 138 (qb5 o) o
theorem qcA:OQ Tryz.prog qRW:=fun _ ho=>qQ ho fun vs objs K r h=>by
 unfold qb5 at h
 split at h
 ·skip
  obtain ⟨t,h1,h2⟩:=qG h
  refine qAc mixed qb6 (fn:=Tryz.f138) (b:=(Tryz.f138).body.getD .skip) (by kernel_rfl) (by kernel_rfl) (by kernel_rfl) ((qox _).trans h1) (m:=0) rfl (qR.of (l':=[qI Tryz.f138 2]) (by kernel_rfl) ⟨qo0,trivial⟩) fun v objs' hd=>?_
  unfold qb7 at hd;split at hd;(cases hd;exact h2);cases hd
 ·exact ho _ _ _ _ _ h
def qcC:Ctx:=mkC 117 (qL) [] qa
theorem qo2:CtxOK Tryz.prog qcC:=mkC_ok (qN)
def qcD:V->List Obj->Option (Int×Int):=fun v objs=>match v,objs with
 | .tup [W.s (.i .i32 y0),W.s (.i .i64 y1)],[]=>some (y0,y1)
 | _,_=>none
theorem qo1 (x0:ByteArray):fnE qcC Tryz.f154 ([.s (.str x0)]) ([]) qcD=qL2 x0:=by kernel_rfl
def qcB:HA:=fun o vs objs K=>match vs,objs with
 | [.s (.str x0)],[]=>ob (qL2 x0) fun z=>K false (.tup [W.s (.i .i32 (z.1)),W.s (.i .i64 (z.2))]) ([])
 | _,_=>o 154 vs objs K
def qcE (o:Orc):Orc:=qM 154 (qcB o) o
theorem qo3:OQ Tryz.prog qcE:=fun _ ho=>qQ ho fun vs objs K r h=>by
 unfold qcB at h
 split at h
 ·skip
  obtain ⟨t,h1,h2⟩:=qG h
  refine qd mixed qo2 ((qo1 _).trans h1) (by kernel_rfl) fun v objs' hd=>?_
  unfold qcD at hd;split at hd;(cases hd;exact h2);cases hd
 ·exact ho _ _ _ _ _ h
def qb2:Ctx:=mkC 19 ((qcE qL)) [] qa
theorem qov:CtxOK Tryz.prog qb2:=mkC_ok ((qo3 _ qN))
def qb3:V->List Obj->Option (Int×Int):=fun v objs=>match v,objs with
 | .tup [W.s (.i .i32 y0),W.s (.i .i64 y1)],[]=>some (y0,y1)
 | _,_=>none
theorem qou (x0:ByteArray):fnE qb2 Tryz.f139 ([.s (.str x0)]) ([]) qb3=qRT x0:=by kernel_rfl
def qb1:HA:=fun o vs objs K=>match vs,objs with
 | [.s (.str x0)],[]=>ob (qRT x0) fun z=>K false (.tup [W.s (.i .i32 (z.1)),W.s (.i .i64 (z.2))]) ([])
 | _,_=>o 139 vs objs K
def qb4 (o:Orc):Orc:=qM 139 (qb1 o) o
theorem qow:OQ Tryz.prog qb4:=fun _ ho=>qQ ho fun vs objs K r h=>by
 unfold qb1 at h
 split at h
 ·skip
  obtain ⟨t,h1,h2⟩:=qG h
  refine qd mixed qov ((qou _).trans h1) (by kernel_rfl) fun v objs' hd=>?_
  unfold qb3 at hd;split at hd;(cases hd;exact h2);cases hd
 ·exact ho _ _ _ _ _ h
def qRA:Ex->List V->List Obj->Option (ByteArray×Int×Nat×Nat×LL):=fun e vs objs=>match e,vs,objs with
 | .exit 0,[.s (.str y0),.s (.i .i64 y1),.s (.sl 0 0 y2 true)],[.sli 9 false (.rows [CK.s] y3 y4)]=>some (y0,y1,y2,y3,y4)
 | _,_,_=>none
def qRC:HL:=fun vs objs K=>match vs,objs with
 | [.s (.str x0),.s (.i .i64 x1),.s (.sl 0 0 x2 true),.s (.i .i64 x3)],[.sli 9 false (.rows [CK.s] x4 x5)]=>ob (qHo qD x0 x1 x2 x3 x4 x5) fun z=>K (.exit 0) ([.s (.str (z.1)),.s (.i .i64 (z.2.1)),.s (.sl 0 0 (z.2.2.1) true)]) ([.sli 9 false (.rows [CK.s] (z.2.2.2.1) (z.2.2.2.2))])
 | _,_=>none
def qoF:{R:Type}->Nat->List V->List Obj->(Ex->List V->List Obj->Option R)->Option R:=fun q vs objs K=>bif Nat.beq q 6 then qRC vs objs K else none
def qLq:Ctx:=mkC 50 ((qb4 (qRW qL))) [(6,[0,1,6,7],[0,1,6])] qoF
theorem qbS:CtxOK Tryz.prog qLq:=mkC_ok ((qow _ (qcA _ qN)))
def qRB (f:Nat) (x0:ByteArray) (x1:Int) (x2:Nat) (x3:Int) (x4:Nat) (x5:LL):Option (ByteArray×Int×Nat×Nat×LL):=qi qLq 0 [0,1,6,7] [0,1,6] (qI Tryz.f108 6) f ([.s (.str x0),.s (.i .i64 x1),.s (.sl 0 0 x2 true),.s (.i .i64 x3)]) ([.sli 9 false (.rows [CK.s] x4 x5)]) qRA
theorem qoE (f:Nat) (x0:ByteArray) (x1:Int) (x2:Nat) (x3:Int) (x4:Nat) (x5:LL):qRB (f+1) x0 x1 x2 x3 x4 x5=qbV (qRB f) x0 x1 x2 x3 x4 x5:=by kernel_rfl
theorem qbU:∀ f,qRB f=qHo f
 | 0=>rfl
 | f+1=>by funext x0 x1 x2 x3 x4 x5;rw [qoE,qbU f];rfl
theorem qoH:qe Tryz.prog qLq 0 (qI Tryz.f108 6):=
 qj mixed qbS (qR.of (l':=[]) (by kernel_rfl) trivial) (q:=6) (kin:=[0,1,6,7]) (kout:=[0,1,6]) (by kernel_rfl) (by kernel_rfl) fun vs objs K r h=>by
  replace h:qRC vs objs K=some r:=h
  unfold qRC at h
  split at h
  ·skip
   obtain ⟨t,h1,h2⟩:=qG h
   rw [<- qbU] at h1
   refine ⟨_,qRA,t,qD,h1,fun e vs' objs' hd=>?_⟩
   unfold qRA at hd;split at hd;(cases hd;exact h2);cases hd
  ·cases h
def qbT:V->List Obj->Option (Nat×Nat×LL):=fun v objs=>match v,objs with
 | .s (.sl 0 0 y0 true),[.sli 9 false (.rows [CK.s] y1 y2)]=>some (y0,y1,y2)
 | _,_=>none
theorem qoD (x0:ByteArray) (x1:Int):fnE qLq Tryz.f108 ([.s (.str x0),.s (.i .i64 x1)]) ([]) qbT=qQ9 x0 x1:=by kernel_rfl
def qbR:HA:=fun o vs objs K=>match vs,objs with
 | [.s (.str x0),.s (.i .i64 x1)],[]=>ob (qQ9 x0 x1) fun z=>K false (.s (.sl 0 0 (z.1) true)) ([.sli 9 false (.rows [CK.s] (z.2.1) (z.2.2))])
 | _,_=>o 108 vs objs K
def qbW (o:Orc):Orc:=qM 108 (qbR o) o
theorem qoG:OQ Tryz.prog qbW:=fun _ ho=>qQ ho fun vs objs K r h=>by
 unfold qbR at h
 split at h
 ·skip
  obtain ⟨t,h1,h2⟩:=qG h
  refine qAc mixed qbS (fn:=Tryz.f108) (b:=(Tryz.f108).body.getD .skip) (by kernel_rfl) (by kernel_rfl) (by kernel_rfl) ((qoD _ _).trans h1) (m:=0) rfl (qR.of (l':=[qI Tryz.f108 6]) (by kernel_rfl) ⟨qoH,trivial⟩) fun v objs' hd=>?_
  unfold qbT at hd;split at hd;(cases hd;exact h2);cases hd
 ·exact ho _ _ _ _ _ h
end
end Go.Kk.KkLN
