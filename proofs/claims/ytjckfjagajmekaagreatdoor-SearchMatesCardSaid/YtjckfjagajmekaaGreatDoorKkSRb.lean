/- Printed by a tool of this project (KkGen): the program's functions come to the plain ones. -/
import Derived.Test.YtjckfjagajmekaaGreatDoorKkSR
namespace Go.Kk.KkSR
noncomputable section
open Go.Proofs Go.Kk.Pl
set_option maxRecDepth 100000
set_option maxHeartbeats 4000000
def qRJ:Ex->List V->List Obj->Option (Int×Int×Int×Int):=fun e vs objs=>match e,vs,objs with
 | .exit 0,[.s (.ptr 0 0 none 0),.s (.ptr 1 0 none 0)],[.cells 72 [.one [.i .u64 y0,.i .u64 y1]],.cells 72 [.one [.i .u64 y2,.i .u64 y3]]]=>some (y0,y1,y2,y3)
 | _,_,_=>none
def qRL:HL:=fun vs objs K=>match vs,objs with
 | [.s (.i .i8 x0),.s (.i .i64 x1),.s (.ptr 0 0 none 0),.s (.ptr 1 0 none 0),.s (.sl 2 0 x2 true),.s (.i .i64 x3),.s (.i .i64 x4)],[.cells 72 [.one [.i .u64 x5,.i .u64 x6]],.cells 72 [.one [.i .u64 x7,.i .u64 x8]],.sli 141 false (.rows [.i .i64,.i .i64] x9 x10)]=>ob (qFU qC x0 x1 x2 x3 x4 x5 x6 x7 x8 x9 x10) fun z=>K (.exit 0) ([.s (.ptr 0 0 none 0),.s (.ptr 1 0 none 0)]) ([.cells 72 [.one [.i .u64 (z.1),.i .u64 (z.2.1)]],.cells 72 [.one [.i .u64 (z.2.2.1),.i .u64 (z.2.2.2)]]])
 | _,_=>none
def qoW:{R:Type}->Nat->List V->List Obj->(Ex->List V->List Obj->Option R)->Option R:=fun q vs objs K=>bif Nat.beq q 3 then qRL vs objs K else none
def qL4:Ctx:=mkC 26 ((qEZ (qRF (qRG (qFA (qRH qC (qCs qO))))))) [(3,[0,1,4,5,10,11,12],[4,5])] qoW
theorem qbR:CtxOK Tryz.prog qL4:=mkC_ok ((qFR _ (qbF _ (qbJ _ (qF4 _ (qoP qC _ (qC3 _ qP)))))))
def qRK (f:Nat) (x0 x1:Int) (x2:Nat) (x3 x4:Int) (x5 x6:Int) (x7 x8:Int) (x9:Nat) (x10:LL):Option (Int×Int×Int×Int):=qh qL4 0 [0,1,4,5,10,11,12] [4,5] (qI Tryz.f107 3) f ([.s (.i .i8 x0),.s (.i .i64 x1),.s (.ptr 0 0 none 0),.s (.ptr 1 0 none 0),.s (.sl 2 0 x2 true),.s (.i .i64 x3),.s (.i .i64 x4)]) ([.cells 72 [.one [.i .u64 x5,.i .u64 x6]],.cells 72 [.one [.i .u64 x7,.i .u64 x8]],.sli 141 false (.rows [.i .i64,.i .i64] x9 x10)]) qRJ
theorem qoV (f:Nat) (x0 x1:Int) (x2:Nat) (x3 x4:Int) (x5 x6:Int) (x7 x8:Int) (x9:Nat) (x10:LL):qRK (f+1) x0 x1 x2 x3 x4 x5 x6 x7 x8 x9 x10=qH9 (qRK f) x0 x1 x2 x3 x4 x5 x6 x7 x8 x9 x10:=by kernel_rfl
theorem qbT:∀ f,qRK f=qFU f
 | 0=>rfl
 | f+1=>by funext x0 x1 x2 x3 x4 x5 x6 x7 x8 x9 x10;rw[qoV,qbT f];rfl
theorem qoY:qd Tryz.prog qL4 0 (qI Tryz.f107 3):=
 ql mixed qbR (qT.of (l':=[]) (by kernel_rfl) trivial) (q:=3) (kin:=[0,1,4,5,10,11,12]) (kout:=[4,5]) (by kernel_rfl) (by kernel_rfl) fun vs objs K r h=>by
  replace h:qRL vs objs K=some r:=h
  unfold qRL at h
  split at h
  ·skip
   obtain⟨t,h1,h2⟩:=qG h
   rw[<- qbT] at h1
   refine⟨_,qRJ,t,qC,h1,fun e vs' objs' hd=>?_⟩
   unfold qRJ at hd;split at hd;(cases hd;exact h2);cases hd
  ·cases h
def qbS:V->List Obj->Option (Int×Int):=fun v objs=>match v,objs with
 | .agg [.one [.i .u64 y0,.i .u64 y1]],[]=>some (y0,y1)
 | _,_=>none
theorem qoU (x0 x1:Int):fnE qL4 Tryz.f107 ([.s (.i .i8 x0),.s (.i .i64 x1)]) ([]) qbS=qJX x0 x1:=by kernel_rfl
def qbQ:HA:=fun o vs objs K=>match vs,objs with
 | [.s (.i .i8 x0),.s (.i .i64 x1)],[]=>ob (qJX x0 x1) fun z=>K false (.agg [.one [.i .u64 (z.1),.i .u64 (z.2)]]) ([])
 | _,_=>o 107 vs objs K
def qbU (o:Orc):Orc:=qR 107 (qbQ o) o
theorem qoX:OQ Tryz.prog qbU:=fun _ ho=>qS ho fun vs objs K r h=>by
 unfold qbQ at h
 split at h
 ·skip
  obtain⟨t,h1,h2⟩:=qG h
  refine qAY mixed qbR (fn:=Tryz.f107) (b:=(Tryz.f107).body.getD .skip) (by kernel_rfl) (by kernel_rfl) (by kernel_rfl) ((qoU _ _).trans h1) (m:=0) rfl (qT.of (l':=[qI Tryz.f107 3]) (by kernel_rfl) ⟨qoY,trivial⟩) fun v objs' hd=>?_
  unfold qbS at hd;split at hd;(cases hd;exact h2);cases hd
 ·exact ho _ _ _ _ _ h
def qPL:Ex->List V->List Obj->Option (Int×Int×Int×Int):=fun e vs objs=>match e,vs,objs with
 | .exit 0,[.s (.ptr 0 0 none 0),.s (.ptr 1 0 none 0)],[.cells 72 [.one [.i .u64 y0,.i .u64 y1]],.cells 72 [.one [.i .u64 y2,.i .u64 y3]]]=>some (y0,y1,y2,y3)
 | _,_,_=>none
def qPO:HL:=fun vs objs K=>match vs,objs with
 | [.s (.i .i8 x0),.s (.i .i64 x1),.s (.ptr 0 0 none 0),.s (.ptr 1 0 none 0),.s (.ptr 2 0 none 0),.s (.sl 3 0 x2 true),.s (.i .i64 x3),.s (.i .i64 x4)],[.cells 72 [.one [.i .u64 x5,.i .u64 x6]],.cells 72 [.one [.i .u64 x7,.i .u64 x8]],.cells 72 [.one [.i .u64 x9,.i .u64 x10]],.sli 141 false (.rows [.i .i64,.i .i64] x11 x12)]=>ob (qFE qC x0 x1 x2 x3 x4 x5 x6 x7 x8 x9 x10 x11 x12) fun z=>K (.exit 0) ([.s (.ptr 0 0 none 0),.s (.ptr 1 0 none 0)]) ([.cells 72 [.one [.i .u64 (z.1),.i .u64 (z.2.1)]],.cells 72 [.one [.i .u64 (z.2.2.1),.i .u64 (z.2.2.2)]]])
 | _,_=>none
def qkJ:{R:Type}->Nat->List V->List Obj->(Ex->List V->List Obj->Option R)->Option R:=fun q vs objs K=>bif Nat.beq q 3 then qPO vs objs K else none
def qLG:Ctx:=mkC 32 ((qGM (qPR (qRG (qFA (qPK (qCs (qbU qO)))))))) [(3,[0,1,5,6,7,15,16,17],[6,7])] qkJ
theorem qXS:CtxOK Tryz.prog qLG:=mkC_ok ((qH3 _ (qXZ _ (qbJ _ (qF4 _ (qXQ _ (qC3 _ (qoX _ qP))))))))
def qPM (f:Nat) (x0 x1:Int) (x2:Nat) (x3 x4:Int) (x5 x6:Int) (x7 x8:Int) (x9 x10:Int) (x11:Nat) (x12:LL):Option (Int×Int×Int×Int):=qh qLG 0 [0,1,5,6,7,15,16,17] [6,7] (qI Tryz.f67 3) f ([.s (.i .i8 x0),.s (.i .i64 x1),.s (.ptr 0 0 none 0),.s (.ptr 1 0 none 0),.s (.ptr 2 0 none 0),.s (.sl 3 0 x2 true),.s (.i .i64 x3),.s (.i .i64 x4)]) ([.cells 72 [.one [.i .u64 x5,.i .u64 x6]],.cells 72 [.one [.i .u64 x7,.i .u64 x8]],.cells 72 [.one [.i .u64 x9,.i .u64 x10]],.sli 141 false (.rows [.i .i64,.i .i64] x11 x12)]) qPL
theorem qkI (f:Nat) (x0 x1:Int) (x2:Nat) (x3 x4:Int) (x5 x6:Int) (x7 x8:Int) (x9 x10:Int) (x11:Nat) (x12:LL):qPM (f+1) x0 x1 x2 x3 x4 x5 x6 x7 x8 x9 x10 x11 x12=qHf (qPM f) x0 x1 x2 x3 x4 x5 x6 x7 x8 x9 x10 x11 x12:=by kernel_rfl
theorem qXU:∀ f,qPM f=qFE f
 | 0=>rfl
 | f+1=>by funext x0 x1 x2 x3 x4 x5 x6 x7 x8 x9 x10 x11 x12;rw[qkI,qXU f];rfl
theorem qkK:qd Tryz.prog qLG 0 (qI Tryz.f67 3):=
 ql mixed qXS (qT.of (l':=[]) (by kernel_rfl) trivial) (q:=3) (kin:=[0,1,5,6,7,15,16,17]) (kout:=[6,7]) (by kernel_rfl) (by kernel_rfl) fun vs objs K r h=>by
  replace h:qPO vs objs K=some r:=h
  unfold qPO at h
  split at h
  ·skip
   obtain⟨t,h1,h2⟩:=qG h
   rw[<- qXU] at h1
   refine⟨_,qPL,t,qC,h1,fun e vs' objs' hd=>?_⟩
   unfold qPL at hd;split at hd;(cases hd;exact h2);cases hd
  ·cases h
def qXT:V->List Obj->Option (Int×Int):=fun v objs=>match v,objs with
 | .agg [.one [.i .u64 y0,.i .u64 y1]],[]=>some (y0,y1)
 | _,_=>none
theorem qkH (x0 x1:Int) (x2 x3:Int):fnE qLG Tryz.f67 ([.s (.i .i8 x0),.s (.i .i64 x1),.agg [.one [.i .u64 x2,.i .u64 x3]]]) ([]) qXT=qFD x0 x1 x2 x3:=by kernel_rfl
def qXR:HA:=fun o vs objs K=>match vs,objs with
 | [.s (.i .i8 x0),.s (.i .i64 x1),.agg [.one [.i .u64 x2,.i .u64 x3]]],[]=>ob (qFD x0 x1 x2 x3) fun z=>K false (.agg [.one [.i .u64 (z.1),.i .u64 (z.2)]]) ([])
 | _,_=>o 67 vs objs K
def qLH (o:Orc):Orc:=qR 67 (qXR o) o
theorem qPN:OQ Tryz.prog qLH:=fun _ ho=>qS ho fun vs objs K r h=>by
 unfold qXR at h
 split at h
 ·skip
  obtain⟨t,h1,h2⟩:=qG h
  refine qAY mixed qXS (fn:=Tryz.f67) (b:=(Tryz.f67).body.getD .skip) (by kernel_rfl) (by kernel_rfl) (by kernel_rfl) ((qkH _ _ _ _).trans h1) (m:=0) rfl (qT.of (l':=[qI Tryz.f67 3]) (by kernel_rfl) ⟨qkK,trivial⟩) fun v objs' hd=>?_
  unfold qXT at hd;split at hd;(cases hd;exact h2);cases hd
 ·exact ho _ _ _ _ _ h
def qMc:Ex->List V->List Obj->Option (Int×Int×Nat×Int×Int×LI×LI×Int×LL×LL×List (LI×LI)×Nat×LI):=fun e vs objs=>match e,vs,objs with
 | .exit 2,[.s (.ptr 0 0 none 0),.s (.i .i64 y0),.s (.mp 1),.s (.i .i64 y1),.s (.sl 2 0 y2 true),.s (.i .i64 y3),.s (.i .i64 y4)],[.rcells 84 [.arr .i8 81 y5,.arr .i8 16 y6,.one [.i .i8 y7],.rows [.i .u64,.i .u64] 32 y8,.rows [.i .u64,.i .u64] 2 y9],.map false true [.i .i64] [.i .u64,.i .u64] y10,.sli 3 false (.arr .i64 y11 y12)]=>some (y0,y1,y2,y3,y4,y5,y6,y7,y8,y9,y10,y11,y12)
 | _,_,_=>none
def qMa:Ex->List V->List Obj->Option (LI×LI×Int×LL×LL×List (LI×LI)):=fun e vs objs=>match e,vs,objs with
 | .exit 0,[.s (.mp 1)],[.rcells 84 [.arr .i8 81 y0,.arr .i8 16 y1,.one [.i .i8 y2],.rows [.i .u64,.i .u64] 32 y3,.rows [.i .u64,.i .u64] 2 y4],.map false true [.i .i64] [.i .u64,.i .u64] y5]=>some (y0,y1,y2,y3,y4,y5)
 | _,_,_=>none
def qMf:HL:=fun vs objs K=>match vs,objs with
 | [.s (.ptr 0 0 none 0),.s (.i .i64 x0),.s (.mp 1),.s (.i .i64 x1),.s (.sl 2 0 x2 true),.s (.i .i64 x3),.s (.i .i64 x4),.s (.sl 3 0 x5 true),.s (.i .i64 x6),.s (.i .i64 x7)],[.rcells 84 [.arr .i8 81 x8,.arr .i8 16 x9,.one [.i .i8 x10],.rows [.i .u64,.i .u64] 32 x11,.rows [.i .u64,.i .u64] 2 x12],.map false true [.i .i64] [.i .u64,.i .u64] x13,.sli 3 false (.arr .i64 x14 x15),.sli 3 false (.arr .i64 x16 x17)]=>ob (qEm qC x0 x1 x2 x3 x4 x5 x6 x7 x8 x9 x10 x11 x12 x13 x14 x15 x16 x17) fun z=>K (.exit 2) ([.s (.ptr 0 0 none 0),.s (.i .i64 (z.1)),.s (.mp 1),.s (.i .i64 (z.2.1)),.s (.sl 2 0 (z.2.2.1) true),.s (.i .i64 (z.2.2.2.1)),.s (.i .i64 (z.2.2.2.2.1))]) ([.rcells 84 [.arr .i8 81 (z.2.2.2.2.2.1),.arr .i8 16 (z.2.2.2.2.2.2.1),.one [.i .i8 (z.2.2.2.2.2.2.2.1)],.rows [.i .u64,.i .u64] 32 (z.2.2.2.2.2.2.2.2.1),.rows [.i .u64,.i .u64] 2 (z.2.2.2.2.2.2.2.2.2.1)],.map false true [.i .i64] [.i .u64,.i .u64] (z.2.2.2.2.2.2.2.2.2.2.1),.sli 3 false (.arr .i64 (z.2.2.2.2.2.2.2.2.2.2.2.1) (z.2.2.2.2.2.2.2.2.2.2.2.2))])
 | _,_=>none
def qMe:HL:=fun vs objs K=>match vs,objs with
 | [.s (.ptr 0 0 none 0),.s (.i .i64 x0),.s (.mp 1),.s (.i .i64 x1),.s (.sl 2 0 x2 true),.s (.i .i64 x3),.s (.i .i64 x4)],[.rcells 84 [.arr .i8 81 x5,.arr .i8 16 x6,.one [.i .i8 x7],.rows [.i .u64,.i .u64] 32 x8,.rows [.i .u64,.i .u64] 2 x9],.map false true [.i .i64] [.i .u64,.i .u64] x10,.sli 3 false (.arr .i64 x11 x12)]=>ob (qEl qC x0 x1 x2 x3 x4 x5 x6 x7 x8 x9 x10 x11 x12) fun z=>K (.exit 0) ([.s (.mp 1)]) ([.rcells 84 [.arr .i8 81 (z.1),.arr .i8 16 (z.2.1),.one [.i .i8 (z.2.2.1)],.rows [.i .u64,.i .u64] 32 (z.2.2.2.1),.rows [.i .u64,.i .u64] 2 (z.2.2.2.2.1)],.map false true [.i .i64] [.i .u64,.i .u64] (z.2.2.2.2.2)])
 | _,_=>none
def qdO:{R:Type}->Nat->List V->List Obj->(Ex->List V->List Obj->Option R)->Option R:=fun q vs objs K=>bif Nat.beq q 9 then qMf vs objs K else bif Nat.beq q 6 then qMe vs objs K else none
def qGk:Ctx:=mkC 89 ((qEZ (qGL (qLH (qJU (qFl (qLl (qJQ (qMx (qQj (qGJ (qGp (qPI (qJT (qGo (qJx qO)))))))))))))))) [(6,[0,1,5,6,21,22,23],[5]),(9,[0,1,5,6,21,22,23,32,33,34],[0,1,5,6,21,22,23])] qdO
theorem qMZ:CtxOK Tryz.prog qGk:=mkC_ok ((qFR _ (qH0 _ (qPN _ (qLu _ (qGn _ (qQl _ (qLj _ (qSz _ (qZy _ (qHy _ (qIS _ (qXM _ (qLt _ (qIR _ (qMs _ qP))))))))))))))))
def qMd (f:Nat) (x0 x1:Int) (x2:Nat) (x3 x4:Int) (x5:Nat) (x6 x7:Int) (x8 x9:LI) (x10:Int) (x11 x12:LL) (x13:List (LI×LI)) (x14:Nat) (x15:LI) (x16:Nat) (x17:LI):Option (Int×Int×Nat×Int×Int×LI×LI×Int×LL×LL×List (LI×LI)×Nat×LI):=qh qGk 1 [0,1,5,6,21,22,23,32,33,34] [0,1,5,6,21,22,23] (qI Tryz.f57 9) f ([.s (.ptr 0 0 none 0),.s (.i .i64 x0),.s (.mp 1),.s (.i .i64 x1),.s (.sl 2 0 x2 true),.s (.i .i64 x3),.s (.i .i64 x4),.s (.sl 3 0 x5 true),.s (.i .i64 x6),.s (.i .i64 x7)]) ([.rcells 84 [.arr .i8 81 x8,.arr .i8 16 x9,.one [.i .i8 x10],.rows [.i .u64,.i .u64] 32 x11,.rows [.i .u64,.i .u64] 2 x12],.map false true [.i .i64] [.i .u64,.i .u64] x13,.sli 3 false (.arr .i64 x14 x15),.sli 3 false (.arr .i64 x16 x17)]) qMc
theorem qdN (f:Nat) (x0 x1:Int) (x2:Nat) (x3 x4:Int) (x5:Nat) (x6 x7:Int) (x8 x9:LI) (x10:Int) (x11 x12:LL) (x13:List (LI×LI)) (x14:Nat) (x15:LI) (x16:Nat) (x17:LI):qMd (f+1) x0 x1 x2 x3 x4 x5 x6 x7 x8 x9 x10 x11 x12 x13 x14 x15 x16 x17=qFh (qMd f) x0 x1 x2 x3 x4 x5 x6 x7 x8 x9 x10 x11 x12 x13 x14 x15 x16 x17:=by kernel_rfl
theorem qSN:∀ f,qMd f=qEm f
 | 0=>rfl
 | f+1=>by funext x0 x1 x2 x3 x4 x5 x6 x7 x8 x9 x10 x11 x12 x13 x14 x15 x16 x17;rw[qdN,qSN f];rfl
def qMb (f:Nat) (x0 x1:Int) (x2:Nat) (x3 x4:Int) (x5 x6:LI) (x7:Int) (x8 x9:LL) (x10:List (LI×LI)) (x11:Nat) (x12:LI):Option (LI×LI×Int×LL×LL×List (LI×LI)):=qh qGk 1 [0,1,5,6,21,22,23] [5] (qI Tryz.f57 6) f ([.s (.ptr 0 0 none 0),.s (.i .i64 x0),.s (.mp 1),.s (.i .i64 x1),.s (.sl 2 0 x2 true),.s (.i .i64 x3),.s (.i .i64 x4)]) ([.rcells 84 [.arr .i8 81 x5,.arr .i8 16 x6,.one [.i .i8 x7],.rows [.i .u64,.i .u64] 32 x8,.rows [.i .u64,.i .u64] 2 x9],.map false true [.i .i64] [.i .u64,.i .u64] x10,.sli 3 false (.arr .i64 x11 x12)]) qMa
theorem qdM (f:Nat) (x0 x1:Int) (x2:Nat) (x3 x4:Int) (x5 x6:LI) (x7:Int) (x8 x9:LL) (x10:List (LI×LI)) (x11:Nat) (x12:LI):qMb (f+1) x0 x1 x2 x3 x4 x5 x6 x7 x8 x9 x10 x11 x12=qGl (qMb f) x0 x1 x2 x3 x4 x5 x6 x7 x8 x9 x10 x11 x12:=by kernel_rfl
theorem qSM:∀ f,qMb f=qEl f
 | 0=>rfl
 | f+1=>by funext x0 x1 x2 x3 x4 x5 x6 x7 x8 x9 x10 x11 x12;rw[qdM,qSM f];rfl
theorem qdR:qd Tryz.prog qGk 1 (qI Tryz.f57 9):=
 ql mixed qMZ (qT.of (l':=[]) (by kernel_rfl) trivial) (q:=9) (kin:=[0,1,5,6,21,22,23,32,33,34]) (kout:=[0,1,5,6,21,22,23]) (by kernel_rfl) (by kernel_rfl) fun vs objs K r h=>by
  replace h:qMf vs objs K=some r:=h
  unfold qMf at h
  split at h
  ·skip
   obtain⟨t,h1,h2⟩:=qG h
   rw[<- qSN] at h1
   refine⟨_,qMc,t,qC,h1,fun e vs' objs' hd=>?_⟩
   unfold qMc at hd;split at hd;(cases hd;exact h2);cases hd
  ·cases h
theorem qdQ:qd Tryz.prog qGk 1 (qI Tryz.f57 6):=
 ql mixed qMZ (qT.of (l':=[qI Tryz.f57 9]) (by kernel_rfl) ⟨qdR,trivial⟩) (q:=6) (kin:=[0,1,5,6,21,22,23]) (kout:=[5]) (by kernel_rfl) (by kernel_rfl) fun vs objs K r h=>by
  replace h:qMe vs objs K=some r:=h
  unfold qMe at h
  split at h
  ·skip
   obtain⟨t,h1,h2⟩:=qG h
   rw[<- qSM] at h1
   refine⟨_,qMa,t,qC,h1,fun e vs' objs' hd=>?_⟩
   unfold qMa at hd;split at hd;(cases hd;exact h2);cases hd
  ·cases h
def qSL:V->List Obj->Option (List (LI×LI)):=fun v objs=>match v,objs with
 | .s (.mp 1),[.map false true [.i .i64] [.i .u64,.i .u64] y0]=>some (y0)
 | _,_=>none
theorem qdL (x0:Int) (x1 x2:LI) (x3:Int) (x4 x5:LL):fnE qGk Tryz.f57 ([.s (.ptr 0 0 none 0),.s (.i .i64 x0)]) ([.rcells 84 [.arr .i8 81 x1,.arr .i8 16 x2,.one [.i .i8 x3],.rows [.i .u64,.i .u64] 32 x4,.rows [.i .u64,.i .u64] 2 x5]]) (qAo 1 qSL)=qGj x0 x1 x2 x3 x4 x5:=by kernel_rfl
def qSK:HA:=fun o vs objs K=>match vs,List.map Obj.toRO objs with
 | [.s (.ptr 0 0 none 0),.s (.i .i64 x0)],[.rcells 84 [.arr .i8 81 x1,.arr .i8 16 x2,.one [.i .i8 x3],.rows [.i .u64,.i .u64] 32 x4,.rows [.i .u64,.i .u64] 2 x5]]=>ob (qGj x0 x1 x2 x3 x4 x5) fun y0=>K true (.s (.mp 1)) ([.map false true [.i .i64] [.i .u64,.i .u64] y0])
 | _,_=>o 57 vs objs K
def qSO (o:Orc):Orc:=qR 57 (qSK o) o
theorem qdP:OQ Tryz.prog qSO:=fun _ ho=>qS ho fun vs objs K r h=>by
 unfold qSK at h
 split at h
 ·skip
  have hq:List.map Obj.toRO objs=_:=(by rename_i hq;first | exact hq | assumption)
  obtain⟨t,h1,h2⟩:=qG h
  refine qA5 mixed qMZ (m:=1) (fn:=Tryz.f57) (b:=(Tryz.f57).body.getD .skip) (by kernel_rfl) (by kernel_rfl) (by kernel_rfl) hq (by kernel_rfl) (by kernel_rfl) (qT.of (l':=[qI Tryz.f57 6]) (by kernel_rfl) ⟨qdQ,trivial⟩) ((qdL _ _ _ _ _ _).trans h1) fun v objs' hd=>?_
  unfold qSL at hd;split at hd;(cases hd;exact h2);cases hd
 ·exact ho _ _ _ _ _ h
def qMV:Ex->List V->List Obj->Option (LI×LI×Int×LL×LL×Int×Int×Int×Int):=fun e vs objs=>match e,vs,objs with
 | .exit 0,[.s (.ptr 1 0 none 0),.s (.ptr 2 0 none 0)],[.rcells 84 [.arr .i8 81 y0,.arr .i8 16 y1,.one [.i .i8 y2],.rows [.i .u64,.i .u64] 32 y3,.rows [.i .u64,.i .u64] 2 y4],.cells 72 [.one [.i .u64 y5,.i .u64 y6]],.cells 72 [.one [.i .u64 y7,.i .u64 y8]]]=>some (y0,y1,y2,y3,y4,y5,y6,y7,y8)
 | _,_,_=>none
def qMY:HL:=fun vs objs K=>match vs,objs with
 | [.s (.ptr 0 0 none 0),.s (.i .i64 x0),.s (.i .i64 x1),.s (.ptr 1 0 none 0),.s (.ptr 2 0 none 0),.s (.ptr 3 0 none 0),.s (.i .i64 x2)],[.rcells 84 [.arr .i8 81 x3,.arr .i8 16 x4,.one [.i .i8 x5],.rows [.i .u64,.i .u64] 32 x6,.rows [.i .u64,.i .u64] 2 x7],.cells 72 [.one [.i .u64 x8,.i .u64 x9]],.cells 72 [.one [.i .u64 x10,.i .u64 x11]],.cells 72 [.one [.i .u64 x12,.i .u64 x13]]]=>ob (qD3 qC x0 x1 x2 x3 x4 x5 x6 x7 x8 x9 x10 x11 x12 x13) fun z=>K (.exit 0) ([.s (.ptr 1 0 none 0),.s (.ptr 2 0 none 0)]) ([.rcells 84 [.arr .i8 81 (z.1),.arr .i8 16 (z.2.1),.one [.i .i8 (z.2.2.1)],.rows [.i .u64,.i .u64] 32 (z.2.2.2.1),.rows [.i .u64,.i .u64] 2 (z.2.2.2.2.1)],.cells 72 [.one [.i .u64 (z.2.2.2.2.2.1),.i .u64 (z.2.2.2.2.2.2.1)]],.cells 72 [.one [.i .u64 (z.2.2.2.2.2.2.2.1),.i .u64 (z.2.2.2.2.2.2.2.2)]]])
 | _,_=>none
def qdJ:{R:Type}->Nat->List V->List Obj->(Ex->List V->List Obj->Option R)->Option R:=fun q vs objs K=>bif Nat.beq q 5 then qMY vs objs K else none
def qJr:Ctx:=mkC 49 ((qGM (qGJ (qGo (qLH (qF3 qO)))))) [(5,[0,1,2,7,8,9,10],[8,9])] qdJ
theorem qSG:CtxOK Tryz.prog qJr:=mkC_ok ((qH3 _ (qHy _ (qIR _ (qPN _ (qHZ _ qP))))))
def qMW (f:Nat) (x0 x1 x2:Int) (x3 x4:LI) (x5:Int) (x6 x7:LL) (x8 x9:Int) (x10 x11:Int) (x12 x13:Int):Option (LI×LI×Int×LL×LL×Int×Int×Int×Int):=qh qJr 1 [0,1,2,7,8,9,10] [8,9] (qI Tryz.f72 5) f ([.s (.ptr 0 0 none 0),.s (.i .i64 x0),.s (.i .i64 x1),.s (.ptr 1 0 none 0),.s (.ptr 2 0 none 0),.s (.ptr 3 0 none 0),.s (.i .i64 x2)]) ([.rcells 84 [.arr .i8 81 x3,.arr .i8 16 x4,.one [.i .i8 x5],.rows [.i .u64,.i .u64] 32 x6,.rows [.i .u64,.i .u64] 2 x7],.cells 72 [.one [.i .u64 x8,.i .u64 x9]],.cells 72 [.one [.i .u64 x10,.i .u64 x11]],.cells 72 [.one [.i .u64 x12,.i .u64 x13]]]) qMV
theorem qdI (f:Nat) (x0 x1 x2:Int) (x3 x4:LI) (x5:Int) (x6 x7:LL) (x8 x9:Int) (x10 x11:Int) (x12 x13:Int):qMW (f+1) x0 x1 x2 x3 x4 x5 x6 x7 x8 x9 x10 x11 x12 x13=qGi (qMW f) x0 x1 x2 x3 x4 x5 x6 x7 x8 x9 x10 x11 x12 x13:=by kernel_rfl
theorem qSI:∀ f,qMW f=qD3 f
 | 0=>rfl
 | f+1=>by funext x0 x1 x2 x3 x4 x5 x6 x7 x8 x9 x10 x11 x12 x13;rw[qdI,qSI f];rfl
theorem qdK:qd Tryz.prog qJr 1 (qI Tryz.f72 5):=
 ql mixed qSG (qT.of (l':=[]) (by kernel_rfl) trivial) (q:=5) (kin:=[0,1,2,7,8,9,10]) (kout:=[8,9]) (by kernel_rfl) (by kernel_rfl) fun vs objs K r h=>by
  replace h:qMY vs objs K=some r:=h
  unfold qMY at h
  split at h
  ·skip
   obtain⟨t,h1,h2⟩:=qG h
   rw[<- qSI] at h1
   refine⟨_,qMV,t,qC,h1,fun e vs' objs' hd=>?_⟩
   unfold qMV at hd;split at hd;(cases hd;exact h2);cases hd
  ·cases h
def qSH:V->List Obj->Option (Int×Int):=fun v objs=>match v,objs with
 | .agg [.one [.i .u64 y0,.i .u64 y1]],[]=>some (y0,y1)
 | _,_=>none
theorem qdH (x0 x1:Int) (x2 x3:Int) (x4 x5:LI) (x6:Int) (x7 x8:LL):fnE qJr Tryz.f72 ([.s (.ptr 0 0 none 0),.s (.i .i64 x0),.s (.i .i64 x1),.agg [.one [.i .u64 x2,.i .u64 x3]]]) ([.rcells 84 [.arr .i8 81 x4,.arr .i8 16 x5,.one [.i .i8 x6],.rows [.i .u64,.i .u64] 32 x7,.rows [.i .u64,.i .u64] 2 x8]]) (qAo 1 qSH)=qGh x0 x1 x2 x3 x4 x5 x6 x7 x8:=by kernel_rfl
def qSF:HA:=fun o vs objs K=>match vs,List.map Obj.toRO objs with
 | [.s (.ptr 0 0 none 0),.s (.i .i64 x0),.s (.i .i64 x1),.agg [.one [.i .u64 x2,.i .u64 x3]]],[.rcells 84 [.arr .i8 81 x4,.arr .i8 16 x5,.one [.i .i8 x6],.rows [.i .u64,.i .u64] 32 x7,.rows [.i .u64,.i .u64] 2 x8]]=>ob (qGh x0 x1 x2 x3 x4 x5 x6 x7 x8) fun z=>K true (.agg [.one [.i .u64 (z.1),.i .u64 (z.2)]]) ([])
 | _,_=>o 72 vs objs K
def qMX (o:Orc):Orc:=qR 72 (qSF o) o
theorem qSJ:OQ Tryz.prog qMX:=fun _ ho=>qS ho fun vs objs K r h=>by
 unfold qSF at h
 split at h
 ·skip
  have hq:List.map Obj.toRO objs=_:=(by rename_i hq;first | exact hq | assumption)
  obtain⟨t,h1,h2⟩:=qG h
  refine qA5 mixed qSG (m:=1) (fn:=Tryz.f72) (b:=(Tryz.f72).body.getD .skip) (by kernel_rfl) (by kernel_rfl) (by kernel_rfl) hq (by kernel_rfl) (by kernel_rfl) (qT.of (l':=[qI Tryz.f72 5]) (by kernel_rfl) ⟨qdK,trivial⟩) ((qdH _ _ _ _ _ _ _ _ _).trans h1) fun v objs' hd=>?_
  unfold qSH at hd;split at hd;(cases hd;exact h2);cases hd
 ·exact ho _ _ _ _ _ h
def qSC:Ctx:=mkC 14 ((qMX (qGp (qJx qO)))) [] qW
theorem qdG:CtxOK Tryz.prog qSC:=mkC_ok ((qSJ _ (qIS _ (qMs _ qP))))
def qSD:V->List Obj->Option (Int×Int):=fun v objs=>match v,objs with
 | .agg [.one [.i .u64 y0,.i .u64 y1]],[]=>some (y0,y1)
 | _,_=>none
theorem qdF (x0:Int) (x1 x2:LI) (x3:Int) (x4 x5:LL):fnE qSC Tryz.f58 ([.s (.ptr 0 0 none 0),.s (.i .i64 x0)]) ([.rcells 84 [.arr .i8 81 x1,.arr .i8 16 x2,.one [.i .i8 x3],.rows [.i .u64,.i .u64] 32 x4,.rows [.i .u64,.i .u64] 2 x5]]) (qAo 1 qSD)=qGg x0 x1 x2 x3 x4 x5:=by kernel_rfl
def qSB:HA:=fun o vs objs K=>match vs,List.map Obj.toRO objs with
 | [.s (.ptr 0 0 none 0),.s (.i .i64 x0)],[.rcells 84 [.arr .i8 81 x1,.arr .i8 16 x2,.one [.i .i8 x3],.rows [.i .u64,.i .u64] 32 x4,.rows [.i .u64,.i .u64] 2 x5]]=>ob (qGg x0 x1 x2 x3 x4 x5) fun z=>K true (.agg [.one [.i .u64 (z.1),.i .u64 (z.2)]]) ([])
 | _,_=>o 58 vs objs K
def qMU (o:Orc):Orc:=qR 58 (qSB o) o
theorem qSE:OQ Tryz.prog qMU:=fun _ ho=>qS ho fun vs objs K r h=>by
 unfold qSB at h
 split at h
 ·skip
  have hq:List.map Obj.toRO objs=_:=(by rename_i hq;first | exact hq | assumption)
  obtain⟨t,h1,h2⟩:=qG h
  refine qA5 mixed qdG (m:=1) (fn:=Tryz.f58) (b:=(Tryz.f58).body.getD .skip) (by kernel_rfl) (by kernel_rfl) (by kernel_rfl) hq (by kernel_rfl) (by kernel_rfl) (qT.of (l':=[]) (by kernel_rfl) trivial) ((qdF _ _ _ _ _ _).trans h1) fun v objs' hd=>?_
  unfold qSD at hd;split at hd;(cases hd;exact h2);cases hd
 ·exact ho _ _ _ _ _ h
def qVr:Ctx:=mkC 44 ((qGM (qPI (qLl (qQj (qMU (qSO (qJP (qJx qO))))))))) [] qW
theorem qhd:CtxOK Tryz.prog qVr:=mkC_ok ((qH3 _ (qXM _ (qQl _ (qZy _ (qSE _ (qdP _ (qLi _ (qMs _ qP)))))))))
def qVs:V->List Obj->Option (Int×Int×Int×Int×Bool×List (LI×LI)):=fun v objs=>match v,objs with
 | .agg [.one [.ptr 0 0 none 0,.i .i64 y0,.i .i64 y1,.i .u64 y2,.i .u64 y3,.mp 1,.b y4]],[.map false true [.i .i64] [.i .u64,.i .u64] y5]=>some (y0,y1,y2,y3,y4,y5)
 | _,_=>none
theorem qhc (x0 x1:LI) (x2:Int) (x3 x4:LL):fnE qVr Tryz.f27 ([.s (.ptr 0 0 none 0)]) ([.rcells 84 [.arr .i8 81 x0,.arr .i8 16 x1,.one [.i .i8 x2],.rows [.i .u64,.i .u64] 32 x3,.rows [.i .u64,.i .u64] 2 x4]]) (qAo 1 qVs)=qHN x0 x1 x2 x3 x4:=by kernel_rfl
def qVq:HA:=fun o vs objs K=>match vs,List.map Obj.toRO objs with
 | [.s (.ptr 0 0 none 0)],[.rcells 84 [.arr .i8 81 x0,.arr .i8 16 x1,.one [.i .i8 x2],.rows [.i .u64,.i .u64] 32 x3,.rows [.i .u64,.i .u64] 2 x4]]=>ob (qHN x0 x1 x2 x3 x4) fun z=>K true (.agg [.one [.ptr 0 0 none 0,.i .i64 (z.1),.i .i64 (z.2.1),.i .u64 (z.2.2.1),.i .u64 (z.2.2.2.1),.mp 1,.b (z.2.2.2.2.1)]]) ([.map false true [.i .i64] [.i .u64,.i .u64] (z.2.2.2.2.2)])
 | _,_=>o 27 vs objs K
def qOU (o:Orc):Orc:=qR 27 (qVq o) o
theorem qVt:OQ Tryz.prog qOU:=fun _ ho=>qS ho fun vs objs K r h=>by
 unfold qVq at h
 split at h
 ·skip
  have hq:List.map Obj.toRO objs=_:=(by rename_i hq;first | exact hq | assumption)
  obtain⟨t,h1,h2⟩:=qG h
  refine qA5 mixed qhd (m:=1) (fn:=Tryz.f27) (b:=(Tryz.f27).body.getD .skip) (by kernel_rfl) (by kernel_rfl) (by kernel_rfl) hq (by kernel_rfl) (by kernel_rfl) (qT.of (l':=[]) (by kernel_rfl) trivial) ((qhc _ _ _ _ _).trans h1) fun v objs' hd=>?_
  unfold qVs at hd;split at hd;(cases hd;exact h2);cases hd
 ·exact ho _ _ _ _ _ h
def qW5:Ctx:=mkC 13 (qO) [] qW
theorem qjr:CtxOK Tryz.prog qW5:=mkC_ok (qP)
def qW6:V->List Obj->Option (Int):=fun v objs=>match v,objs with
 | .s (.i .i64 y0),[]=>some (y0)
 | _,_=>none
theorem qjq (x0:Int):fnE qW5 Tryz.f86 ([.s (.i .i64 x0)]) ([]) qW6=qCW x0:=by kernel_rfl
def qW4:HA:=fun o vs objs K=>match vs,objs with
 | [.s (.i .i64 x0)],[]=>ob (qCW x0) fun y0=>K false (.s (.i .i64 y0)) ([])
 | _,_=>o 86 vs objs K
def qK7 (o:Orc):Orc:=qR 86 (qW4 o) o
theorem qO5:OQ Tryz.prog qK7:=fun _ ho=>qS ho fun vs objs K r h=>by
 unfold qW4 at h
 split at h
 ·skip
  obtain⟨t,h1,h2⟩:=qG h
  refine qa mixed qjr ((qjq _).trans h1) (by kernel_rfl) fun v objs' hd=>?_
  unfold qW6 at hd;split at hd;(cases hd;exact h2);cases hd
 ·exact ho _ _ _ _ _ h
def qbN:Ctx:=mkC 23 ((qLq qO)) [] qW
theorem qoT:CtxOK Tryz.prog qbN:=mkC_ok ((qQt _ qP))
def qbO:V->List Obj->Option (Int):=fun v objs=>match v,objs with
 | .s (.i .i64 y0),[]=>some (y0)
 | _,_=>none
theorem qoS (x0 x1:Int):fnE qbN Tryz.f123 ([.s (.i .i64 x0),.s (.i .i64 x1)]) ([]) qbO=qFT x0 x1:=by kernel_rfl
def qbM:HA:=fun o vs objs K=>match vs,objs with
 | [.s (.i .i64 x0),.s (.i .i64 x1)],[]=>ob (qFT x0 x1) fun y0=>K false (.s (.i .i64 y0)) ([])
 | _,_=>o 123 vs objs K
def qRI (o:Orc):Orc:=qR 123 (qbM o) o
theorem qbP:OQ Tryz.prog qRI:=fun _ ho=>qS ho fun vs objs K r h=>by
 unfold qbM at h
 split at h
 ·skip
  obtain⟨t,h1,h2⟩:=qG h
  refine qa mixed qoT ((qoS _ _).trans h1) (by kernel_rfl) fun v objs' hd=>?_
  unfold qbO at hd;split at hd;(cases hd;exact h2);cases hd
 ·exact ho _ _ _ _ _ h
def qRM:Ex->List V->List Obj->Option (Int×Int×Int×Int):=fun e vs objs=>match e,vs,objs with
 | .exit 0,[.s (.ptr 0 0 none 0),.s (.ptr 1 0 none 0)],[.cells 72 [.one [.i .u64 y0,.i .u64 y1]],.cells 72 [.one [.i .u64 y2,.i .u64 y3]]]=>some (y0,y1,y2,y3)
 | _,_,_=>none
def qRO:HL:=fun vs objs K=>match vs,objs with
 | [.s (.i .i64 x0),.s (.ptr 0 0 none 0),.s (.ptr 1 0 none 0),.s (.i .i64 x1)],[.cells 72 [.one [.i .u64 x2,.i .u64 x3]],.cells 72 [.one [.i .u64 x4,.i .u64 x5]]]=>ob (qL6 qC x0 x1 x2 x3 x4 x5) fun z=>K (.exit 0) ([.s (.ptr 0 0 none 0),.s (.ptr 1 0 none 0)]) ([.cells 72 [.one [.i .u64 (z.1),.i .u64 (z.2.1)]],.cells 72 [.one [.i .u64 (z.2.2.1),.i .u64 (z.2.2.2)]]])
 | _,_=>none
def qob:{R:Type}->Nat->List V->List Obj->(Ex->List V->List Obj->Option R)->Option R:=fun q vs objs K=>bif Nat.beq q 3 then qRO vs objs K else none
def qL5:Ctx:=mkC 23 ((qEZ (qRI qO))) [(3,[0,2,3,6],[2,3])] qob
theorem qbW:CtxOK Tryz.prog qL5:=mkC_ok ((qFR _ (qbP _ qP)))
def qRN (f:Nat) (x0 x1:Int) (x2 x3:Int) (x4 x5:Int):Option (Int×Int×Int×Int):=qh qL5 0 [0,2,3,6] [2,3] (qI Tryz.f109 3) f ([.s (.i .i64 x0),.s (.ptr 0 0 none 0),.s (.ptr 1 0 none 0),.s (.i .i64 x1)]) ([.cells 72 [.one [.i .u64 x2,.i .u64 x3]],.cells 72 [.one [.i .u64 x4,.i .u64 x5]]]) qRM
theorem qoa (f:Nat) (x0 x1:Int) (x2 x3:Int) (x4 x5:Int):qRN (f+1) x0 x1 x2 x3 x4 x5=qbZ (qRN f) x0 x1 x2 x3 x4 x5:=by kernel_rfl
theorem qbY:∀ f,qRN f=qL6 f
 | 0=>rfl
 | f+1=>by funext x0 x1 x2 x3 x4 x5;rw[qoa,qbY f];rfl
theorem qod:qd Tryz.prog qL5 0 (qI Tryz.f109 3):=
 ql mixed qbW (qT.of (l':=[]) (by kernel_rfl) trivial) (q:=3) (kin:=[0,2,3,6]) (kout:=[2,3]) (by kernel_rfl) (by kernel_rfl) fun vs objs K r h=>by
  replace h:qRO vs objs K=some r:=h
  unfold qRO at h
  split at h
  ·skip
   obtain⟨t,h1,h2⟩:=qG h
   rw[<- qbY] at h1
   refine⟨_,qRM,t,qC,h1,fun e vs' objs' hd=>?_⟩
   unfold qRM at hd;split at hd;(cases hd;exact h2);cases hd
  ·cases h
def qbX:V->List Obj->Option (Int×Int):=fun v objs=>match v,objs with
 | .agg [.one [.i .u64 y0,.i .u64 y1]],[]=>some (y0,y1)
 | _,_=>none
theorem qoZ (x0:Int):fnE qL5 Tryz.f109 ([.s (.i .i64 x0)]) ([]) qbX=qJY x0:=by kernel_rfl
def qbV:HA:=fun o vs objs K=>match vs,objs with
 | [.s (.i .i64 x0)],[]=>ob (qJY x0) fun z=>K false (.agg [.one [.i .u64 (z.1),.i .u64 (z.2)]]) ([])
 | _,_=>o 109 vs objs K
def qba (o:Orc):Orc:=qR 109 (qbV o) o
theorem qoc:OQ Tryz.prog qba:=fun _ ho=>qS ho fun vs objs K r h=>by
 unfold qbV at h
 split at h
 ·skip
  obtain⟨t,h1,h2⟩:=qG h
  refine qAY mixed qbW (fn:=Tryz.f109) (b:=(Tryz.f109).body.getD .skip) (by kernel_rfl) (by kernel_rfl) (by kernel_rfl) ((qoZ _).trans h1) (m:=0) rfl (qT.of (l':=[qI Tryz.f109 3]) (by kernel_rfl) ⟨qod,trivial⟩) fun v objs' hd=>?_
  unfold qbX at hd;split at hd;(cases hd;exact h2);cases hd
 ·exact ho _ _ _ _ _ h
def qa9:Ctx:=mkC 25 ((qCs (qRI (qFA qO)))) [] qW
theorem qoI:CtxOK Tryz.prog qa9:=mkC_ok ((qC3 _ (qbP _ (qF4 _ qP))))
def qbA:V->List Obj->Option (Bool):=fun v objs=>match v,objs with
 | .s (.b y0),[]=>some (y0)
 | _,_=>none
theorem qoH (x0 x1:Int):fnE qa9 Tryz.f110 ([.s (.i .i8 x0),.s (.i .i64 x1)]) ([]) qbA=qEb x0 x1:=by kernel_rfl
def qa8:HA:=fun o vs objs K=>match vs,objs with
 | [.s (.i .i8 x0),.s (.i .i64 x1)],[]=>ob (qEb x0 x1) fun y0=>K false (.s (.b y0)) ([])
 | _,_=>o 110 vs objs K
def qRE (o:Orc):Orc:=qR 110 (qa8 o) o
theorem qbB:OQ Tryz.prog qRE:=fun _ ho=>qS ho fun vs objs K r h=>by
 unfold qa8 at h
 split at h
 ·skip
  obtain⟨t,h1,h2⟩:=qG h
  refine qa mixed qoI ((qoH _ _).trans h1) (by kernel_rfl) fun v objs' hd=>?_
  unfold qbA at hd;split at hd;(cases hd;exact h2);cases hd
 ·exact ho _ _ _ _ _ h
def qUm:Ctx:=mkC 27 ((qRE (qGL (qba (qFA (qK7 (qCs qO))))))) [] qW
theorem qgJ:CtxOK Tryz.prog qUm:=mkC_ok ((qbB _ (qH0 _ (qoc _ (qF4 _ (qO5 _ (qC3 _ qP)))))))
def qUn:V->List Obj->Option (Bool×Bool):=fun v objs=>match v,objs with
 | .tup [W.s (.b y0),W.s (.b y1)],[]=>some (y0,y1)
 | _,_=>none
theorem qgI (x0 x1 x2:Int):fnE qUm Tryz.f71 ([.s (.i .i8 x0),.s (.i .i64 x1),.s (.i .i64 x2)]) ([]) qUn=qIn x0 x1 x2:=by kernel_rfl
def qUl:HA:=fun o vs objs K=>match vs,objs with
 | [.s (.i .i8 x0),.s (.i .i64 x1),.s (.i .i64 x2)],[]=>ob (qIn x0 x1 x2) fun z=>K false (.tup [W.s (.b (z.1)),W.s (.b (z.2))]) ([])
 | _,_=>o 71 vs objs K
def qUo (o:Orc):Orc:=qR 71 (qUl o) o
theorem qgK:OQ Tryz.prog qUo:=fun _ ho=>qS ho fun vs objs K r h=>by
 unfold qUl at h
 split at h
 ·skip
  obtain⟨t,h1,h2⟩:=qG h
  refine qa mixed qgJ ((qgI _ _ _).trans h1) (by kernel_rfl) fun v objs' hd=>?_
  unfold qUn at hd;split at hd;(cases hd;exact h2);cases hd
 ·exact ho _ _ _ _ _ h
def qNa:Ex->List V->List Obj->Option (Nat×Int×Nat×Int×Int×LI×LI×Int×LL×LL×Int×Int×Nat×LL×Int×Int×Nat×LI):=fun e vs objs=>match e,vs,objs with
 | .exit 2,[.s (.ptr 0 0 none 0),.s (.ptr 1 0 none 0),.s (.sl 2 0 y0 true),.s (.i .i64 y1),.s (.ptr 3 0 none 0),.s (.sl 4 0 y2 true),.s (.i .i64 y3),.s (.i .i64 y4)],[.rcells 84 [.arr .i8 81 y5,.arr .i8 16 y6,.one [.i .i8 y7],.rows [.i .u64,.i .u64] 32 y8,.rows [.i .u64,.i .u64] 2 y9],.cells 72 [.one [.i .u64 y10,.i .u64 y11]],.sli 41 false (.rows [.i .i64,.i .i64,.i .i64,.b] y12 y13),.cells 72 [.one [.i .u64 y14,.i .u64 y15]],.sli 3 false (.arr .i64 y16 y17)]=>some (y0,y1,y2,y3,y4,y5,y6,y7,y8,y9,y10,y11,y12,y13,y14,y15,y16,y17)
 | _,_,_=>none
def qNY:Ex->List V->List Obj->Option (Nat×LI×LI×Int×LL×LL×Nat×LL):=fun e vs objs=>match e,vs,objs with
 | .exit 0,[.s (.sl 1 0 y0 true)],[.rcells 84 [.arr .i8 81 y1,.arr .i8 16 y2,.one [.i .i8 y3],.rows [.i .u64,.i .u64] 32 y4,.rows [.i .u64,.i .u64] 2 y5],.sli 41 false (.rows [.i .i64,.i .i64,.i .i64,.b] y6 y7)]=>some (y0,y1,y2,y3,y4,y5,y6,y7)
 | _,_,_=>none
def qNe:HL:=fun vs objs K=>match vs,objs with
 | [.s (.ptr 0 0 none 0),.s (.ptr 1 0 none 0),.s (.sl 2 0 x0 true),.s (.i .i64 x1),.s (.ptr 3 0 none 0),.s (.i .i64 x2),.s (.i .i8 x3),.s (.sl 4 0 x4 true),.s (.i .i64 x5),.s (.i .i64 x6),.s (.sl 5 0 x7 true),.s (.i .i64 x8),.s (.i .i64 x9)],[.rcells 84 [.arr .i8 81 x10,.arr .i8 16 x11,.one [.i .i8 x12],.rows [.i .u64,.i .u64] 32 x13,.rows [.i .u64,.i .u64] 2 x14],.cells 72 [.one [.i .u64 x15,.i .u64 x16]],.sli 41 false (.rows [.i .i64,.i .i64,.i .i64,.b] x17 x18),.cells 72 [.one [.i .u64 x19,.i .u64 x20]],.sli 3 false (.arr .i64 x21 x22),.sli 3 false (.arr .i64 x23 x24)]=>ob (qEz qC x0 x1 x2 x3 x4 x5 x6 x7 x8 x9 x10 x11 x12 x13 x14 x15 x16 x17 x18 x19 x20 x21 x22 x23 x24) fun z=>K (.exit 2) ([.s (.ptr 0 0 none 0),.s (.ptr 1 0 none 0),.s (.sl 2 0 (z.1) true),.s (.i .i64 (z.2.1)),.s (.ptr 3 0 none 0),.s (.sl 4 0 (z.2.2.1) true),.s (.i .i64 (z.2.2.2.1)),.s (.i .i64 (z.2.2.2.2.1))]) ([.rcells 84 [.arr .i8 81 (z.2.2.2.2.2.1),.arr .i8 16 (z.2.2.2.2.2.2.1),.one [.i .i8 (z.2.2.2.2.2.2.2.1)],.rows [.i .u64,.i .u64] 32 (z.2.2.2.2.2.2.2.2.1),.rows [.i .u64,.i .u64] 2 (z.2.2.2.2.2.2.2.2.2.1)],.cells 72 [.one [.i .u64 (z.2.2.2.2.2.2.2.2.2.2.1),.i .u64 (z.2.2.2.2.2.2.2.2.2.2.2.1)]],.sli 41 false (.rows [.i .i64,.i .i64,.i .i64,.b] (z.2.2.2.2.2.2.2.2.2.2.2.2.1) (z.2.2.2.2.2.2.2.2.2.2.2.2.2.1)),.cells 72 [.one [.i .u64 (z.2.2.2.2.2.2.2.2.2.2.2.2.2.2.1),.i .u64 (z.2.2.2.2.2.2.2.2.2.2.2.2.2.2.2.1)]],.sli 3 false (.arr .i64 (z.2.2.2.2.2.2.2.2.2.2.2.2.2.2.2.2.1) (z.2.2.2.2.2.2.2.2.2.2.2.2.2.2.2.2.2))])
 | _,_=>none
def qNd:HL:=fun vs objs K=>match vs,objs with
 | [.s (.ptr 0 0 none 0),.s (.ptr 1 0 none 0),.s (.sl 2 0 x0 true),.s (.i .i64 x1),.s (.ptr 3 0 none 0),.s (.sl 4 0 x2 true),.s (.i .i64 x3),.s (.i .i64 x4)],[.rcells 84 [.arr .i8 81 x5,.arr .i8 16 x6,.one [.i .i8 x7],.rows [.i .u64,.i .u64] 32 x8,.rows [.i .u64,.i .u64] 2 x9],.cells 72 [.one [.i .u64 x10,.i .u64 x11]],.sli 41 false (.rows [.i .i64,.i .i64,.i .i64,.b] x12 x13),.cells 72 [.one [.i .u64 x14,.i .u64 x15]],.sli 3 false (.arr .i64 x16 x17)]=>ob (qEy qC x0 x1 x2 x3 x4 x5 x6 x7 x8 x9 x10 x11 x12 x13 x14 x15 x16 x17) fun z=>K (.exit 0) ([.s (.sl 1 0 (z.1) true)]) ([.rcells 84 [.arr .i8 81 (z.2.1),.arr .i8 16 (z.2.2.1),.one [.i .i8 (z.2.2.2.1)],.rows [.i .u64,.i .u64] 32 (z.2.2.2.2.1),.rows [.i .u64,.i .u64] 2 (z.2.2.2.2.2.1)],.sli 41 false (.rows [.i .i64,.i .i64,.i .i64,.b] (z.2.2.2.2.2.2.1) (z.2.2.2.2.2.2.2))])
 | _,_=>none
def qf3:{R:Type}->Nat->List V->List Obj->(Ex->List V->List Obj->Option R)->Option R:=fun q vs objs K=>bif Nat.beq q 9 then qNe vs objs K else bif Nat.beq q 5 then qNd vs objs K else none
def qG0:Ctx:=mkC 82 ((qUo (qGJ (qLo (qLH (qGp (qFl (qJT (qMx (qGM (qGo qO))))))))))) [(5,[0,3,5,6,7,29,30,31],[5]),(9,[0,3,5,6,7,9,10,29,30,31,51,52,53],[0,3,5,6,7,29,30,31])] qf3
theorem qNX:CtxOK Tryz.prog qG0:=mkC_ok ((qgK _ (qHy _ (qQp _ (qPN _ (qIS _ (qGn _ (qLt _ (qSz _ (qH3 _ (qIR _ qP)))))))))))
def qNb (f:Nat) (x0:Nat) (x1 x2 x3:Int) (x4:Nat) (x5 x6:Int) (x7:Nat) (x8 x9:Int) (x10 x11:LI) (x12:Int) (x13 x14:LL) (x15 x16:Int) (x17:Nat) (x18:LL) (x19 x20:Int) (x21:Nat) (x22:LI) (x23:Nat) (x24:LI):Option (Nat×Int×Nat×Int×Int×LI×LI×Int×LL×LL×Int×Int×Nat×LL×Int×Int×Nat×LI):=qh qG0 1 [0,3,5,6,7,9,10,29,30,31,51,52,53] [0,3,5,6,7,29,30,31] (qI Tryz.f28 9) f ([.s (.ptr 0 0 none 0),.s (.ptr 1 0 none 0),.s (.sl 2 0 x0 true),.s (.i .i64 x1),.s (.ptr 3 0 none 0),.s (.i .i64 x2),.s (.i .i8 x3),.s (.sl 4 0 x4 true),.s (.i .i64 x5),.s (.i .i64 x6),.s (.sl 5 0 x7 true),.s (.i .i64 x8),.s (.i .i64 x9)]) ([.rcells 84 [.arr .i8 81 x10,.arr .i8 16 x11,.one [.i .i8 x12],.rows [.i .u64,.i .u64] 32 x13,.rows [.i .u64,.i .u64] 2 x14],.cells 72 [.one [.i .u64 x15,.i .u64 x16]],.sli 41 false (.rows [.i .i64,.i .i64,.i .i64,.b] x17 x18),.cells 72 [.one [.i .u64 x19,.i .u64 x20]],.sli 3 false (.arr .i64 x21 x22),.sli 3 false (.arr .i64 x23 x24)]) qNa
theorem qf2 (f:Nat) (x0:Nat) (x1 x2 x3:Int) (x4:Nat) (x5 x6:Int) (x7:Nat) (x8 x9:Int) (x10 x11:LI) (x12:Int) (x13 x14:LL) (x15 x16:Int) (x17:Nat) (x18:LL) (x19 x20:Int) (x21:Nat) (x22:LI) (x23:Nat) (x24:LI):qNb (f+1) x0 x1 x2 x3 x4 x5 x6 x7 x8 x9 x10 x11 x12 x13 x14 x15 x16 x17 x18 x19 x20 x21 x22 x23 x24=qG2 (qNb f) x0 x1 x2 x3 x4 x5 x6 x7 x8 x9 x10 x11 x12 x13 x14 x15 x16 x17 x18 x19 x20 x21 x22 x23 x24:=by kernel_rfl
theorem qUZ:∀ f,qNb f=qEz f
 | 0=>rfl
 | f+1=>by funext x0 x1 x2 x3 x4 x5 x6 x7 x8 x9 x10 x11 x12 x13 x14 x15 x16 x17 x18 x19 x20 x21 x22 x23 x24;rw[qf2,qUZ f];rfl
def qNZ (f:Nat) (x0:Nat) (x1:Int) (x2:Nat) (x3 x4:Int) (x5 x6:LI) (x7:Int) (x8 x9:LL) (x10 x11:Int) (x12:Nat) (x13:LL) (x14 x15:Int) (x16:Nat) (x17:LI):Option (Nat×LI×LI×Int×LL×LL×Nat×LL):=qh qG0 1 [0,3,5,6,7,29,30,31] [5] (qI Tryz.f28 5) f ([.s (.ptr 0 0 none 0),.s (.ptr 1 0 none 0),.s (.sl 2 0 x0 true),.s (.i .i64 x1),.s (.ptr 3 0 none 0),.s (.sl 4 0 x2 true),.s (.i .i64 x3),.s (.i .i64 x4)]) ([.rcells 84 [.arr .i8 81 x5,.arr .i8 16 x6,.one [.i .i8 x7],.rows [.i .u64,.i .u64] 32 x8,.rows [.i .u64,.i .u64] 2 x9],.cells 72 [.one [.i .u64 x10,.i .u64 x11]],.sli 41 false (.rows [.i .i64,.i .i64,.i .i64,.b] x12 x13),.cells 72 [.one [.i .u64 x14,.i .u64 x15]],.sli 3 false (.arr .i64 x16 x17)]) qNY
theorem qf1 (f:Nat) (x0:Nat) (x1:Int) (x2:Nat) (x3 x4:Int) (x5 x6:LI) (x7:Int) (x8 x9:LL) (x10 x11:Int) (x12:Nat) (x13:LL) (x14 x15:Int) (x16:Nat) (x17:LI):qNZ (f+1) x0 x1 x2 x3 x4 x5 x6 x7 x8 x9 x10 x11 x12 x13 x14 x15 x16 x17=qG1 (qNZ f) x0 x1 x2 x3 x4 x5 x6 x7 x8 x9 x10 x11 x12 x13 x14 x15 x16 x17:=by kernel_rfl
theorem qUY:∀ f,qNZ f=qEy f
 | 0=>rfl
 | f+1=>by funext x0 x1 x2 x3 x4 x5 x6 x7 x8 x9 x10 x11 x12 x13 x14 x15 x16 x17;rw[qf1,qUY f];rfl
theorem qf5:qd Tryz.prog qG0 1 (qI Tryz.f28 9):=
 ql mixed qNX (qT.of (l':=[]) (by kernel_rfl) trivial) (q:=9) (kin:=[0,3,5,6,7,9,10,29,30,31,51,52,53]) (kout:=[0,3,5,6,7,29,30,31]) (by kernel_rfl) (by kernel_rfl) fun vs objs K r h=>by
  replace h:qNe vs objs K=some r:=h
  unfold qNe at h
  split at h
  ·skip
   obtain⟨t,h1,h2⟩:=qG h
   rw[<- qUZ] at h1
   refine⟨_,qNa,t,qC,h1,fun e vs' objs' hd=>?_⟩
   unfold qNa at hd;split at hd;(cases hd;exact h2);cases hd
  ·cases h
theorem qf4:qd Tryz.prog qG0 1 (qI Tryz.f28 5):=
 ql mixed qNX (qT.of (l':=[qI Tryz.f28 9]) (by kernel_rfl) ⟨qf5,trivial⟩) (q:=5) (kin:=[0,3,5,6,7,29,30,31]) (kout:=[5]) (by kernel_rfl) (by kernel_rfl) fun vs objs K r h=>by
  replace h:qNd vs objs K=some r:=h
  unfold qNd at h
  split at h
  ·skip
   obtain⟨t,h1,h2⟩:=qG h
   rw[<- qUY] at h1
   refine⟨_,qNY,t,qC,h1,fun e vs' objs' hd=>?_⟩
   unfold qNY at hd;split at hd;(cases hd;exact h2);cases hd
  ·cases h
def qUX:V->List Obj->Option (Nat×Nat×LL):=fun v objs=>match v,objs with
 | .s (.sl 1 0 y0 true),[.sli 41 false (.rows [.i .i64,.i .i64,.i .i64,.b] y1 y2)]=>some (y0,y1,y2)
 | _,_=>none
theorem qf0 (x0 x1:Int) (x2 x3:LI) (x4:Int) (x5 x6:LL):fnE qG0 Tryz.f28 ([.s (.ptr 0 0 none 0),.agg [.one [.i .u64 x0,.i .u64 x1]]]) ([.rcells 84 [.arr .i8 81 x2,.arr .i8 16 x3,.one [.i .i8 x4],.rows [.i .u64,.i .u64] 32 x5,.rows [.i .u64,.i .u64] 2 x6]]) (qAo 1 qUX)=qGz x0 x1 x2 x3 x4 x5 x6:=by kernel_rfl
def qUW:HA:=fun o vs objs K=>match vs,List.map Obj.toRO objs with
 | [.s (.ptr 0 0 none 0),.agg [.one [.i .u64 x0,.i .u64 x1]]],[.rcells 84 [.arr .i8 81 x2,.arr .i8 16 x3,.one [.i .i8 x4],.rows [.i .u64,.i .u64] 32 x5,.rows [.i .u64,.i .u64] 2 x6]]=>ob (qGz x0 x1 x2 x3 x4 x5 x6) fun z=>K true (.s (.sl 1 0 (z.1) true)) ([.sli 41 false (.rows [.i .i64,.i .i64,.i .i64,.b] (z.2.1) (z.2.2))])
 | _,_=>o 28 vs objs K
def qNc (o:Orc):Orc:=qR 28 (qUW o) o
theorem qUa:OQ Tryz.prog qNc:=fun _ ho=>qS ho fun vs objs K r h=>by
 unfold qUW at h
 split at h
 ·skip
  have hq:List.map Obj.toRO objs=_:=(by rename_i hq;first | exact hq | assumption)
  obtain⟨t,h1,h2⟩:=qG h
  refine qA5 mixed qNX (m:=1) (fn:=Tryz.f28) (b:=(Tryz.f28).body.getD .skip) (by kernel_rfl) (by kernel_rfl) (by kernel_rfl) hq (by kernel_rfl) (by kernel_rfl) (qT.of (l':=[qI Tryz.f28 5]) (by kernel_rfl) ⟨qf4,trivial⟩) ((qf0 _ _ _ _ _ _ _).trans h1) fun v objs' hd=>?_
  unfold qUX at hd;split at hd;(cases hd;exact h2);cases hd
 ·exact ho _ _ _ _ _ h
def qVv:Ctx:=mkC 49 ((qGL (qJQ (qMX (qJU (qGp qO)))))) [] qW
theorem qhf:CtxOK Tryz.prog qVv:=mkC_ok ((qH0 _ (qLj _ (qSJ _ (qLu _ (qIS _ qP))))))
def qVw:V->List Obj->Option (Bool×LI×LI×Int×LL×LL×List (LI×LI)):=fun v objs=>match v,objs with
 | .s (.b y0),[.cells 84 [.arr .i8 81 y1,.arr .i8 16 y2,.one [.i .i8 y3],.rows [.i .u64,.i .u64] 32 y4,.rows [.i .u64,.i .u64] 2 y5],.map false true [.i .i64] [.i .u64,.i .u64] y6]=>some (y0,y1,y2,y3,y4,y5,y6)
 | _,_=>none
theorem qhe (x0 x1:Int) (x2 x3:Int) (x4:Bool) (x5 x6 x7:Int) (x8:Bool) (x9 x10:LI) (x11:Int) (x12 x13:LL) (x14:List (LI×LI)):fnE qVv Tryz.f30 ([.agg [.one [.ptr 0 0 none 0,.i .i64 x0,.i .i64 x1,.i .u64 x2,.i .u64 x3,.mp 1,.b x4]],.agg [.one [.i .i64 x5,.i .i64 x6,.i .i64 x7,.b x8]]]) ([.cells 84 [.arr .i8 81 x9,.arr .i8 16 x10,.one [.i .i8 x11],.rows [.i .u64,.i .u64] 32 x12,.rows [.i .u64,.i .u64] 2 x13],.map false true [.i .i64] [.i .u64,.i .u64] x14]) qVw=qHO x0 x1 x2 x3 x4 x5 x6 x7 x8 x9 x10 x11 x12 x13 x14:=by kernel_rfl
def qVu:HA:=fun o vs objs K=>match vs,objs with
 | [.agg [.one [.ptr 0 0 none 0,.i .i64 x0,.i .i64 x1,.i .u64 x2,.i .u64 x3,.mp 1,.b x4]],.agg [.one [.i .i64 x5,.i .i64 x6,.i .i64 x7,.b x8]]],[.cells 84 [.arr .i8 81 x9,.arr .i8 16 x10,.one [.i .i8 x11],.rows [.i .u64,.i .u64] 32 x12,.rows [.i .u64,.i .u64] 2 x13],.map false true [.i .i64] [.i .u64,.i .u64] x14]=>ob (qHO x0 x1 x2 x3 x4 x5 x6 x7 x8 x9 x10 x11 x12 x13 x14) fun z=>K false (.s (.b (z.1))) ([.cells 84 [.arr .i8 81 (z.2.1),.arr .i8 16 (z.2.2.1),.one [.i .i8 (z.2.2.2.1)],.rows [.i .u64,.i .u64] 32 (z.2.2.2.2.1),.rows [.i .u64,.i .u64] 2 (z.2.2.2.2.2.1)],.map false true [.i .i64] [.i .u64,.i .u64] (z.2.2.2.2.2.2)])
 | _,_=>o 30 vs objs K
def qOV (o:Orc):Orc:=qR 30 (qVu o) o
theorem qVx:OQ Tryz.prog qOV:=fun _ ho=>qS ho fun vs objs K r h=>by
 unfold qVu at h
 split at h
 ·skip
  obtain⟨t,h1,h2⟩:=qG h
  refine qa mixed qhf ((qhe _ _ _ _ _ _ _ _ _ _ _ _ _ _ _).trans h1) (by kernel_rfl) fun v objs' hd=>?_
  unfold qVw at hd;split at hd;(cases hd;exact h2);cases hd
 ·exact ho _ _ _ _ _ h
def qSj:Ctx:=mkC 31 (qO) [] qW
theorem qdz:CtxOK Tryz.prog qSj:=mkC_ok (qP)
def qSk:V->List Obj->Option (Int):=fun v objs=>match v,objs with
 | .s (.i .i64 y0),[]=>some (y0)
 | _,_=>none
theorem qdy (x0 x1:Int) (x2 x3:LI) (x4:Int) (x5 x6:LL):fnE qSj Tryz.f76 ([.s (.ptr 0 0 none 0),.s (.i .i64 x0),.s (.i .i64 x1)]) ([.rcells 84 [.arr .i8 81 x2,.arr .i8 16 x3,.one [.i .i8 x4],.rows [.i .u64,.i .u64] 32 x5,.rows [.i .u64,.i .u64] 2 x6]]) (qAo 1 qSk)=qCg x0 x1 x2 x3 x4 x5 x6:=by kernel_rfl
def qSi:HA:=fun o vs objs K=>match vs,List.map Obj.toRO objs with
 | [.s (.ptr 0 0 none 0),.s (.i .i64 x0),.s (.i .i64 x1)],[.rcells 84 [.arr .i8 81 x2,.arr .i8 16 x3,.one [.i .i8 x4],.rows [.i .u64,.i .u64] 32 x5,.rows [.i .u64,.i .u64] 2 x6]]=>ob (qCg x0 x1 x2 x3 x4 x5 x6) fun y0=>K true (.s (.i .i64 y0)) ([])
 | _,_=>o 76 vs objs K
def qJw (o:Orc):Orc:=qR 76 (qSi o) o
theorem qMr:OQ Tryz.prog qJw:=fun _ ho=>qS ho fun vs objs K r h=>by
 unfold qSi at h
 split at h
 ·skip
  have hq:List.map Obj.toRO objs=_:=(by rename_i hq;first | exact hq | assumption)
  obtain⟨t,h1,h2⟩:=qG h
  refine qA5 mixed qdz (m:=1) (fn:=Tryz.f76) (b:=(Tryz.f76).body.getD .skip) (by kernel_rfl) (by kernel_rfl) (by kernel_rfl) hq (by kernel_rfl) (by kernel_rfl) (qT.of (l':=[]) (by kernel_rfl) trivial) ((qdy _ _ _ _ _ _ _).trans h1) fun v objs' hd=>?_
  unfold qSk at hd;split at hd;(cases hd;exact h2);cases hd
 ·exact ho _ _ _ _ _ h
def qaL:Ctx:=mkC 6 ((qLo (qJP qO))) [] qW
theorem qnH:CtxOK Tryz.prog qaL:=mkC_ok ((qQp _ (qLi _ qP)))
def qaM:V->List Obj->Option (Int×Int):=fun v objs=>match v,objs with
 | .agg [.one [.i .u64 y0,.i .u64 y1]],[]=>some (y0,y1)
 | _,_=>none
theorem qnG (x0 x1:Int):fnE qaL Tryz.f112 ([.agg [.one [.i .u64 x0,.i .u64 x1]]]) ([]) qaM=qJS x0 x1:=by kernel_rfl
def qaK:HA:=fun o vs objs K=>match vs,objs with
 | [.agg [.one [.i .u64 x0,.i .u64 x1]]],[]=>ob (qJS x0 x1) fun z=>K false (.agg [.one [.i .u64 (z.1),.i .u64 (z.2)]]) ([])
 | _,_=>o 112 vs objs K
def qaN (o:Orc):Orc:=qR 112 (qaK o) o
theorem qnI:OQ Tryz.prog qaN:=fun _ ho=>qS ho fun vs objs K r h=>by
 unfold qaK at h
 split at h
 ·skip
  obtain⟨t,h1,h2⟩:=qG h
  refine qa mixed qnH ((qnG _ _).trans h1) (by kernel_rfl) fun v objs' hd=>?_
  unfold qaM at hd;split at hd;(cases hd;exact h2);cases hd
 ·exact ho _ _ _ _ _ h
def qQm:Ex->List V->List Obj->Option (Int×Int×Int×Int):=fun e vs objs=>match e,vs,objs with
 | .exit 0,[.s (.ptr 0 0 none 0),.s (.ptr 1 0 none 0)],[.cells 72 [.one [.i .u64 y0,.i .u64 y1]],.cells 72 [.one [.i .u64 y2,.i .u64 y3]]]=>some (y0,y1,y2,y3)
 | _,_,_=>none
def qQo:HL:=fun vs objs K=>match vs,objs with
 | [.s (.i .i64 x0),.s (.ptr 0 0 none 0),.s (.ptr 1 0 none 0),.s (.i .i64 x1)],[.cells 72 [.one [.i .u64 x2,.i .u64 x3]],.cells 72 [.one [.i .u64 x4,.i .u64 x5]]]=>ob (qLn qC x0 x1 x2 x3 x4 x5) fun z=>K (.exit 0) ([.s (.ptr 0 0 none 0),.s (.ptr 1 0 none 0)]) ([.cells 72 [.one [.i .u64 (z.1),.i .u64 (z.2.1)]],.cells 72 [.one [.i .u64 (z.2.2.1),.i .u64 (z.2.2.2)]]])
 | _,_=>none
def qnB:{R:Type}->Nat->List V->List Obj->(Ex->List V->List Obj->Option R)->Option R:=fun q vs objs K=>bif Nat.beq q 3 then qQo vs objs K else none
def qLm:Ctx:=mkC 15 ((qEZ (qQu qO))) [(3,[0,2,3,5],[2,3])] qnB
theorem qaC:CtxOK Tryz.prog qLm:=mkC_ok ((qFR _ (qac _ qP)))
def qQn (f:Nat) (x0 x1:Int) (x2 x3:Int) (x4 x5:Int):Option (Int×Int×Int×Int):=qh qLm 0 [0,2,3,5] [2,3] (qI Tryz.f113 3) f ([.s (.i .i64 x0),.s (.ptr 0 0 none 0),.s (.ptr 1 0 none 0),.s (.i .i64 x1)]) ([.cells 72 [.one [.i .u64 x2,.i .u64 x3]],.cells 72 [.one [.i .u64 x4,.i .u64 x5]]]) qQm
theorem qnA (f:Nat) (x0 x1:Int) (x2 x3:Int) (x4 x5:Int):qQn (f+1) x0 x1 x2 x3 x4 x5=qaF (qQn f) x0 x1 x2 x3 x4 x5:=by kernel_rfl
theorem qaE:∀ f,qQn f=qLn f
 | 0=>rfl
 | f+1=>by funext x0 x1 x2 x3 x4 x5;rw[qnA,qaE f];rfl
theorem qnD:qd Tryz.prog qLm 0 (qI Tryz.f113 3):=
 ql mixed qaC (qT.of (l':=[]) (by kernel_rfl) trivial) (q:=3) (kin:=[0,2,3,5]) (kout:=[2,3]) (by kernel_rfl) (by kernel_rfl) fun vs objs K r h=>by
  replace h:qQo vs objs K=some r:=h
  unfold qQo at h
  split at h
  ·skip
   obtain⟨t,h1,h2⟩:=qG h
   rw[<- qaE] at h1
   refine⟨_,qQm,t,qC,h1,fun e vs' objs' hd=>?_⟩
   unfold qQm at hd;split at hd;(cases hd;exact h2);cases hd
  ·cases h
def qaD:V->List Obj->Option (Int×Int):=fun v objs=>match v,objs with
 | .agg [.one [.i .u64 y0,.i .u64 y1]],[]=>some (y0,y1)
 | _,_=>none
theorem qm9 (x0:Int):fnE qLm Tryz.f113 ([.s (.i .i64 x0)]) ([]) qaD=qJR x0:=by kernel_rfl
def qaB:HA:=fun o vs objs K=>match vs,objs with
 | [.s (.i .i64 x0)],[]=>ob (qJR x0) fun z=>K false (.agg [.one [.i .u64 (z.1),.i .u64 (z.2)]]) ([])
 | _,_=>o 113 vs objs K
def qaG (o:Orc):Orc:=qR 113 (qaB o) o
theorem qnC:OQ Tryz.prog qaG:=fun _ ho=>qS ho fun vs objs K r h=>by
 unfold qaB at h
 split at h
 ·skip
  obtain⟨t,h1,h2⟩:=qG h
  refine qAY mixed qaC (fn:=Tryz.f113) (b:=(Tryz.f113).body.getD .skip) (by kernel_rfl) (by kernel_rfl) (by kernel_rfl) ((qm9 _).trans h1) (m:=0) rfl (qT.of (l':=[qI Tryz.f113 3]) (by kernel_rfl) ⟨qnD,trivial⟩) fun v objs' hd=>?_
  unfold qaD at hd;split at hd;(cases hd;exact h2);cases hd
 ·exact ho _ _ _ _ _ h
def qNm:Ex->List V->List Obj->Option (LI×LI×Int×LL×LL×Int×Int×Int×Int):=fun e vs objs=>match e,vs,objs with
 | .exit 0,[.s (.ptr 1 0 none 0),.s (.ptr 2 0 none 0)],[.rcells 84 [.arr .i8 81 y0,.arr .i8 16 y1,.one [.i .i8 y2],.rows [.i .u64,.i .u64] 32 y3,.rows [.i .u64,.i .u64] 2 y4],.cells 72 [.one [.i .u64 y5,.i .u64 y6]],.cells 72 [.one [.i .u64 y7,.i .u64 y8]]]=>some (y0,y1,y2,y3,y4,y5,y6,y7,y8)
 | _,_,_=>none
def qNo:HL:=fun vs objs K=>match vs,objs with
 | [.s (.ptr 0 0 none 0),.s (.i .i64 x0),.s (.i .i64 x1),.s (.ptr 1 0 none 0),.s (.i .i8 x2),.s (.ptr 2 0 none 0),.s (.sl 3 0 x3 true),.s (.i .i64 x4),.s (.i .i64 x5)],[.rcells 84 [.arr .i8 81 x6,.arr .i8 16 x7,.one [.i .i8 x8],.rows [.i .u64,.i .u64] 32 x9,.rows [.i .u64,.i .u64] 2 x10],.cells 72 [.one [.i .u64 x11,.i .u64 x12]],.cells 72 [.one [.i .u64 x13,.i .u64 x14]],.sli 3 false (.arr .i64 x15 x16)]=>ob (qDQ qC x0 x1 x2 x3 x4 x5 x6 x7 x8 x9 x10 x11 x12 x13 x14 x15 x16) fun z=>K (.exit 0) ([.s (.ptr 1 0 none 0),.s (.ptr 2 0 none 0)]) ([.rcells 84 [.arr .i8 81 (z.1),.arr .i8 16 (z.2.1),.one [.i .i8 (z.2.2.1)],.rows [.i .u64,.i .u64] 32 (z.2.2.2.1),.rows [.i .u64,.i .u64] 2 (z.2.2.2.2.1)],.cells 72 [.one [.i .u64 (z.2.2.2.2.2.1),.i .u64 (z.2.2.2.2.2.2.1)]],.cells 72 [.one [.i .u64 (z.2.2.2.2.2.2.2.1),.i .u64 (z.2.2.2.2.2.2.2.2)]]])
 | _,_=>none
def qgF:{R:Type}->Nat->List V->List Obj->(Ex->List V->List Obj->Option R)->Option R:=fun q vs objs K=>bif Nat.beq q 6 then qNo vs objs K else none
def qKQ:Ctx:=mkC 53 ((qEZ (qJQ (qGJ (qaG (qLk (qGo (qRE (qJT (qaN (qGp (qF3 qO)))))))))))) [(6,[0,1,2,6,7,8,24,25,26],[6,8])] qgF
theorem qUh:CtxOK Tryz.prog qKQ:=mkC_ok ((qFR _ (qLj _ (qHy _ (qnC _ (qQk _ (qIR _ (qbB _ (qLt _ (qnI _ (qIS _ (qHZ _ qP))))))))))))
def qNn (f:Nat) (x0 x1 x2:Int) (x3:Nat) (x4 x5:Int) (x6 x7:LI) (x8:Int) (x9 x10:LL) (x11 x12:Int) (x13 x14:Int) (x15:Nat) (x16:LI):Option (LI×LI×Int×LL×LL×Int×Int×Int×Int):=qh qKQ 1 [0,1,2,6,7,8,24,25,26] [6,8] (qI Tryz.f77 6) f ([.s (.ptr 0 0 none 0),.s (.i .i64 x0),.s (.i .i64 x1),.s (.ptr 1 0 none 0),.s (.i .i8 x2),.s (.ptr 2 0 none 0),.s (.sl 3 0 x3 true),.s (.i .i64 x4),.s (.i .i64 x5)]) ([.rcells 84 [.arr .i8 81 x6,.arr .i8 16 x7,.one [.i .i8 x8],.rows [.i .u64,.i .u64] 32 x9,.rows [.i .u64,.i .u64] 2 x10],.cells 72 [.one [.i .u64 x11,.i .u64 x12]],.cells 72 [.one [.i .u64 x13,.i .u64 x14]],.sli 3 false (.arr .i64 x15 x16)]) qNm
theorem qgE (f:Nat) (x0 x1 x2:Int) (x3:Nat) (x4 x5:Int) (x6 x7:LI) (x8:Int) (x9 x10:LL) (x11 x12:Int) (x13 x14:Int) (x15:Nat) (x16:LI):qNn (f+1) x0 x1 x2 x3 x4 x5 x6 x7 x8 x9 x10 x11 x12 x13 x14 x15 x16=qG6 (qNn f) x0 x1 x2 x3 x4 x5 x6 x7 x8 x9 x10 x11 x12 x13 x14 x15 x16:=by kernel_rfl
theorem qUj:∀ f,qNn f=qDQ f
 | 0=>rfl
 | f+1=>by funext x0 x1 x2 x3 x4 x5 x6 x7 x8 x9 x10 x11 x12 x13 x14 x15 x16;rw[qgE,qUj f];rfl
theorem qgH:qd Tryz.prog qKQ 1 (qI Tryz.f77 6):=
 ql mixed qUh (qT.of (l':=[]) (by kernel_rfl) trivial) (q:=6) (kin:=[0,1,2,6,7,8,24,25,26]) (kout:=[6,8]) (by kernel_rfl) (by kernel_rfl) fun vs objs K r h=>by
  replace h:qNo vs objs K=some r:=h
  unfold qNo at h
  split at h
  ·skip
   obtain⟨t,h1,h2⟩:=qG h
   rw[<- qUj] at h1
   refine⟨_,qNm,t,qC,h1,fun e vs' objs' hd=>?_⟩
   unfold qNm at hd;split at hd;(cases hd;exact h2);cases hd
  ·cases h
def qUi:V->List Obj->Option (Int×Int):=fun v objs=>match v,objs with
 | .agg [.one [.i .u64 y0,.i .u64 y1]],[]=>some (y0,y1)
 | _,_=>none
theorem qgD (x0 x1:Int) (x2 x3:LI) (x4:Int) (x5 x6:LL):fnE qKQ Tryz.f77 ([.s (.ptr 0 0 none 0),.s (.i .i64 x0),.s (.i .i64 x1)]) ([.rcells 84 [.arr .i8 81 x2,.arr .i8 16 x3,.one [.i .i8 x4],.rows [.i .u64,.i .u64] 32 x5,.rows [.i .u64,.i .u64] 2 x6]]) (qAo 1 qUi)=qIm x0 x1 x2 x3 x4 x5 x6:=by kernel_rfl
def qUg:HA:=fun o vs objs K=>match vs,List.map Obj.toRO objs with
 | [.s (.ptr 0 0 none 0),.s (.i .i64 x0),.s (.i .i64 x1)],[.rcells 84 [.arr .i8 81 x2,.arr .i8 16 x3,.one [.i .i8 x4],.rows [.i .u64,.i .u64] 32 x5,.rows [.i .u64,.i .u64] 2 x6]]=>ob (qIm x0 x1 x2 x3 x4 x5 x6) fun z=>K true (.agg [.one [.i .u64 (z.1),.i .u64 (z.2)]]) ([])
 | _,_=>o 77 vs objs K
def qUk (o:Orc):Orc:=qR 77 (qUg o) o
theorem qgG:OQ Tryz.prog qUk:=fun _ ho=>qS ho fun vs objs K r h=>by
 unfold qUg at h
 split at h
 ·skip
  have hq:List.map Obj.toRO objs=_:=(by rename_i hq;first | exact hq | assumption)
  obtain⟨t,h1,h2⟩:=qG h
  refine qA5 mixed qUh (m:=1) (fn:=Tryz.f77) (b:=(Tryz.f77).body.getD .skip) (by kernel_rfl) (by kernel_rfl) (by kernel_rfl) hq (by kernel_rfl) (by kernel_rfl) (qT.of (l':=[qI Tryz.f77 6]) (by kernel_rfl) ⟨qgH,trivial⟩) ((qgD _ _ _ _ _ _ _).trans h1) fun v objs' hd=>?_
  unfold qUi at hd;split at hd;(cases hd;exact h2);cases hd
 ·exact ho _ _ _ _ _ h
def qNi:Ex->List V->List Obj->Option (Nat×Int×Int×LI×LI×Int×LL×LL×Int×Int×Nat×LL):=fun e vs objs=>match e,vs,objs with
 | .exit 2,[.s (.ptr 0 0 none 0),.s (.ptr 1 0 none 0),.s (.sl 2 0 y0 true),.s (.i .i64 y1),.s (.i .i64 y2)],[.rcells 84 [.arr .i8 81 y3,.arr .i8 16 y4,.one [.i .i8 y5],.rows [.i .u64,.i .u64] 32 y6,.rows [.i .u64,.i .u64] 2 y7],.cells 72 [.one [.i .u64 y8,.i .u64 y9]],.sli 41 false (.rows [.i .i64,.i .i64,.i .i64,.b] y10 y11)]=>some (y0,y1,y2,y3,y4,y5,y6,y7,y8,y9,y10,y11)
 | _,_,_=>none
def qNg:Ex->List V->List Obj->Option (Nat×LI×LI×Int×LL×LL×Nat×LL):=fun e vs objs=>match e,vs,objs with
 | .exit 0,[.s (.sl 1 0 y0 true)],[.rcells 84 [.arr .i8 81 y1,.arr .i8 16 y2,.one [.i .i8 y3],.rows [.i .u64,.i .u64] 32 y4,.rows [.i .u64,.i .u64] 2 y5],.sli 41 false (.rows [.i .i64,.i .i64,.i .i64,.b] y6 y7)]=>some (y0,y1,y2,y3,y4,y5,y6,y7)
 | _,_,_=>none
def qNl:HL:=fun vs objs K=>match vs,objs with
 | [.s (.ptr 0 0 none 0),.s (.ptr 1 0 none 0),.s (.sl 2 0 x0 true),.s (.i .i64 x1),.s (.i .i64 x2),.s (.sl 3 0 x3 true),.s (.i .i64 x4),.s (.i .i64 x5)],[.rcells 84 [.arr .i8 81 x6,.arr .i8 16 x7,.one [.i .i8 x8],.rows [.i .u64,.i .u64] 32 x9,.rows [.i .u64,.i .u64] 2 x10],.cells 72 [.one [.i .u64 x11,.i .u64 x12]],.sli 41 false (.rows [.i .i64,.i .i64,.i .i64,.b] x13 x14),.sli 3 false (.arr .i64 x15 x16)]=>ob (qE1 qC x0 x1 x2 x3 x4 x5 x6 x7 x8 x9 x10 x11 x12 x13 x14 x15 x16) fun z=>K (.exit 2) ([.s (.ptr 0 0 none 0),.s (.ptr 1 0 none 0),.s (.sl 2 0 (z.1) true),.s (.i .i64 (z.2.1)),.s (.i .i64 (z.2.2.1))]) ([.rcells 84 [.arr .i8 81 (z.2.2.2.1),.arr .i8 16 (z.2.2.2.2.1),.one [.i .i8 (z.2.2.2.2.2.1)],.rows [.i .u64,.i .u64] 32 (z.2.2.2.2.2.2.1),.rows [.i .u64,.i .u64] 2 (z.2.2.2.2.2.2.2.1)],.cells 72 [.one [.i .u64 (z.2.2.2.2.2.2.2.2.1),.i .u64 (z.2.2.2.2.2.2.2.2.2.1)]],.sli 41 false (.rows [.i .i64,.i .i64,.i .i64,.b] (z.2.2.2.2.2.2.2.2.2.2.1) (z.2.2.2.2.2.2.2.2.2.2.2))])
 | _,_=>none
def qNk:HL:=fun vs objs K=>match vs,objs with
 | [.s (.ptr 0 0 none 0),.s (.ptr 1 0 none 0),.s (.sl 2 0 x0 true),.s (.i .i64 x1),.s (.i .i64 x2)],[.rcells 84 [.arr .i8 81 x3,.arr .i8 16 x4,.one [.i .i8 x5],.rows [.i .u64,.i .u64] 32 x6,.rows [.i .u64,.i .u64] 2 x7],.cells 72 [.one [.i .u64 x8,.i .u64 x9]],.sli 41 false (.rows [.i .i64,.i .i64,.i .i64,.b] x10 x11)]=>ob (qE0 qC x0 x1 x2 x3 x4 x5 x6 x7 x8 x9 x10 x11) fun z=>K (.exit 0) ([.s (.sl 1 0 (z.1) true)]) ([.rcells 84 [.arr .i8 81 (z.2.1),.arr .i8 16 (z.2.2.1),.one [.i .i8 (z.2.2.2.1)],.rows [.i .u64,.i .u64] 32 (z.2.2.2.2.1),.rows [.i .u64,.i .u64] 2 (z.2.2.2.2.2.1)],.sli 41 false (.rows [.i .i64,.i .i64,.i .i64,.b] (z.2.2.2.2.2.2.1) (z.2.2.2.2.2.2.2))])
 | _,_=>none
def qf9:{R:Type}->Nat->List V->List Obj->(Ex->List V->List Obj->Option R)->Option R:=fun q vs objs K=>bif Nat.beq q 8 then qNl vs objs K else bif Nat.beq q 4 then qNk vs objs K else none
def qG3:Ctx:=mkC 45 ((qJT (qGJ (qUk (qJw qO))))) [(4,[0,3,5,6,7],[5]),(8,[0,3,5,6,7,31,32,33],[0,3,5,6,7])] qf9
theorem qNf:CtxOK Tryz.prog qG3:=mkC_ok ((qLt _ (qHy _ (qgG _ (qMr _ qP)))))
def qNj (f:Nat) (x0:Nat) (x1 x2:Int) (x3:Nat) (x4 x5:Int) (x6 x7:LI) (x8:Int) (x9 x10:LL) (x11 x12:Int) (x13:Nat) (x14:LL) (x15:Nat) (x16:LI):Option (Nat×Int×Int×LI×LI×Int×LL×LL×Int×Int×Nat×LL):=qh qG3 1 [0,3,5,6,7,31,32,33] [0,3,5,6,7] (qI Tryz.f31 8) f ([.s (.ptr 0 0 none 0),.s (.ptr 1 0 none 0),.s (.sl 2 0 x0 true),.s (.i .i64 x1),.s (.i .i64 x2),.s (.sl 3 0 x3 true),.s (.i .i64 x4),.s (.i .i64 x5)]) ([.rcells 84 [.arr .i8 81 x6,.arr .i8 16 x7,.one [.i .i8 x8],.rows [.i .u64,.i .u64] 32 x9,.rows [.i .u64,.i .u64] 2 x10],.cells 72 [.one [.i .u64 x11,.i .u64 x12]],.sli 41 false (.rows [.i .i64,.i .i64,.i .i64,.b] x13 x14),.sli 3 false (.arr .i64 x15 x16)]) qNi
theorem qf8 (f:Nat) (x0:Nat) (x1 x2:Int) (x3:Nat) (x4 x5:Int) (x6 x7:LI) (x8:Int) (x9 x10:LL) (x11 x12:Int) (x13:Nat) (x14:LL) (x15:Nat) (x16:LI):qNj (f+1) x0 x1 x2 x3 x4 x5 x6 x7 x8 x9 x10 x11 x12 x13 x14 x15 x16=qG5 (qNj f) x0 x1 x2 x3 x4 x5 x6 x7 x8 x9 x10 x11 x12 x13 x14 x15 x16:=by kernel_rfl
theorem qUe:∀ f,qNj f=qE1 f
 | 0=>rfl
 | f+1=>by funext x0 x1 x2 x3 x4 x5 x6 x7 x8 x9 x10 x11 x12 x13 x14 x15 x16;rw[qf8,qUe f];rfl
def qNh (f:Nat) (x0:Nat) (x1 x2:Int) (x3 x4:LI) (x5:Int) (x6 x7:LL) (x8 x9:Int) (x10:Nat) (x11:LL):Option (Nat×LI×LI×Int×LL×LL×Nat×LL):=qh qG3 1 [0,3,5,6,7] [5] (qI Tryz.f31 4) f ([.s (.ptr 0 0 none 0),.s (.ptr 1 0 none 0),.s (.sl 2 0 x0 true),.s (.i .i64 x1),.s (.i .i64 x2)]) ([.rcells 84 [.arr .i8 81 x3,.arr .i8 16 x4,.one [.i .i8 x5],.rows [.i .u64,.i .u64] 32 x6,.rows [.i .u64,.i .u64] 2 x7],.cells 72 [.one [.i .u64 x8,.i .u64 x9]],.sli 41 false (.rows [.i .i64,.i .i64,.i .i64,.b] x10 x11)]) qNg
theorem qf7 (f:Nat) (x0:Nat) (x1 x2:Int) (x3 x4:LI) (x5:Int) (x6 x7:LL) (x8 x9:Int) (x10:Nat) (x11:LL):qNh (f+1) x0 x1 x2 x3 x4 x5 x6 x7 x8 x9 x10 x11=qG4 (qNh f) x0 x1 x2 x3 x4 x5 x6 x7 x8 x9 x10 x11:=by kernel_rfl
theorem qUd:∀ f,qNh f=qE0 f
 | 0=>rfl
 | f+1=>by funext x0 x1 x2 x3 x4 x5 x6 x7 x8 x9 x10 x11;rw[qf7,qUd f];rfl
theorem qgC:qd Tryz.prog qG3 1 (qI Tryz.f31 8):=
 ql mixed qNf (qT.of (l':=[]) (by kernel_rfl) trivial) (q:=8) (kin:=[0,3,5,6,7,31,32,33]) (kout:=[0,3,5,6,7]) (by kernel_rfl) (by kernel_rfl) fun vs objs K r h=>by
  replace h:qNl vs objs K=some r:=h
  unfold qNl at h
  split at h
  ·skip
   obtain⟨t,h1,h2⟩:=qG h
   rw[<- qUe] at h1
   refine⟨_,qNi,t,qC,h1,fun e vs' objs' hd=>?_⟩
   unfold qNi at hd;split at hd;(cases hd;exact h2);cases hd
  ·cases h
theorem qgB:qd Tryz.prog qG3 1 (qI Tryz.f31 4):=
 ql mixed qNf (qT.of (l':=[qI Tryz.f31 8]) (by kernel_rfl) ⟨qgC,trivial⟩) (q:=4) (kin:=[0,3,5,6,7]) (kout:=[5]) (by kernel_rfl) (by kernel_rfl) fun vs objs K r h=>by
  replace h:qNk vs objs K=some r:=h
  unfold qNk at h
  split at h
  ·skip
   obtain⟨t,h1,h2⟩:=qG h
   rw[<- qUd] at h1
   refine⟨_,qNg,t,qC,h1,fun e vs' objs' hd=>?_⟩
   unfold qNg at hd;split at hd;(cases hd;exact h2);cases hd
  ·cases h
def qUc:V->List Obj->Option (Nat×Nat×LL):=fun v objs=>match v,objs with
 | .s (.sl 1 0 y0 true),[.sli 41 false (.rows [.i .i64,.i .i64,.i .i64,.b] y1 y2)]=>some (y0,y1,y2)
 | _,_=>none
theorem qf6 (x0 x1:Int) (x2 x3:LI) (x4:Int) (x5 x6:LL):fnE qG3 Tryz.f31 ([.s (.ptr 0 0 none 0),.agg [.one [.i .u64 x0,.i .u64 x1]]]) ([.rcells 84 [.arr .i8 81 x2,.arr .i8 16 x3,.one [.i .i8 x4],.rows [.i .u64,.i .u64] 32 x5,.rows [.i .u64,.i .u64] 2 x6]]) (qAo 1 qUc)=qIl x0 x1 x2 x3 x4 x5 x6:=by kernel_rfl
def qUb:HA:=fun o vs objs K=>match vs,List.map Obj.toRO objs with
 | [.s (.ptr 0 0 none 0),.agg [.one [.i .u64 x0,.i .u64 x1]]],[.rcells 84 [.arr .i8 81 x2,.arr .i8 16 x3,.one [.i .i8 x4],.rows [.i .u64,.i .u64] 32 x5,.rows [.i .u64,.i .u64] 2 x6]]=>ob (qIl x0 x1 x2 x3 x4 x5 x6) fun z=>K true (.s (.sl 1 0 (z.1) true)) ([.sli 41 false (.rows [.i .i64,.i .i64,.i .i64,.b] (z.2.1) (z.2.2))])
 | _,_=>o 31 vs objs K
def qUf (o:Orc):Orc:=qR 31 (qUb o) o
theorem qgA:OQ Tryz.prog qUf:=fun _ ho=>qS ho fun vs objs K r h=>by
 unfold qUb at h
 split at h
 ·skip
  have hq:List.map Obj.toRO objs=_:=(by rename_i hq;first | exact hq | assumption)
  obtain⟨t,h1,h2⟩:=qG h
  refine qA5 mixed qNf (m:=1) (fn:=Tryz.f31) (b:=(Tryz.f31).body.getD .skip) (by kernel_rfl) (by kernel_rfl) (by kernel_rfl) hq (by kernel_rfl) (by kernel_rfl) (qT.of (l':=[qI Tryz.f31 4]) (by kernel_rfl) ⟨qgB,trivial⟩) ((qf6 _ _ _ _ _ _ _).trans h1) fun v objs' hd=>?_
  unfold qUc at hd;split at hd;(cases hd;exact h2);cases hd
 ·exact ho _ _ _ _ _ h
def qSf:Ctx:=mkC 7 (qO) [] qW
theorem qdw:CtxOK Tryz.prog qSf:=mkC_ok (qP)
def qSg:V->List Obj->Option (LI×LI×Int×LL×LL):=fun v objs=>match v,objs with
 | .s (.ptr 1 0 none 0),[.cells 84 [.arr .i8 81 y0,.arr .i8 16 y1,.one [.i .i8 y2],.rows [.i .u64,.i .u64] 32 y3,.rows [.i .u64,.i .u64] 2 y4]]=>some (y0,y1,y2,y3,y4)
 | _,_=>none
theorem qdv (x0 x1:LI) (x2:Int) (x3 x4:LL):fnE qSf Tryz.f79 ([.s (.ptr 0 0 none 0)]) ([.rcells 84 [.arr .i8 81 x0,.arr .i8 16 x1,.one [.i .i8 x2],.rows [.i .u64,.i .u64] 32 x3,.rows [.i .u64,.i .u64] 2 x4]]) (qAo 1 qSg)=qJv x0 x1 x2 x3 x4:=by kernel_rfl
def qSe:HA:=fun o vs objs K=>match vs,List.map Obj.toRO objs with
 | [.s (.ptr 0 0 none 0)],[.rcells 84 [.arr .i8 81 x0,.arr .i8 16 x1,.one [.i .i8 x2],.rows [.i .u64,.i .u64] 32 x3,.rows [.i .u64,.i .u64] 2 x4]]=>ob (qJv x0 x1 x2 x3 x4) fun z=>K true (.s (.ptr 1 0 none 0)) ([.cells 84 [.arr .i8 81 (z.1),.arr .i8 16 (z.2.1),.one [.i .i8 (z.2.2.1)],.rows [.i .u64,.i .u64] 32 (z.2.2.2.1),.rows [.i .u64,.i .u64] 2 (z.2.2.2.2)]])
 | _,_=>o 79 vs objs K
def qSh (o:Orc):Orc:=qR 79 (qSe o) o
theorem qdx:OQ Tryz.prog qSh:=fun _ ho=>qS ho fun vs objs K r h=>by
 unfold qSe at h
 split at h
 ·skip
  have hq:List.map Obj.toRO objs=_:=(by rename_i hq;first | exact hq | assumption)
  obtain⟨t,h1,h2⟩:=qG h
  refine qA5 mixed qdw (m:=1) (fn:=Tryz.f79) (b:=(Tryz.f79).body.getD .skip) (by kernel_rfl) (by kernel_rfl) (by kernel_rfl) hq (by kernel_rfl) (by kernel_rfl) (qT.of (l':=[]) (by kernel_rfl) trivial) ((qdv _ _ _ _ _).trans h1) fun v objs' hd=>?_
  unfold qSg at hd;split at hd;(cases hd;exact h2);cases hd
 ·exact ho _ _ _ _ _ h
def qOR:Ex->List V->List Obj->Option ((Bool×LI×LI×Int×LL×LL)⊕(LI×LI×Int×LL×LL)):=fun e vs objs=>match e,vs,objs with
 | .ret,[.s (.b y0)],[.rcells 84 [.arr .i8 81 y1,.arr .i8 16 y2,.one [.i .i8 y3],.rows [.i .u64,.i .u64] 32 y4,.rows [.i .u64,.i .u64] 2 y5]]=>some (.inl (y0,y1,y2,y3,y4,y5))
 | .exit 0,[.s .bad],[.rcells 84 [.arr .i8 81 y0,.arr .i8 16 y1,.one [.i .i8 y2],.rows [.i .u64,.i .u64] 32 y3,.rows [.i .u64,.i .u64] 2 y4]]=>some (.inr (y0,y1,y2,y3,y4))
 | _,_,_=>none
def qOT:HL:=fun vs objs K=>match vs,objs with
 | [.s (.ptr 1 0 none 0),.s (.sl 2 0 x0 true),.s (.i .i64 x1),.s (.i .i64 x2)],[.rcells 84 [.arr .i8 81 x3,.arr .i8 16 x4,.one [.i .i8 x5],.rows [.i .u64,.i .u64] 32 x6,.rows [.i .u64,.i .u64] 2 x7],.cells 75 [.one [.ptr 3 0 none 0,.i .i64 x8,.i .i64 x9,.i .u64 x10,.i .u64 x11,.mp 4,.b x12]],.sli 41 false (.rows [.i .i64,.i .i64,.i .i64,.b] x13 x14),.cells 84 [.arr .i8 81 x15,.arr .i8 16 x16,.one [.i .i8 x17],.rows [.i .u64,.i .u64] 32 x18,.rows [.i .u64,.i .u64] 2 x19],.map false true [.i .i64] [.i .u64,.i .u64] x20]=>ob (qE8 qC x0 x1 x2 x3 x4 x5 x6 x7 x8 x9 x10 x11 x12 x13 x14 x15 x16 x17 x18 x19 x20) fun t0=>sw t0 (fun z=>K (.ret) ([.s (.b (z.1))]) ([.rcells 84 [.arr .i8 81 (z.2.1),.arr .i8 16 (z.2.2.1),.one [.i .i8 (z.2.2.2.1)],.rows [.i .u64,.i .u64] 32 (z.2.2.2.2.1),.rows [.i .u64,.i .u64] 2 (z.2.2.2.2.2)]])) (fun z=>K (.exit 0) ([.s .bad]) ([.rcells 84 [.arr .i8 81 (z.1),.arr .i8 16 (z.2.1),.one [.i .i8 (z.2.2.1)],.rows [.i .u64,.i .u64] 32 (z.2.2.2.1),.rows [.i .u64,.i .u64] 2 (z.2.2.2.2)]]))
 | _,_=>none
def qhZ:{R:Type}->Nat->List V->List Obj->(Ex->List V->List Obj->Option R)->Option R:=fun q vs objs K=>bif Nat.beq q 11 then qOT vs objs K else none
def qKg:Ctx:=mkC 74 ((qOV (qNc (qJP (qOU (qGL (qMU (qJz (qSh (qFl (qF3 qO))))))))))) [(11,[7,64,65,66],[4])] qhZ
theorem qVm:CtxOK Tryz.prog qKg:=mkC_ok ((qVx _ (qUa _ (qLi _ (qVt _ (qH0 _ (qSE _ (qMy _ (qdx _ (qGn _ (qHZ _ qP)))))))))))
def qOS (f:Nat) (x0:Nat) (x1 x2:Int) (x3 x4:LI) (x5:Int) (x6 x7:LL) (x8 x9:Int) (x10 x11:Int) (x12:Bool) (x13:Nat) (x14:LL) (x15 x16:LI) (x17:Int) (x18 x19:LL) (x20:List (LI×LI)):Option ((Bool×LI×LI×Int×LL×LL)⊕(LI×LI×Int×LL×LL)):=qh qKg 1 [7,64,65,66] [4] (qI Tryz.f32 11) f ([.s (.ptr 1 0 none 0),.s (.sl 2 0 x0 true),.s (.i .i64 x1),.s (.i .i64 x2)]) ([.rcells 84 [.arr .i8 81 x3,.arr .i8 16 x4,.one [.i .i8 x5],.rows [.i .u64,.i .u64] 32 x6,.rows [.i .u64,.i .u64] 2 x7],.cells 75 [.one [.ptr 3 0 none 0,.i .i64 x8,.i .i64 x9,.i .u64 x10,.i .u64 x11,.mp 4,.b x12]],.sli 41 false (.rows [.i .i64,.i .i64,.i .i64,.b] x13 x14),.cells 84 [.arr .i8 81 x15,.arr .i8 16 x16,.one [.i .i8 x17],.rows [.i .u64,.i .u64] 32 x18,.rows [.i .u64,.i .u64] 2 x19],.map false true [.i .i64] [.i .u64,.i .u64] x20]) qOR
theorem qhY (f:Nat) (x0:Nat) (x1 x2:Int) (x3 x4:LI) (x5:Int) (x6 x7:LL) (x8 x9:Int) (x10 x11:Int) (x12:Bool) (x13:Nat) (x14:LL) (x15 x16:LI) (x17:Int) (x18 x19:LL) (x20:List (LI×LI)):qOS (f+1) x0 x1 x2 x3 x4 x5 x6 x7 x8 x9 x10 x11 x12 x13 x14 x15 x16 x17 x18 x19 x20=qHM (qOS f) x0 x1 x2 x3 x4 x5 x6 x7 x8 x9 x10 x11 x12 x13 x14 x15 x16 x17 x18 x19 x20:=by kernel_rfl
theorem qVo:∀ f,qOS f=qE8 f
 | 0=>rfl
 | f+1=>by funext x0 x1 x2 x3 x4 x5 x6 x7 x8 x9 x10 x11 x12 x13 x14 x15 x16 x17 x18 x19 x20;rw[qhY,qVo f];rfl
theorem qhb:qd Tryz.prog qKg 1 (qI Tryz.f32 11):=
 ql mixed qVm (qT.of (l':=[]) (by kernel_rfl) trivial) (q:=11) (kin:=[7,64,65,66]) (kout:=[4]) (by kernel_rfl) (by kernel_rfl) fun vs objs K r h=>by
  replace h:qOT vs objs K=some r:=h
  unfold qOT at h
  split at h
  ·skip
   obtain⟨t,h1,h2⟩:=qG h
   rw[<- qVo] at h1
   refine⟨_,qOR,t,qC,h1,fun e vs' objs' hd=>?_⟩
   unfold qOR at hd
   split at hd
   ·skip
    cases hd
    exact h2
   ·skip
    cases hd
    exact h2
   ·cases hd
  ·cases h
def qVn:V->List Obj->Option (Bool):=fun v objs=>match v,objs with
 | .s (.b y0),[]=>some (y0)
 | _,_=>none
theorem qhX (x0:Int) (x1 x2:LI) (x3:Int) (x4 x5:LL):fnE qKg Tryz.f32 ([.s (.ptr 0 0 none 0),.s (.i .i64 x0)]) ([.rcells 84 [.arr .i8 81 x1,.arr .i8 16 x2,.one [.i .i8 x3],.rows [.i .u64,.i .u64] 32 x4,.rows [.i .u64,.i .u64] 2 x5]]) (qAo 1 qVn)=qIu x0 x1 x2 x3 x4 x5:=by kernel_rfl
def qVl:HA:=fun o vs objs K=>match vs,List.map Obj.toRO objs with
 | [.s (.ptr 0 0 none 0),.s (.i .i64 x0)],[.rcells 84 [.arr .i8 81 x1,.arr .i8 16 x2,.one [.i .i8 x3],.rows [.i .u64,.i .u64] 32 x4,.rows [.i .u64,.i .u64] 2 x5]]=>ob (qIu x0 x1 x2 x3 x4 x5) fun y0=>K true (.s (.b y0)) ([])
 | _,_=>o 32 vs objs K
def qVp (o:Orc):Orc:=qR 32 (qVl o) o
theorem qha:OQ Tryz.prog qVp:=fun _ ho=>qS ho fun vs objs K r h=>by
 unfold qVl at h
 split at h
 ·skip
  have hq:List.map Obj.toRO objs=_:=(by rename_i hq;first | exact hq | assumption)
  obtain⟨t,h1,h2⟩:=qG h
  refine qA5 mixed qVm (m:=1) (fn:=Tryz.f32) (b:=(Tryz.f32).body.getD .skip) (by kernel_rfl) (by kernel_rfl) (by kernel_rfl) hq (by kernel_rfl) (by kernel_rfl) (qT.of (l':=[qI Tryz.f32 11]) (by kernel_rfl) ⟨qhb,trivial⟩) ((qhX _ _ _ _ _ _).trans h1) fun v objs' hd=>?_
  unfold qVn at hd;split at hd;(cases hd;exact h2);cases hd
 ·exact ho _ _ _ _ _ h
end
end Go.Kk.KkSR
