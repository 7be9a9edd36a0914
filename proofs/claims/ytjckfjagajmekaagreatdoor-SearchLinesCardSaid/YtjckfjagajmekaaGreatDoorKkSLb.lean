/- Printed by a tool of this project (KkGen): the program's functions come to the plain ones. -/
import Derived.Test.YtjckfjagajmekaaGreatDoorKkSL
namespace Go.Kk.KkSL
noncomputable section
open Go.Proofs Go.Kk.Pl
set_option maxRecDepth 100000
set_option maxHeartbeats 4000000
def qR3:Ex->List V->List Obj->Option (Int×Int×Int×Int):=fun e vs objs=>match e,vs,objs with
 | .exit 0,[.s (.ptr 0 0 none 0),.s (.ptr 1 0 none 0)],[.cells 72 [.one [.i .u64 y0,.i .u64 y1]],.cells 72 [.one [.i .u64 y2,.i .u64 y3]]]=>some (y0,y1,y2,y3)
 | _,_,_=>none
def qR5:HL:=fun vs objs K=>match vs,objs with
 | [.s (.i .i8 x0),.s (.i .i64 x1),.s (.ptr 0 0 none 0),.s (.ptr 1 0 none 0),.s (.sl 2 0 x2 true),.s (.i .i64 x3),.s (.i .i64 x4)],[.cells 72 [.one [.i .u64 x5,.i .u64 x6]],.cells 72 [.one [.i .u64 x7,.i .u64 x8]],.sli 141 false (.rows [.i .i64,.i .i64] x9 x10)]=>ob (qFk qC x0 x1 x2 x3 x4 x5 x6 x7 x8 x9 x10) fun z=>K (.exit 0) ([.s (.ptr 0 0 none 0),.s (.ptr 1 0 none 0)]) ([.cells 72 [.one [.i .u64 (z.1),.i .u64 (z.2.1)]],.cells 72 [.one [.i .u64 (z.2.2.1),.i .u64 (z.2.2.2)]]])
 | _,_=>none
def qqW:{R:Type}->Nat->List V->List Obj->(Ex->List V->List Obj->Option R)->Option R:=fun q vs objs K=>bif Nat.beq q 3 then qR5 vs objs K else none
def qMW:Ctx:=mkC 26 ((qEa (qRz (qR0 (qFH (qR1 qC (qCt qM))))))) [(3,[0,1,4,5,10,11,12],[4,5])] qqW
theorem qck:CtxOK Tryz.prog qMW:=mkC_ok ((qFg _ (qcY _ (qcc _ (qGH _ (qqP qC _ (qC8 _ qO)))))))
def qR4 (f:Nat) (x0 x1:Int) (x2:Nat) (x3 x4:Int) (x5 x6:Int) (x7 x8:Int) (x9:Nat) (x10:LL):Option (Int×Int×Int×Int):=qh qMW 0 [0,1,4,5,10,11,12] [4,5] (qG Tryz.f107 3) f ([.s (.i .i8 x0),.s (.i .i64 x1),.s (.ptr 0 0 none 0),.s (.ptr 1 0 none 0),.s (.sl 2 0 x2 true),.s (.i .i64 x3),.s (.i .i64 x4)]) ([.cells 72 [.one [.i .u64 x5,.i .u64 x6]],.cells 72 [.one [.i .u64 x7,.i .u64 x8]],.sli 141 false (.rows [.i .i64,.i .i64] x9 x10)]) qR3
theorem qqV (f:Nat) (x0 x1:Int) (x2:Nat) (x3 x4:Int) (x5 x6:Int) (x7 x8:Int) (x9:Nat) (x10:LL):qR4 (f+1) x0 x1 x2 x3 x4 x5 x6 x7 x8 x9 x10=qIQ (qR4 f) x0 x1 x2 x3 x4 x5 x6 x7 x8 x9 x10:=by kernel_rfl
theorem qcm:∀ f,qR4 f=qFk f
 | 0=>rfl
 | f+1=>by funext x0 x1 x2 x3 x4 x5 x6 x7 x8 x9 x10;rw[qqV,qcm f];rfl
theorem qqY:qe Tryz.prog qMW 0 (qG Tryz.f107 3):=
 qj mixed qck (qT.of (l':=[]) (by kernel_rfl) trivial) (q:=3) (kin:=[0,1,4,5,10,11,12]) (kout:=[4,5]) (by kernel_rfl) (by kernel_rfl) fun vs objs K r h=>by
  replace h:qR5 vs objs K=some r:=h
  unfold qR5 at h
  split at h
  ·skip
   obtain⟨t,h1,h2⟩:=qF h
   rw[<- qcm] at h1
   refine⟨_,qR3,t,qC,h1,fun e vs' objs' hd=>?_⟩
   unfold qR3 at hd;split at hd;(cases hd;exact h2);cases hd
  ·cases h
def qcl:V->List Obj->Option (Int×Int):=fun v objs=>match v,objs with
 | .agg [.one [.i .u64 y0,.i .u64 y1]],[]=>some (y0,y1)
 | _,_=>none
theorem qqU (x0 x1:Int):fnE qMW Tryz.f107 ([.s (.i .i8 x0),.s (.i .i64 x1)]) ([]) qcl=qJy x0 x1:=by kernel_rfl
def qcj:HA:=fun o vs objs K=>match vs,objs with
 | [.s (.i .i8 x0),.s (.i .i64 x1)],[]=>ob (qJy x0 x1) fun z=>K false (.agg [.one [.i .u64 (z.1),.i .u64 (z.2)]]) ([])
 | _,_=>o 107 vs objs K
def qcn (o:Orc):Orc:=qP 107 (qcj o) o
theorem qqX:OQ Tryz.prog qcn:=fun _ ho=>qQ ho fun vs objs K r h=>by
 unfold qcj at h
 split at h
 ·skip
  obtain⟨t,h1,h2⟩:=qF h
  refine qAe mixed qck (fn:=Tryz.f107) (b:=(Tryz.f107).body.getD .skip) (by kernel_rfl) (by kernel_rfl) (by kernel_rfl) ((qqU _ _).trans h1) (m:=0) rfl (qT.of (l':=[qG Tryz.f107 3]) (by kernel_rfl) ⟨qqY,trivial⟩) fun v objs' hd=>?_
  unfold qcl at hd;split at hd;(cases hd;exact h2);cases hd
 ·exact ho _ _ _ _ _ h
def qPk:Ex->List V->List Obj->Option (Int×Int×Int×Int):=fun e vs objs=>match e,vs,objs with
 | .exit 0,[.s (.ptr 0 0 none 0),.s (.ptr 1 0 none 0)],[.cells 72 [.one [.i .u64 y0,.i .u64 y1]],.cells 72 [.one [.i .u64 y2,.i .u64 y3]]]=>some (y0,y1,y2,y3)
 | _,_,_=>none
def qPn:HL:=fun vs objs K=>match vs,objs with
 | [.s (.i .i8 x0),.s (.i .i64 x1),.s (.ptr 0 0 none 0),.s (.ptr 1 0 none 0),.s (.ptr 2 0 none 0),.s (.sl 3 0 x2 true),.s (.i .i64 x3),.s (.i .i64 x4)],[.cells 72 [.one [.i .u64 x5,.i .u64 x6]],.cells 72 [.one [.i .u64 x7,.i .u64 x8]],.cells 72 [.one [.i .u64 x9,.i .u64 x10]],.sli 141 false (.rows [.i .i64,.i .i64] x11 x12)]=>ob (qFL qC x0 x1 x2 x3 x4 x5 x6 x7 x8 x9 x10 x11 x12) fun z=>K (.exit 0) ([.s (.ptr 0 0 none 0),.s (.ptr 1 0 none 0)]) ([.cells 72 [.one [.i .u64 (z.1),.i .u64 (z.2.1)]],.cells 72 [.one [.i .u64 (z.2.2.1),.i .u64 (z.2.2.2)]]])
 | _,_=>none
def qln:{R:Type}->Nat->List V->List Obj->(Ex->List V->List Obj->Option R)->Option R:=fun q vs objs K=>bif Nat.beq q 3 then qPn vs objs K else none
def qLf:Ctx:=mkC 32 ((qGZ (qPq (qR0 (qFH (qPj (qCt (qcn qM)))))))) [(3,[0,1,5,6,7,15,16,17],[6,7])] qln
theorem qX7:CtxOK Tryz.prog qLf:=mkC_ok ((qIJ _ (qYE _ (qcc _ (qGH _ (qX5 _ (qC8 _ (qqX _ qO))))))))
def qPl (f:Nat) (x0 x1:Int) (x2:Nat) (x3 x4:Int) (x5 x6:Int) (x7 x8:Int) (x9 x10:Int) (x11:Nat) (x12:LL):Option (Int×Int×Int×Int):=qh qLf 0 [0,1,5,6,7,15,16,17] [6,7] (qG Tryz.f67 3) f ([.s (.i .i8 x0),.s (.i .i64 x1),.s (.ptr 0 0 none 0),.s (.ptr 1 0 none 0),.s (.ptr 2 0 none 0),.s (.sl 3 0 x2 true),.s (.i .i64 x3),.s (.i .i64 x4)]) ([.cells 72 [.one [.i .u64 x5,.i .u64 x6]],.cells 72 [.one [.i .u64 x7,.i .u64 x8]],.cells 72 [.one [.i .u64 x9,.i .u64 x10]],.sli 141 false (.rows [.i .i64,.i .i64] x11 x12)]) qPk
theorem qlm (f:Nat) (x0 x1:Int) (x2:Nat) (x3 x4:Int) (x5 x6:Int) (x7 x8:Int) (x9 x10:Int) (x11:Nat) (x12:LL):qPl (f+1) x0 x1 x2 x3 x4 x5 x6 x7 x8 x9 x10 x11 x12=qHo (qPl f) x0 x1 x2 x3 x4 x5 x6 x7 x8 x9 x10 x11 x12:=by kernel_rfl
theorem qX9:∀ f,qPl f=qFL f
 | 0=>rfl
 | f+1=>by funext x0 x1 x2 x3 x4 x5 x6 x7 x8 x9 x10 x11 x12;rw[qlm,qX9 f];rfl
theorem qlo:qe Tryz.prog qLf 0 (qG Tryz.f67 3):=
 qj mixed qX7 (qT.of (l':=[]) (by kernel_rfl) trivial) (q:=3) (kin:=[0,1,5,6,7,15,16,17]) (kout:=[6,7]) (by kernel_rfl) (by kernel_rfl) fun vs objs K r h=>by
  replace h:qPn vs objs K=some r:=h
  unfold qPn at h
  split at h
  ·skip
   obtain⟨t,h1,h2⟩:=qF h
   rw[<- qX9] at h1
   refine⟨_,qPk,t,qC,h1,fun e vs' objs' hd=>?_⟩
   unfold qPk at hd;split at hd;(cases hd;exact h2);cases hd
  ·cases h
def qX8:V->List Obj->Option (Int×Int):=fun v objs=>match v,objs with
 | .agg [.one [.i .u64 y0,.i .u64 y1]],[]=>some (y0,y1)
 | _,_=>none
theorem qll (x0 x1:Int) (x2 x3:Int):fnE qLf Tryz.f67 ([.s (.i .i8 x0),.s (.i .i64 x1),.agg [.one [.i .u64 x2,.i .u64 x3]]]) ([]) qX8=qFK x0 x1 x2 x3:=by kernel_rfl
def qX6:HA:=fun o vs objs K=>match vs,objs with
 | [.s (.i .i8 x0),.s (.i .i64 x1),.agg [.one [.i .u64 x2,.i .u64 x3]]],[]=>ob (qFK x0 x1 x2 x3) fun z=>K false (.agg [.one [.i .u64 (z.1),.i .u64 (z.2)]]) ([])
 | _,_=>o 67 vs objs K
def qLg (o:Orc):Orc:=qP 67 (qX6 o) o
theorem qPm:OQ Tryz.prog qLg:=fun _ ho=>qQ ho fun vs objs K r h=>by
 unfold qX6 at h
 split at h
 ·skip
  obtain⟨t,h1,h2⟩:=qF h
  refine qAe mixed qX7 (fn:=Tryz.f67) (b:=(Tryz.f67).body.getD .skip) (by kernel_rfl) (by kernel_rfl) (by kernel_rfl) ((qll _ _ _ _).trans h1) (m:=0) rfl (qT.of (l':=[qG Tryz.f67 3]) (by kernel_rfl) ⟨qlo,trivial⟩) fun v objs' hd=>?_
  unfold qX8 at hd;split at hd;(cases hd;exact h2);cases hd
 ·exact ho _ _ _ _ _ h
def qM2:Ex->List V->List Obj->Option (Int×Int×Nat×Int×Int×LI×LI×Int×LL×LL×List (LI×LI)×Nat×LI):=fun e vs objs=>match e,vs,objs with
 | .exit 2,[.s (.ptr 0 0 none 0),.s (.i .i64 y0),.s (.mp 1),.s (.i .i64 y1),.s (.sl 2 0 y2 true),.s (.i .i64 y3),.s (.i .i64 y4)],[.rcells 84 [.arr .i8 81 y5,.arr .i8 16 y6,.one [.i .i8 y7],.rows [.i .u64,.i .u64] 32 y8,.rows [.i .u64,.i .u64] 2 y9],.map false true [.i .i64] [.i .u64,.i .u64] y10,.sli 3 false (.arr .i64 y11 y12)]=>some (y0,y1,y2,y3,y4,y5,y6,y7,y8,y9,y10,y11,y12)
 | _,_,_=>none
def qM0:Ex->List V->List Obj->Option (LI×LI×Int×LL×LL×List (LI×LI)):=fun e vs objs=>match e,vs,objs with
 | .exit 0,[.s (.mp 1)],[.rcells 84 [.arr .i8 81 y0,.arr .i8 16 y1,.one [.i .i8 y2],.rows [.i .u64,.i .u64] 32 y3,.rows [.i .u64,.i .u64] 2 y4],.map false true [.i .i64] [.i .u64,.i .u64] y5]=>some (y0,y1,y2,y3,y4,y5)
 | _,_,_=>none
def qM5:HL:=fun vs objs K=>match vs,objs with
 | [.s (.ptr 0 0 none 0),.s (.i .i64 x0),.s (.mp 1),.s (.i .i64 x1),.s (.sl 2 0 x2 true),.s (.i .i64 x3),.s (.i .i64 x4),.s (.sl 3 0 x5 true),.s (.i .i64 x6),.s (.i .i64 x7)],[.rcells 84 [.arr .i8 81 x8,.arr .i8 16 x9,.one [.i .i8 x10],.rows [.i .u64,.i .u64] 32 x11,.rows [.i .u64,.i .u64] 2 x12],.map false true [.i .i64] [.i .u64,.i .u64] x13,.sli 3 false (.arr .i64 x14 x15),.sli 3 false (.arr .i64 x16 x17)]=>ob (qEp qC x0 x1 x2 x3 x4 x5 x6 x7 x8 x9 x10 x11 x12 x13 x14 x15 x16 x17) fun z=>K (.exit 2) ([.s (.ptr 0 0 none 0),.s (.i .i64 (z.1)),.s (.mp 1),.s (.i .i64 (z.2.1)),.s (.sl 2 0 (z.2.2.1) true),.s (.i .i64 (z.2.2.2.1)),.s (.i .i64 (z.2.2.2.2.1))]) ([.rcells 84 [.arr .i8 81 (z.2.2.2.2.2.1),.arr .i8 16 (z.2.2.2.2.2.2.1),.one [.i .i8 (z.2.2.2.2.2.2.2.1)],.rows [.i .u64,.i .u64] 32 (z.2.2.2.2.2.2.2.2.1),.rows [.i .u64,.i .u64] 2 (z.2.2.2.2.2.2.2.2.2.1)],.map false true [.i .i64] [.i .u64,.i .u64] (z.2.2.2.2.2.2.2.2.2.2.1),.sli 3 false (.arr .i64 (z.2.2.2.2.2.2.2.2.2.2.2.1) (z.2.2.2.2.2.2.2.2.2.2.2.2))])
 | _,_=>none
def qM4:HL:=fun vs objs K=>match vs,objs with
 | [.s (.ptr 0 0 none 0),.s (.i .i64 x0),.s (.mp 1),.s (.i .i64 x1),.s (.sl 2 0 x2 true),.s (.i .i64 x3),.s (.i .i64 x4)],[.rcells 84 [.arr .i8 81 x5,.arr .i8 16 x6,.one [.i .i8 x7],.rows [.i .u64,.i .u64] 32 x8,.rows [.i .u64,.i .u64] 2 x9],.map false true [.i .i64] [.i .u64,.i .u64] x10,.sli 3 false (.arr .i64 x11 x12)]=>ob (qEo qC x0 x1 x2 x3 x4 x5 x6 x7 x8 x9 x10 x11 x12) fun z=>K (.exit 0) ([.s (.mp 1)]) ([.rcells 84 [.arr .i8 81 (z.1),.arr .i8 16 (z.2.1),.one [.i .i8 (z.2.2.1)],.rows [.i .u64,.i .u64] 32 (z.2.2.2.1),.rows [.i .u64,.i .u64] 2 (z.2.2.2.2.1)],.map false true [.i .i64] [.i .u64,.i .u64] (z.2.2.2.2.2)])
 | _,_=>none
def qec:{R:Type}->Nat->List V->List Obj->(Ex->List V->List Obj->Option R)->Option R:=fun q vs objs K=>bif Nat.beq q 9 then qM5 vs objs K else bif Nat.beq q 6 then qM4 vs objs K else none
def qGu:Ctx:=mkC 89 ((qEa (qGY (qLg (qJv (qFx (qMD (qJr (qNK (qRU (qGW (qG0 (qPh (qJu (qGz (qKP qM)))))))))))))))) [(6,[0,1,5,6,21,22,23],[5]),(9,[0,1,5,6,21,22,23,32,33,34],[0,1,5,6,21,22,23])] qec
theorem qMz:CtxOK Tryz.prog qGu:=mkC_ok ((qFg _ (qIG _ (qPm _ (qMM _ (qGx _ (qRW _ (qMB _ (qTe _ (qbG _ (qIE _ (qIn _ (qX1 _ (qML _ (qIm _ (qNG _ qO))))))))))))))))
def qM3 (f:Nat) (x0 x1:Int) (x2:Nat) (x3 x4:Int) (x5:Nat) (x6 x7:Int) (x8 x9:LI) (x10:Int) (x11 x12:LL) (x13:List (LI×LI)) (x14:Nat) (x15:LI) (x16:Nat) (x17:LI):Option (Int×Int×Nat×Int×Int×LI×LI×Int×LL×LL×List (LI×LI)×Nat×LI):=qh qGu 1 [0,1,5,6,21,22,23,32,33,34] [0,1,5,6,21,22,23] (qG Tryz.f57 9) f ([.s (.ptr 0 0 none 0),.s (.i .i64 x0),.s (.mp 1),.s (.i .i64 x1),.s (.sl 2 0 x2 true),.s (.i .i64 x3),.s (.i .i64 x4),.s (.sl 3 0 x5 true),.s (.i .i64 x6),.s (.i .i64 x7)]) ([.rcells 84 [.arr .i8 81 x8,.arr .i8 16 x9,.one [.i .i8 x10],.rows [.i .u64,.i .u64] 32 x11,.rows [.i .u64,.i .u64] 2 x12],.map false true [.i .i64] [.i .u64,.i .u64] x13,.sli 3 false (.arr .i64 x14 x15),.sli 3 false (.arr .i64 x16 x17)]) qM2
theorem qeb (f:Nat) (x0 x1:Int) (x2:Nat) (x3 x4:Int) (x5:Nat) (x6 x7:Int) (x8 x9:LI) (x10:Int) (x11 x12:LL) (x13:List (LI×LI)) (x14:Nat) (x15:LI) (x16:Nat) (x17:LI):qM3 (f+1) x0 x1 x2 x3 x4 x5 x6 x7 x8 x9 x10 x11 x12 x13 x14 x15 x16 x17=qFv (qM3 f) x0 x1 x2 x3 x4 x5 x6 x7 x8 x9 x10 x11 x12 x13 x14 x15 x16 x17:=by kernel_rfl
theorem qS4:∀ f,qM3 f=qEp f
 | 0=>rfl
 | f+1=>by funext x0 x1 x2 x3 x4 x5 x6 x7 x8 x9 x10 x11 x12 x13 x14 x15 x16 x17;rw[qeb,qS4 f];rfl
def qM1 (f:Nat) (x0 x1:Int) (x2:Nat) (x3 x4:Int) (x5 x6:LI) (x7:Int) (x8 x9:LL) (x10:List (LI×LI)) (x11:Nat) (x12:LI):Option (LI×LI×Int×LL×LL×List (LI×LI)):=qh qGu 1 [0,1,5,6,21,22,23] [5] (qG Tryz.f57 6) f ([.s (.ptr 0 0 none 0),.s (.i .i64 x0),.s (.mp 1),.s (.i .i64 x1),.s (.sl 2 0 x2 true),.s (.i .i64 x3),.s (.i .i64 x4)]) ([.rcells 84 [.arr .i8 81 x5,.arr .i8 16 x6,.one [.i .i8 x7],.rows [.i .u64,.i .u64] 32 x8,.rows [.i .u64,.i .u64] 2 x9],.map false true [.i .i64] [.i .u64,.i .u64] x10,.sli 3 false (.arr .i64 x11 x12)]) qM0
theorem qea (f:Nat) (x0 x1:Int) (x2:Nat) (x3 x4:Int) (x5 x6:LI) (x7:Int) (x8 x9:LL) (x10:List (LI×LI)) (x11:Nat) (x12:LI):qM1 (f+1) x0 x1 x2 x3 x4 x5 x6 x7 x8 x9 x10 x11 x12=qGv (qM1 f) x0 x1 x2 x3 x4 x5 x6 x7 x8 x9 x10 x11 x12:=by kernel_rfl
theorem qS3:∀ f,qM1 f=qEo f
 | 0=>rfl
 | f+1=>by funext x0 x1 x2 x3 x4 x5 x6 x7 x8 x9 x10 x11 x12;rw[qea,qS3 f];rfl
theorem qef:qe Tryz.prog qGu 1 (qG Tryz.f57 9):=
 qj mixed qMz (qT.of (l':=[]) (by kernel_rfl) trivial) (q:=9) (kin:=[0,1,5,6,21,22,23,32,33,34]) (kout:=[0,1,5,6,21,22,23]) (by kernel_rfl) (by kernel_rfl) fun vs objs K r h=>by
  replace h:qM5 vs objs K=some r:=h
  unfold qM5 at h
  split at h
  ·skip
   obtain⟨t,h1,h2⟩:=qF h
   rw[<- qS4] at h1
   refine⟨_,qM2,t,qC,h1,fun e vs' objs' hd=>?_⟩
   unfold qM2 at hd;split at hd;(cases hd;exact h2);cases hd
  ·cases h
theorem qee:qe Tryz.prog qGu 1 (qG Tryz.f57 6):=
 qj mixed qMz (qT.of (l':=[qG Tryz.f57 9]) (by kernel_rfl) ⟨qef,trivial⟩) (q:=6) (kin:=[0,1,5,6,21,22,23]) (kout:=[5]) (by kernel_rfl) (by kernel_rfl) fun vs objs K r h=>by
  replace h:qM4 vs objs K=some r:=h
  unfold qM4 at h
  split at h
  ·skip
   obtain⟨t,h1,h2⟩:=qF h
   rw[<- qS3] at h1
   refine⟨_,qM0,t,qC,h1,fun e vs' objs' hd=>?_⟩
   unfold qM0 at hd;split at hd;(cases hd;exact h2);cases hd
  ·cases h
def qS2:V->List Obj->Option (List (LI×LI)):=fun v objs=>match v,objs with
 | .s (.mp 1),[.map false true [.i .i64] [.i .u64,.i .u64] y0]=>some (y0)
 | _,_=>none
theorem qeZ (x0:Int) (x1 x2:LI) (x3:Int) (x4 x5:LL):fnE qGu Tryz.f57 ([.s (.ptr 0 0 none 0),.s (.i .i64 x0)]) ([.rcells 84 [.arr .i8 81 x1,.arr .i8 16 x2,.one [.i .i8 x3],.rows [.i .u64,.i .u64] 32 x4,.rows [.i .u64,.i .u64] 2 x5]]) (qAc 1 qS2)=qGt x0 x1 x2 x3 x4 x5:=by kernel_rfl
def qS1:HA:=fun o vs objs K=>match vs,List.map Obj.toRO objs with
 | [.s (.ptr 0 0 none 0),.s (.i .i64 x0)],[.rcells 84 [.arr .i8 81 x1,.arr .i8 16 x2,.one [.i .i8 x3],.rows [.i .u64,.i .u64] 32 x4,.rows [.i .u64,.i .u64] 2 x5]]=>ob (qGt x0 x1 x2 x3 x4 x5) fun y0=>K true (.s (.mp 1)) ([.map false true [.i .i64] [.i .u64,.i .u64] y0])
 | _,_=>o 57 vs objs K
def qS5 (o:Orc):Orc:=qP 57 (qS1 o) o
theorem qed:OQ Tryz.prog qS5:=fun _ ho=>qQ ho fun vs objs K r h=>by
 unfold qS1 at h
 split at h
 ·skip
  have hq:List.map Obj.toRO objs=_:=(by rename_i hq;first | exact hq | assumption)
  obtain⟨t,h1,h2⟩:=qF h
  refine qAi mixed qMz (m:=1) (fn:=Tryz.f57) (b:=(Tryz.f57).body.getD .skip) (by kernel_rfl) (by kernel_rfl) (by kernel_rfl) hq (by kernel_rfl) (by kernel_rfl) (qT.of (l':=[qG Tryz.f57 6]) (by kernel_rfl) ⟨qee,trivial⟩) ((qeZ _ _ _ _ _ _).trans h1) fun v objs' hd=>?_
  unfold qS2 at hd;split at hd;(cases hd;exact h2);cases hd
 ·exact ho _ _ _ _ _ h
def qMv:Ex->List V->List Obj->Option (LI×LI×Int×LL×LL×Int×Int×Int×Int):=fun e vs objs=>match e,vs,objs with
 | .exit 0,[.s (.ptr 1 0 none 0),.s (.ptr 2 0 none 0)],[.rcells 84 [.arr .i8 81 y0,.arr .i8 16 y1,.one [.i .i8 y2],.rows [.i .u64,.i .u64] 32 y3,.rows [.i .u64,.i .u64] 2 y4],.cells 72 [.one [.i .u64 y5,.i .u64 y6]],.cells 72 [.one [.i .u64 y7,.i .u64 y8]]]=>some (y0,y1,y2,y3,y4,y5,y6,y7,y8)
 | _,_,_=>none
def qMy:HL:=fun vs objs K=>match vs,objs with
 | [.s (.ptr 0 0 none 0),.s (.i .i64 x0),.s (.i .i64 x1),.s (.ptr 1 0 none 0),.s (.ptr 2 0 none 0),.s (.ptr 3 0 none 0),.s (.i .i64 x2)],[.rcells 84 [.arr .i8 81 x3,.arr .i8 16 x4,.one [.i .i8 x5],.rows [.i .u64,.i .u64] 32 x6,.rows [.i .u64,.i .u64] 2 x7],.cells 72 [.one [.i .u64 x8,.i .u64 x9]],.cells 72 [.one [.i .u64 x10,.i .u64 x11]],.cells 72 [.one [.i .u64 x12,.i .u64 x13]]]=>ob (qD8 qC x0 x1 x2 x3 x4 x5 x6 x7 x8 x9 x10 x11 x12 x13) fun z=>K (.exit 0) ([.s (.ptr 1 0 none 0),.s (.ptr 2 0 none 0)]) ([.rcells 84 [.arr .i8 81 (z.1),.arr .i8 16 (z.2.1),.one [.i .i8 (z.2.2.1)],.rows [.i .u64,.i .u64] 32 (z.2.2.2.1),.rows [.i .u64,.i .u64] 2 (z.2.2.2.2.1)],.cells 72 [.one [.i .u64 (z.2.2.2.2.2.1),.i .u64 (z.2.2.2.2.2.2.1)]],.cells 72 [.one [.i .u64 (z.2.2.2.2.2.2.2.1),.i .u64 (z.2.2.2.2.2.2.2.2)]]])
 | _,_=>none
def qeX:{R:Type}->Nat->List V->List Obj->(Ex->List V->List Obj->Option R)->Option R:=fun q vs objs K=>bif Nat.beq q 5 then qMy vs objs K else none
def qKJ:Ctx:=mkC 49 ((qGZ (qGW (qGz (qLg (qGG qM)))))) [(5,[0,1,2,7,8,9,10],[8,9])] qeX
theorem qSx:CtxOK Tryz.prog qKJ:=mkC_ok ((qIJ _ (qIE _ (qIm _ (qPm _ (qHi _ qO))))))
def qMw (f:Nat) (x0 x1 x2:Int) (x3 x4:LI) (x5:Int) (x6 x7:LL) (x8 x9:Int) (x10 x11:Int) (x12 x13:Int):Option (LI×LI×Int×LL×LL×Int×Int×Int×Int):=qh qKJ 1 [0,1,2,7,8,9,10] [8,9] (qG Tryz.f72 5) f ([.s (.ptr 0 0 none 0),.s (.i .i64 x0),.s (.i .i64 x1),.s (.ptr 1 0 none 0),.s (.ptr 2 0 none 0),.s (.ptr 3 0 none 0),.s (.i .i64 x2)]) ([.rcells 84 [.arr .i8 81 x3,.arr .i8 16 x4,.one [.i .i8 x5],.rows [.i .u64,.i .u64] 32 x6,.rows [.i .u64,.i .u64] 2 x7],.cells 72 [.one [.i .u64 x8,.i .u64 x9]],.cells 72 [.one [.i .u64 x10,.i .u64 x11]],.cells 72 [.one [.i .u64 x12,.i .u64 x13]]]) qMv
theorem qeW (f:Nat) (x0 x1 x2:Int) (x3 x4:LI) (x5:Int) (x6 x7:LL) (x8 x9:Int) (x10 x11:Int) (x12 x13:Int):qMw (f+1) x0 x1 x2 x3 x4 x5 x6 x7 x8 x9 x10 x11 x12 x13=qGs (qMw f) x0 x1 x2 x3 x4 x5 x6 x7 x8 x9 x10 x11 x12 x13:=by kernel_rfl
theorem qSz:∀ f,qMw f=qD8 f
 | 0=>rfl
 | f+1=>by funext x0 x1 x2 x3 x4 x5 x6 x7 x8 x9 x10 x11 x12 x13;rw[qeW,qSz f];rfl
theorem qeY:qe Tryz.prog qKJ 1 (qG Tryz.f72 5):=
 qj mixed qSx (qT.of (l':=[]) (by kernel_rfl) trivial) (q:=5) (kin:=[0,1,2,7,8,9,10]) (kout:=[8,9]) (by kernel_rfl) (by kernel_rfl) fun vs objs K r h=>by
  replace h:qMy vs objs K=some r:=h
  unfold qMy at h
  split at h
  ·skip
   obtain⟨t,h1,h2⟩:=qF h
   rw[<- qSz] at h1
   refine⟨_,qMv,t,qC,h1,fun e vs' objs' hd=>?_⟩
   unfold qMv at hd;split at hd;(cases hd;exact h2);cases hd
  ·cases h
def qSy:V->List Obj->Option (Int×Int):=fun v objs=>match v,objs with
 | .agg [.one [.i .u64 y0,.i .u64 y1]],[]=>some (y0,y1)
 | _,_=>none
theorem qeV (x0 x1:Int) (x2 x3:Int) (x4 x5:LI) (x6:Int) (x7 x8:LL):fnE qKJ Tryz.f72 ([.s (.ptr 0 0 none 0),.s (.i .i64 x0),.s (.i .i64 x1),.agg [.one [.i .u64 x2,.i .u64 x3]]]) ([.rcells 84 [.arr .i8 81 x4,.arr .i8 16 x5,.one [.i .i8 x6],.rows [.i .u64,.i .u64] 32 x7,.rows [.i .u64,.i .u64] 2 x8]]) (qAc 1 qSy)=qGr x0 x1 x2 x3 x4 x5 x6 x7 x8:=by kernel_rfl
def qSw:HA:=fun o vs objs K=>match vs,List.map Obj.toRO objs with
 | [.s (.ptr 0 0 none 0),.s (.i .i64 x0),.s (.i .i64 x1),.agg [.one [.i .u64 x2,.i .u64 x3]]],[.rcells 84 [.arr .i8 81 x4,.arr .i8 16 x5,.one [.i .i8 x6],.rows [.i .u64,.i .u64] 32 x7,.rows [.i .u64,.i .u64] 2 x8]]=>ob (qGr x0 x1 x2 x3 x4 x5 x6 x7 x8) fun z=>K true (.agg [.one [.i .u64 (z.1),.i .u64 (z.2)]]) ([])
 | _,_=>o 72 vs objs K
def qMx (o:Orc):Orc:=qP 72 (qSw o) o
theorem qS0:OQ Tryz.prog qMx:=fun _ ho=>qQ ho fun vs objs K r h=>by
 unfold qSw at h
 split at h
 ·skip
  have hq:List.map Obj.toRO objs=_:=(by rename_i hq;first | exact hq | assumption)
  obtain⟨t,h1,h2⟩:=qF h
  refine qAi mixed qSx (m:=1) (fn:=Tryz.f72) (b:=(Tryz.f72).body.getD .skip) (by kernel_rfl) (by kernel_rfl) (by kernel_rfl) hq (by kernel_rfl) (by kernel_rfl) (qT.of (l':=[qG Tryz.f72 5]) (by kernel_rfl) ⟨qeY,trivial⟩) ((qeV _ _ _ _ _ _ _ _ _).trans h1) fun v objs' hd=>?_
  unfold qSy at hd;split at hd;(cases hd;exact h2);cases hd
 ·exact ho _ _ _ _ _ h
def qSt:Ctx:=mkC 14 ((qMx (qG0 (qKP qM)))) [] qW
theorem qeU:CtxOK Tryz.prog qSt:=mkC_ok ((qS0 _ (qIn _ (qNG _ qO))))
def qSu:V->List Obj->Option (Int×Int):=fun v objs=>match v,objs with
 | .agg [.one [.i .u64 y0,.i .u64 y1]],[]=>some (y0,y1)
 | _,_=>none
theorem qeT (x0:Int) (x1 x2:LI) (x3:Int) (x4 x5:LL):fnE qSt Tryz.f58 ([.s (.ptr 0 0 none 0),.s (.i .i64 x0)]) ([.rcells 84 [.arr .i8 81 x1,.arr .i8 16 x2,.one [.i .i8 x3],.rows [.i .u64,.i .u64] 32 x4,.rows [.i .u64,.i .u64] 2 x5]]) (qAc 1 qSu)=qGq x0 x1 x2 x3 x4 x5:=by kernel_rfl
def qSs:HA:=fun o vs objs K=>match vs,List.map Obj.toRO objs with
 | [.s (.ptr 0 0 none 0),.s (.i .i64 x0)],[.rcells 84 [.arr .i8 81 x1,.arr .i8 16 x2,.one [.i .i8 x3],.rows [.i .u64,.i .u64] 32 x4,.rows [.i .u64,.i .u64] 2 x5]]=>ob (qGq x0 x1 x2 x3 x4 x5) fun z=>K true (.agg [.one [.i .u64 (z.1),.i .u64 (z.2)]]) ([])
 | _,_=>o 58 vs objs K
def qMu (o:Orc):Orc:=qP 58 (qSs o) o
theorem qSv:OQ Tryz.prog qMu:=fun _ ho=>qQ ho fun vs objs K r h=>by
 unfold qSs at h
 split at h
 ·skip
  have hq:List.map Obj.toRO objs=_:=(by rename_i hq;first | exact hq | assumption)
  obtain⟨t,h1,h2⟩:=qF h
  refine qAi mixed qeU (m:=1) (fn:=Tryz.f58) (b:=(Tryz.f58).body.getD .skip) (by kernel_rfl) (by kernel_rfl) (by kernel_rfl) hq (by kernel_rfl) (by kernel_rfl) (qT.of (l':=[]) (by kernel_rfl) trivial) ((qeT _ _ _ _ _ _).trans h1) fun v objs' hd=>?_
  unfold qSu at hd;split at hd;(cases hd;exact h2);cases hd
 ·exact ho _ _ _ _ _ h
def qWU:Ctx:=mkC 44 ((qGZ (qPh (qMD (qRU (qMu (qS5 (qJq (qKP qM))))))))) [] qW
theorem qiy:CtxOK Tryz.prog qWU:=mkC_ok ((qIJ _ (qX1 _ (qRW _ (qbG _ (qSv _ (qed _ (qMA _ (qNG _ qO)))))))))
def qWV:V->List Obj->Option (Int×Int×Int×Int×Bool×List (LI×LI)):=fun v objs=>match v,objs with
 | .agg [.one [.ptr 0 0 none 0,.i .i64 y0,.i .i64 y1,.i .u64 y2,.i .u64 y3,.mp 1,.b y4]],[.map false true [.i .i64] [.i .u64,.i .u64] y5]=>some (y0,y1,y2,y3,y4,y5)
 | _,_=>none
theorem qix (x0 x1:LI) (x2:Int) (x3 x4:LL):fnE qWU Tryz.f27 ([.s (.ptr 0 0 none 0)]) ([.rcells 84 [.arr .i8 81 x0,.arr .i8 16 x1,.one [.i .i8 x2],.rows [.i .u64,.i .u64] 32 x3,.rows [.i .u64,.i .u64] 2 x4]]) (qAc 1 qWV)=qHX x0 x1 x2 x3 x4:=by kernel_rfl
def qWT:HA:=fun o vs objs K=>match vs,List.map Obj.toRO objs with
 | [.s (.ptr 0 0 none 0)],[.rcells 84 [.arr .i8 81 x0,.arr .i8 16 x1,.one [.i .i8 x2],.rows [.i .u64,.i .u64] 32 x3,.rows [.i .u64,.i .u64] 2 x4]]=>ob (qHX x0 x1 x2 x3 x4) fun z=>K true (.agg [.one [.ptr 0 0 none 0,.i .i64 (z.1),.i .i64 (z.2.1),.i .u64 (z.2.2.1),.i .u64 (z.2.2.2.1),.mp 1,.b (z.2.2.2.2.1)]]) ([.map false true [.i .i64] [.i .u64,.i .u64] (z.2.2.2.2.2)])
 | _,_=>o 27 vs objs K
def qOy (o:Orc):Orc:=qP 27 (qWT o) o
theorem qWW:OQ Tryz.prog qOy:=fun _ ho=>qQ ho fun vs objs K r h=>by
 unfold qWT at h
 split at h
 ·skip
  have hq:List.map Obj.toRO objs=_:=(by rename_i hq;first | exact hq | assumption)
  obtain⟨t,h1,h2⟩:=qF h
  refine qAi mixed qiy (m:=1) (fn:=Tryz.f27) (b:=(Tryz.f27).body.getD .skip) (by kernel_rfl) (by kernel_rfl) (by kernel_rfl) hq (by kernel_rfl) (by kernel_rfl) (qT.of (l':=[]) (by kernel_rfl) trivial) ((qix _ _ _ _ _).trans h1) fun v objs' hd=>?_
  unfold qWV at hd;split at hd;(cases hd;exact h2);cases hd
 ·exact ho _ _ _ _ _ h
def qXi:Ctx:=mkC 13 (qM) [] qW
theorem qlF:CtxOK Tryz.prog qXi:=mkC_ok (qO)
def qXj:V->List Obj->Option (Int):=fun v objs=>match v,objs with
 | .s (.i .i64 y0),[]=>some (y0)
 | _,_=>none
theorem qlE (x0:Int):fnE qXi Tryz.f86 ([.s (.i .i64 x0)]) ([]) qXj=qCu x0:=by kernel_rfl
def qXh:HA:=fun o vs objs K=>match vs,objs with
 | [.s (.i .i64 x0)],[]=>ob (qCu x0) fun y0=>K false (.s (.i .i64 y0)) ([])
 | _,_=>o 86 vs objs K
def qLW (o:Orc):Orc:=qP 86 (qXh o) o
theorem qPZ:OQ Tryz.prog qLW:=fun _ ho=>qQ ho fun vs objs K r h=>by
 unfold qXh at h
 split at h
 ·skip
  obtain⟨t,h1,h2⟩:=qF h
  refine qa mixed qlF ((qlE _).trans h1) (by kernel_rfl) fun v objs' hd=>?_
  unfold qXj at hd;split at hd;(cases hd;exact h2);cases hd
 ·exact ho _ _ _ _ _ h
def qcg:Ctx:=mkC 23 ((qMI qM)) [] qW
theorem qqT:CtxOK Tryz.prog qcg:=mkC_ok ((qRe _ qO))
def qch:V->List Obj->Option (Int):=fun v objs=>match v,objs with
 | .s (.i .i64 y0),[]=>some (y0)
 | _,_=>none
theorem qqS (x0 x1:Int):fnE qcg Tryz.f123 ([.s (.i .i64 x0),.s (.i .i64 x1)]) ([]) qch=qFj x0 x1:=by kernel_rfl
def qcf:HA:=fun o vs objs K=>match vs,objs with
 | [.s (.i .i64 x0),.s (.i .i64 x1)],[]=>ob (qFj x0 x1) fun y0=>K false (.s (.i .i64 y0)) ([])
 | _,_=>o 123 vs objs K
def qR2 (o:Orc):Orc:=qP 123 (qcf o) o
theorem qci:OQ Tryz.prog qR2:=fun _ ho=>qQ ho fun vs objs K r h=>by
 unfold qcf at h
 split at h
 ·skip
  obtain⟨t,h1,h2⟩:=qF h
  refine qa mixed qqT ((qqS _ _).trans h1) (by kernel_rfl) fun v objs' hd=>?_
  unfold qch at hd;split at hd;(cases hd;exact h2);cases hd
 ·exact ho _ _ _ _ _ h
def qR6:Ex->List V->List Obj->Option (Int×Int×Int×Int):=fun e vs objs=>match e,vs,objs with
 | .exit 0,[.s (.ptr 0 0 none 0),.s (.ptr 1 0 none 0)],[.cells 72 [.one [.i .u64 y0,.i .u64 y1]],.cells 72 [.one [.i .u64 y2,.i .u64 y3]]]=>some (y0,y1,y2,y3)
 | _,_,_=>none
def qR8:HL:=fun vs objs K=>match vs,objs with
 | [.s (.i .i64 x0),.s (.ptr 0 0 none 0),.s (.ptr 1 0 none 0),.s (.i .i64 x1)],[.cells 72 [.one [.i .u64 x2,.i .u64 x3]],.cells 72 [.one [.i .u64 x4,.i .u64 x5]]]=>ob (qMY qC x0 x1 x2 x3 x4 x5) fun z=>K (.exit 0) ([.s (.ptr 0 0 none 0),.s (.ptr 1 0 none 0)]) ([.cells 72 [.one [.i .u64 (z.1),.i .u64 (z.2.1)]],.cells 72 [.one [.i .u64 (z.2.2.1),.i .u64 (z.2.2.2)]]])
 | _,_=>none
def qqb:{R:Type}->Nat->List V->List Obj->(Ex->List V->List Obj->Option R)->Option R:=fun q vs objs K=>bif Nat.beq q 3 then qR8 vs objs K else none
def qMX:Ctx:=mkC 23 ((qEa (qR2 qM))) [(3,[0,2,3,6],[2,3])] qqb
theorem qcp:CtxOK Tryz.prog qMX:=mkC_ok ((qFg _ (qci _ qO)))
def qR7 (f:Nat) (x0 x1:Int) (x2 x3:Int) (x4 x5:Int):Option (Int×Int×Int×Int):=qh qMX 0 [0,2,3,6] [2,3] (qG Tryz.f109 3) f ([.s (.i .i64 x0),.s (.ptr 0 0 none 0),.s (.ptr 1 0 none 0),.s (.i .i64 x1)]) ([.cells 72 [.one [.i .u64 x2,.i .u64 x3]],.cells 72 [.one [.i .u64 x4,.i .u64 x5]]]) qR6
theorem qqa (f:Nat) (x0 x1:Int) (x2 x3:Int) (x4 x5:Int):qR7 (f+1) x0 x1 x2 x3 x4 x5=qcs (qR7 f) x0 x1 x2 x3 x4 x5:=by kernel_rfl
theorem qcr:∀ f,qR7 f=qMY f
 | 0=>rfl
 | f+1=>by funext x0 x1 x2 x3 x4 x5;rw[qqa,qcr f];rfl
theorem qqd:qe Tryz.prog qMX 0 (qG Tryz.f109 3):=
 qj mixed qcp (qT.of (l':=[]) (by kernel_rfl) trivial) (q:=3) (kin:=[0,2,3,6]) (kout:=[2,3]) (by kernel_rfl) (by kernel_rfl) fun vs objs K r h=>by
  replace h:qR8 vs objs K=some r:=h
  unfold qR8 at h
  split at h
  ·skip
   obtain⟨t,h1,h2⟩:=qF h
   rw[<- qcr] at h1
   refine⟨_,qR6,t,qC,h1,fun e vs' objs' hd=>?_⟩
   unfold qR6 at hd;split at hd;(cases hd;exact h2);cases hd
  ·cases h
def qcq:V->List Obj->Option (Int×Int):=fun v objs=>match v,objs with
 | .agg [.one [.i .u64 y0,.i .u64 y1]],[]=>some (y0,y1)
 | _,_=>none
theorem qqZ (x0:Int):fnE qMX Tryz.f109 ([.s (.i .i64 x0)]) ([]) qcq=qJz x0:=by kernel_rfl
def qco:HA:=fun o vs objs K=>match vs,objs with
 | [.s (.i .i64 x0)],[]=>ob (qJz x0) fun z=>K false (.agg [.one [.i .u64 (z.1),.i .u64 (z.2)]]) ([])
 | _,_=>o 109 vs objs K
def qct (o:Orc):Orc:=qP 109 (qco o) o
theorem qqc:OQ Tryz.prog qct:=fun _ ho=>qQ ho fun vs objs K r h=>by
 unfold qco at h
 split at h
 ·skip
  obtain⟨t,h1,h2⟩:=qF h
  refine qAe mixed qcp (fn:=Tryz.f109) (b:=(Tryz.f109).body.getD .skip) (by kernel_rfl) (by kernel_rfl) (by kernel_rfl) ((qqZ _).trans h1) (m:=0) rfl (qT.of (l':=[qG Tryz.f109 3]) (by kernel_rfl) ⟨qqd,trivial⟩) fun v objs' hd=>?_
  unfold qcq at hd;split at hd;(cases hd;exact h2);cases hd
 ·exact ho _ _ _ _ _ h
def qcS:Ctx:=mkC 25 ((qCt (qR2 (qFH qM)))) [] qW
theorem qqI:CtxOK Tryz.prog qcS:=mkC_ok ((qC8 _ (qci _ (qGH _ qO))))
def qcT:V->List Obj->Option (Bool):=fun v objs=>match v,objs with
 | .s (.b y0),[]=>some (y0)
 | _,_=>none
theorem qqH (x0 x1:Int):fnE qcS Tryz.f110 ([.s (.i .i8 x0),.s (.i .i64 x1)]) ([]) qcT=qEd x0 x1:=by kernel_rfl
def qcR:HA:=fun o vs objs K=>match vs,objs with
 | [.s (.i .i8 x0),.s (.i .i64 x1)],[]=>ob (qEd x0 x1) fun y0=>K false (.s (.b y0)) ([])
 | _,_=>o 110 vs objs K
def qRy (o:Orc):Orc:=qP 110 (qcR o) o
theorem qcU:OQ Tryz.prog qRy:=fun _ ho=>qQ ho fun vs objs K r h=>by
 unfold qcR at h
 split at h
 ·skip
  obtain⟨t,h1,h2⟩:=qF h
  refine qa mixed qqI ((qqH _ _).trans h1) (by kernel_rfl) fun v objs' hd=>?_
  unfold qcT at hd;split at hd;(cases hd;exact h2);cases hd
 ·exact ho _ _ _ _ _ h
def qVK:Ctx:=mkC 27 ((qRy (qGY (qct (qFH (qLW (qCt qM))))))) [] qW
theorem qhY:CtxOK Tryz.prog qVK:=mkC_ok ((qcU _ (qIG _ (qqc _ (qGH _ (qPZ _ (qC8 _ qO)))))))
def qVL:V->List Obj->Option (Bool×Bool):=fun v objs=>match v,objs with
 | .tup [W.s (.b y0),W.s (.b y1)],[]=>some (y0,y1)
 | _,_=>none
theorem qhX (x0 x1 x2:Int):fnE qVK Tryz.f71 ([.s (.i .i8 x0),.s (.i .i64 x1),.s (.i .i64 x2)]) ([]) qVL=qJA x0 x1 x2:=by kernel_rfl
def qVJ:HA:=fun o vs objs K=>match vs,objs with
 | [.s (.i .i8 x0),.s (.i .i64 x1),.s (.i .i64 x2)],[]=>ob (qJA x0 x1 x2) fun z=>K false (.tup [W.s (.b (z.1)),W.s (.b (z.2))]) ([])
 | _,_=>o 71 vs objs K
def qVM (o:Orc):Orc:=qP 71 (qVJ o) o
theorem qhZ:OQ Tryz.prog qVM:=fun _ ho=>qQ ho fun vs objs K r h=>by
 unfold qVJ at h
 split at h
 ·skip
  obtain⟨t,h1,h2⟩:=qF h
  refine qa mixed qhY ((qhX _ _ _).trans h1) (by kernel_rfl) fun v objs' hd=>?_
  unfold qVL at hd;split at hd;(cases hd;exact h2);cases hd
 ·exact ho _ _ _ _ _ h
def qNw:Ex->List V->List Obj->Option (Nat×Int×Nat×Int×Int×LI×LI×Int×LL×LL×Int×Int×Nat×LL×Int×Int×Nat×LI):=fun e vs objs=>match e,vs,objs with
 | .exit 2,[.s (.ptr 0 0 none 0),.s (.ptr 1 0 none 0),.s (.sl 2 0 y0 true),.s (.i .i64 y1),.s (.ptr 3 0 none 0),.s (.sl 4 0 y2 true),.s (.i .i64 y3),.s (.i .i64 y4)],[.rcells 84 [.arr .i8 81 y5,.arr .i8 16 y6,.one [.i .i8 y7],.rows [.i .u64,.i .u64] 32 y8,.rows [.i .u64,.i .u64] 2 y9],.cells 72 [.one [.i .u64 y10,.i .u64 y11]],.sli 41 false (.rows [.i .i64,.i .i64,.i .i64,.b] y12 y13),.cells 72 [.one [.i .u64 y14,.i .u64 y15]],.sli 3 false (.arr .i64 y16 y17)]=>some (y0,y1,y2,y3,y4,y5,y6,y7,y8,y9,y10,y11,y12,y13,y14,y15,y16,y17)
 | _,_,_=>none
def qNu:Ex->List V->List Obj->Option (Nat×LI×LI×Int×LL×LL×Nat×LL):=fun e vs objs=>match e,vs,objs with
 | .exit 0,[.s (.sl 1 0 y0 true)],[.rcells 84 [.arr .i8 81 y1,.arr .i8 16 y2,.one [.i .i8 y3],.rows [.i .u64,.i .u64] 32 y4,.rows [.i .u64,.i .u64] 2 y5],.sli 41 false (.rows [.i .i64,.i .i64,.i .i64,.b] y6 y7)]=>some (y0,y1,y2,y3,y4,y5,y6,y7)
 | _,_,_=>none
def qN0:HL:=fun vs objs K=>match vs,objs with
 | [.s (.ptr 0 0 none 0),.s (.ptr 1 0 none 0),.s (.sl 2 0 x0 true),.s (.i .i64 x1),.s (.ptr 3 0 none 0),.s (.i .i64 x2),.s (.i .i8 x3),.s (.sl 4 0 x4 true),.s (.i .i64 x5),.s (.i .i64 x6),.s (.sl 5 0 x7 true),.s (.i .i64 x8),.s (.i .i64 x9)],[.rcells 84 [.arr .i8 81 x10,.arr .i8 16 x11,.one [.i .i8 x12],.rows [.i .u64,.i .u64] 32 x13,.rows [.i .u64,.i .u64] 2 x14],.cells 72 [.one [.i .u64 x15,.i .u64 x16]],.sli 41 false (.rows [.i .i64,.i .i64,.i .i64,.b] x17 x18),.cells 72 [.one [.i .u64 x19,.i .u64 x20]],.sli 3 false (.arr .i64 x21 x22),.sli 3 false (.arr .i64 x23 x24)]=>ob (qE1 qC x0 x1 x2 x3 x4 x5 x6 x7 x8 x9 x10 x11 x12 x13 x14 x15 x16 x17 x18 x19 x20 x21 x22 x23 x24) fun z=>K (.exit 2) ([.s (.ptr 0 0 none 0),.s (.ptr 1 0 none 0),.s (.sl 2 0 (z.1) true),.s (.i .i64 (z.2.1)),.s (.ptr 3 0 none 0),.s (.sl 4 0 (z.2.2.1) true),.s (.i .i64 (z.2.2.2.1)),.s (.i .i64 (z.2.2.2.2.1))]) ([.rcells 84 [.arr .i8 81 (z.2.2.2.2.2.1),.arr .i8 16 (z.2.2.2.2.2.2.1),.one [.i .i8 (z.2.2.2.2.2.2.2.1)],.rows [.i .u64,.i .u64] 32 (z.2.2.2.2.2.2.2.2.1),.rows [.i .u64,.i .u64] 2 (z.2.2.2.2.2.2.2.2.2.1)],.cells 72 [.one [.i .u64 (z.2.2.2.2.2.2.2.2.2.2.1),.i .u64 (z.2.2.2.2.2.2.2.2.2.2.2.1)]],.sli 41 false (.rows [.i .i64,.i .i64,.i .i64,.b] (z.2.2.2.2.2.2.2.2.2.2.2.2.1) (z.2.2.2.2.2.2.2.2.2.2.2.2.2.1)),.cells 72 [.one [.i .u64 (z.2.2.2.2.2.2.2.2.2.2.2.2.2.2.1),.i .u64 (z.2.2.2.2.2.2.2.2.2.2.2.2.2.2.2.1)]],.sli 3 false (.arr .i64 (z.2.2.2.2.2.2.2.2.2.2.2.2.2.2.2.2.1) (z.2.2.2.2.2.2.2.2.2.2.2.2.2.2.2.2.2))])
 | _,_=>none
def qNz:HL:=fun vs objs K=>match vs,objs with
 | [.s (.ptr 0 0 none 0),.s (.ptr 1 0 none 0),.s (.sl 2 0 x0 true),.s (.i .i64 x1),.s (.ptr 3 0 none 0),.s (.sl 4 0 x2 true),.s (.i .i64 x3),.s (.i .i64 x4)],[.rcells 84 [.arr .i8 81 x5,.arr .i8 16 x6,.one [.i .i8 x7],.rows [.i .u64,.i .u64] 32 x8,.rows [.i .u64,.i .u64] 2 x9],.cells 72 [.one [.i .u64 x10,.i .u64 x11]],.sli 41 false (.rows [.i .i64,.i .i64,.i .i64,.b] x12 x13),.cells 72 [.one [.i .u64 x14,.i .u64 x15]],.sli 3 false (.arr .i64 x16 x17)]=>ob (qE0 qC x0 x1 x2 x3 x4 x5 x6 x7 x8 x9 x10 x11 x12 x13 x14 x15 x16 x17) fun z=>K (.exit 0) ([.s (.sl 1 0 (z.1) true)]) ([.rcells 84 [.arr .i8 81 (z.2.1),.arr .i8 16 (z.2.2.1),.one [.i .i8 (z.2.2.2.1)],.rows [.i .u64,.i .u64] 32 (z.2.2.2.2.1),.rows [.i .u64,.i .u64] 2 (z.2.2.2.2.2.1)],.sli 41 false (.rows [.i .i64,.i .i64,.i .i64,.b] (z.2.2.2.2.2.2.1) (z.2.2.2.2.2.2.2))])
 | _,_=>none
def qhI:{R:Type}->Nat->List V->List Obj->(Ex->List V->List Obj->Option R)->Option R:=fun q vs objs K=>bif Nat.beq q 9 then qN0 vs objs K else bif Nat.beq q 5 then qNz vs objs K else none
def qHD:Ctx:=mkC 82 ((qVM (qGW (qMG (qLg (qG0 (qFx (qJu (qNK (qGZ (qGz qM))))))))))) [(5,[0,3,5,6,7,29,30,31],[5]),(9,[0,3,5,6,7,9,10,29,30,31,51,52,53],[0,3,5,6,7,29,30,31])] qhI
theorem qNt:CtxOK Tryz.prog qHD:=mkC_ok ((qhZ _ (qIE _ (qRa _ (qPm _ (qIn _ (qGx _ (qML _ (qTe _ (qIJ _ (qIm _ qO)))))))))))
def qNx (f:Nat) (x0:Nat) (x1 x2 x3:Int) (x4:Nat) (x5 x6:Int) (x7:Nat) (x8 x9:Int) (x10 x11:LI) (x12:Int) (x13 x14:LL) (x15 x16:Int) (x17:Nat) (x18:LL) (x19 x20:Int) (x21:Nat) (x22:LI) (x23:Nat) (x24:LI):Option (Nat×Int×Nat×Int×Int×LI×LI×Int×LL×LL×Int×Int×Nat×LL×Int×Int×Nat×LI):=qh qHD 1 [0,3,5,6,7,9,10,29,30,31,51,52,53] [0,3,5,6,7,29,30,31] (qG Tryz.f28 9) f ([.s (.ptr 0 0 none 0),.s (.ptr 1 0 none 0),.s (.sl 2 0 x0 true),.s (.i .i64 x1),.s (.ptr 3 0 none 0),.s (.i .i64 x2),.s (.i .i8 x3),.s (.sl 4 0 x4 true),.s (.i .i64 x5),.s (.i .i64 x6),.s (.sl 5 0 x7 true),.s (.i .i64 x8),.s (.i .i64 x9)]) ([.rcells 84 [.arr .i8 81 x10,.arr .i8 16 x11,.one [.i .i8 x12],.rows [.i .u64,.i .u64] 32 x13,.rows [.i .u64,.i .u64] 2 x14],.cells 72 [.one [.i .u64 x15,.i .u64 x16]],.sli 41 false (.rows [.i .i64,.i .i64,.i .i64,.b] x17 x18),.cells 72 [.one [.i .u64 x19,.i .u64 x20]],.sli 3 false (.arr .i64 x21 x22),.sli 3 false (.arr .i64 x23 x24)]) qNw
theorem qhH (f:Nat) (x0:Nat) (x1 x2 x3:Int) (x4:Nat) (x5 x6:Int) (x7:Nat) (x8 x9:Int) (x10 x11:LI) (x12:Int) (x13 x14:LL) (x15 x16:Int) (x17:Nat) (x18:LL) (x19 x20:Int) (x21:Nat) (x22:LI) (x23:Nat) (x24:LI):qNx (f+1) x0 x1 x2 x3 x4 x5 x6 x7 x8 x9 x10 x11 x12 x13 x14 x15 x16 x17 x18 x19 x20 x21 x22 x23 x24=qHF (qNx f) x0 x1 x2 x3 x4 x5 x6 x7 x8 x9 x10 x11 x12 x13 x14 x15 x16 x17 x18 x19 x20 x21 x22 x23 x24:=by kernel_rfl
theorem qU7:∀ f,qNx f=qE1 f
 | 0=>rfl
 | f+1=>by funext x0 x1 x2 x3 x4 x5 x6 x7 x8 x9 x10 x11 x12 x13 x14 x15 x16 x17 x18 x19 x20 x21 x22 x23 x24;rw[qhH,qU7 f];rfl
def qNv (f:Nat) (x0:Nat) (x1:Int) (x2:Nat) (x3 x4:Int) (x5 x6:LI) (x7:Int) (x8 x9:LL) (x10 x11:Int) (x12:Nat) (x13:LL) (x14 x15:Int) (x16:Nat) (x17:LI):Option (Nat×LI×LI×Int×LL×LL×Nat×LL):=qh qHD 1 [0,3,5,6,7,29,30,31] [5] (qG Tryz.f28 5) f ([.s (.ptr 0 0 none 0),.s (.ptr 1 0 none 0),.s (.sl 2 0 x0 true),.s (.i .i64 x1),.s (.ptr 3 0 none 0),.s (.sl 4 0 x2 true),.s (.i .i64 x3),.s (.i .i64 x4)]) ([.rcells 84 [.arr .i8 81 x5,.arr .i8 16 x6,.one [.i .i8 x7],.rows [.i .u64,.i .u64] 32 x8,.rows [.i .u64,.i .u64] 2 x9],.cells 72 [.one [.i .u64 x10,.i .u64 x11]],.sli 41 false (.rows [.i .i64,.i .i64,.i .i64,.b] x12 x13),.cells 72 [.one [.i .u64 x14,.i .u64 x15]],.sli 3 false (.arr .i64 x16 x17)]) qNu
theorem qhG (f:Nat) (x0:Nat) (x1:Int) (x2:Nat) (x3 x4:Int) (x5 x6:LI) (x7:Int) (x8 x9:LL) (x10 x11:Int) (x12:Nat) (x13:LL) (x14 x15:Int) (x16:Nat) (x17:LI):qNv (f+1) x0 x1 x2 x3 x4 x5 x6 x7 x8 x9 x10 x11 x12 x13 x14 x15 x16 x17=qHE (qNv f) x0 x1 x2 x3 x4 x5 x6 x7 x8 x9 x10 x11 x12 x13 x14 x15 x16 x17:=by kernel_rfl
theorem qU6:∀ f,qNv f=qE0 f
 | 0=>rfl
 | f+1=>by funext x0 x1 x2 x3 x4 x5 x6 x7 x8 x9 x10 x11 x12 x13 x14 x15 x16 x17;rw[qhG,qU6 f];rfl
theorem qhK:qe Tryz.prog qHD 1 (qG Tryz.f28 9):=
 qj mixed qNt (qT.of (l':=[]) (by kernel_rfl) trivial) (q:=9) (kin:=[0,3,5,6,7,9,10,29,30,31,51,52,53]) (kout:=[0,3,5,6,7,29,30,31]) (by kernel_rfl) (by kernel_rfl) fun vs objs K r h=>by
  replace h:qN0 vs objs K=some r:=h
  unfold qN0 at h
  split at h
  ·skip
   obtain⟨t,h1,h2⟩:=qF h
   rw[<- qU7] at h1
   refine⟨_,qNw,t,qC,h1,fun e vs' objs' hd=>?_⟩
   unfold qNw at hd;split at hd;(cases hd;exact h2);cases hd
  ·cases h
theorem qhJ:qe Tryz.prog qHD 1 (qG Tryz.f28 5):=
 qj mixed qNt (qT.of (l':=[qG Tryz.f28 9]) (by kernel_rfl) ⟨qhK,trivial⟩) (q:=5) (kin:=[0,3,5,6,7,29,30,31]) (kout:=[5]) (by kernel_rfl) (by kernel_rfl) fun vs objs K r h=>by
  replace h:qNz vs objs K=some r:=h
  unfold qNz at h
  split at h
  ·skip
   obtain⟨t,h1,h2⟩:=qF h
   rw[<- qU6] at h1
   refine⟨_,qNu,t,qC,h1,fun e vs' objs' hd=>?_⟩
   unfold qNu at hd;split at hd;(cases hd;exact h2);cases hd
  ·cases h
def qU5:V->List Obj->Option (Nat×Nat×LL):=fun v objs=>match v,objs with
 | .s (.sl 1 0 y0 true),[.sli 41 false (.rows [.i .i64,.i .i64,.i .i64,.b] y1 y2)]=>some (y0,y1,y2)
 | _,_=>none
theorem qhF (x0 x1:Int) (x2 x3:LI) (x4:Int) (x5 x6:LL):fnE qHD Tryz.f28 ([.s (.ptr 0 0 none 0),.agg [.one [.i .u64 x0,.i .u64 x1]]]) ([.rcells 84 [.arr .i8 81 x2,.arr .i8 16 x3,.one [.i .i8 x4],.rows [.i .u64,.i .u64] 32 x5,.rows [.i .u64,.i .u64] 2 x6]]) (qAc 1 qU5)=qHC x0 x1 x2 x3 x4 x5 x6:=by kernel_rfl
def qU4:HA:=fun o vs objs K=>match vs,List.map Obj.toRO objs with
 | [.s (.ptr 0 0 none 0),.agg [.one [.i .u64 x0,.i .u64 x1]]],[.rcells 84 [.arr .i8 81 x2,.arr .i8 16 x3,.one [.i .i8 x4],.rows [.i .u64,.i .u64] 32 x5,.rows [.i .u64,.i .u64] 2 x6]]=>ob (qHC x0 x1 x2 x3 x4 x5 x6) fun z=>K true (.s (.sl 1 0 (z.1) true)) ([.sli 41 false (.rows [.i .i64,.i .i64,.i .i64,.b] (z.2.1) (z.2.2))])
 | _,_=>o 28 vs objs K
def qNy (o:Orc):Orc:=qP 28 (qU4 o) o
theorem qU8:OQ Tryz.prog qNy:=fun _ ho=>qQ ho fun vs objs K r h=>by
 unfold qU4 at h
 split at h
 ·skip
  have hq:List.map Obj.toRO objs=_:=(by rename_i hq;first | exact hq | assumption)
  obtain⟨t,h1,h2⟩:=qF h
  refine qAi mixed qNt (m:=1) (fn:=Tryz.f28) (b:=(Tryz.f28).body.getD .skip) (by kernel_rfl) (by kernel_rfl) (by kernel_rfl) hq (by kernel_rfl) (by kernel_rfl) (qT.of (l':=[qG Tryz.f28 5]) (by kernel_rfl) ⟨qhJ,trivial⟩) ((qhF _ _ _ _ _ _ _).trans h1) fun v objs' hd=>?_
  unfold qU5 at hd;split at hd;(cases hd;exact h2);cases hd
 ·exact ho _ _ _ _ _ h
def qWY:Ctx:=mkC 49 ((qGY (qJr (qMx (qJv (qG0 qM)))))) [] qW
theorem qi0:CtxOK Tryz.prog qWY:=mkC_ok ((qIG _ (qMB _ (qS0 _ (qMM _ (qIn _ qO))))))
def qWZ:V->List Obj->Option (Bool×LI×LI×Int×LL×LL×List (LI×LI)):=fun v objs=>match v,objs with
 | .s (.b y0),[.cells 84 [.arr .i8 81 y1,.arr .i8 16 y2,.one [.i .i8 y3],.rows [.i .u64,.i .u64] 32 y4,.rows [.i .u64,.i .u64] 2 y5],.map false true [.i .i64] [.i .u64,.i .u64] y6]=>some (y0,y1,y2,y3,y4,y5,y6)
 | _,_=>none
theorem qiz (x0 x1:Int) (x2 x3:Int) (x4:Bool) (x5 x6 x7:Int) (x8:Bool) (x9 x10:LI) (x11:Int) (x12 x13:LL) (x14:List (LI×LI)):fnE qWY Tryz.f30 ([.agg [.one [.ptr 0 0 none 0,.i .i64 x0,.i .i64 x1,.i .u64 x2,.i .u64 x3,.mp 1,.b x4]],.agg [.one [.i .i64 x5,.i .i64 x6,.i .i64 x7,.b x8]]]) ([.cells 84 [.arr .i8 81 x9,.arr .i8 16 x10,.one [.i .i8 x11],.rows [.i .u64,.i .u64] 32 x12,.rows [.i .u64,.i .u64] 2 x13],.map false true [.i .i64] [.i .u64,.i .u64] x14]) qWZ=qHY x0 x1 x2 x3 x4 x5 x6 x7 x8 x9 x10 x11 x12 x13 x14:=by kernel_rfl
def qWX:HA:=fun o vs objs K=>match vs,objs with
 | [.agg [.one [.ptr 0 0 none 0,.i .i64 x0,.i .i64 x1,.i .u64 x2,.i .u64 x3,.mp 1,.b x4]],.agg [.one [.i .i64 x5,.i .i64 x6,.i .i64 x7,.b x8]]],[.cells 84 [.arr .i8 81 x9,.arr .i8 16 x10,.one [.i .i8 x11],.rows [.i .u64,.i .u64] 32 x12,.rows [.i .u64,.i .u64] 2 x13],.map false true [.i .i64] [.i .u64,.i .u64] x14]=>ob (qHY x0 x1 x2 x3 x4 x5 x6 x7 x8 x9 x10 x11 x12 x13 x14) fun z=>K false (.s (.b (z.1))) ([.cells 84 [.arr .i8 81 (z.2.1),.arr .i8 16 (z.2.2.1),.one [.i .i8 (z.2.2.2.1)],.rows [.i .u64,.i .u64] 32 (z.2.2.2.2.1),.rows [.i .u64,.i .u64] 2 (z.2.2.2.2.2.1)],.map false true [.i .i64] [.i .u64,.i .u64] (z.2.2.2.2.2.2)])
 | _,_=>o 30 vs objs K
def qOz (o:Orc):Orc:=qP 30 (qWX o) o
theorem qWa:OQ Tryz.prog qOz:=fun _ ho=>qQ ho fun vs objs K r h=>by
 unfold qWX at h
 split at h
 ·skip
  obtain⟨t,h1,h2⟩:=qF h
  refine qa mixed qi0 ((qiz _ _ _ _ _ _ _ _ _ _ _ _ _ _ _).trans h1) (by kernel_rfl) fun v objs' hd=>?_
  unfold qWZ at hd;split at hd;(cases hd;exact h2);cases hd
 ·exact ho _ _ _ _ _ h
def qTO:Ctx:=mkC 31 (qM) [] qW
theorem qfC:CtxOK Tryz.prog qTO:=mkC_ok (qO)
def qTP:V->List Obj->Option (Int):=fun v objs=>match v,objs with
 | .s (.i .i64 y0),[]=>some (y0)
 | _,_=>none
theorem qfB (x0 x1:Int) (x2 x3:LI) (x4:Int) (x5 x6:LL):fnE qTO Tryz.f76 ([.s (.ptr 0 0 none 0),.s (.i .i64 x0),.s (.i .i64 x1)]) ([.rcells 84 [.arr .i8 81 x2,.arr .i8 16 x3,.one [.i .i8 x4],.rows [.i .u64,.i .u64] 32 x5,.rows [.i .u64,.i .u64] 2 x6]]) (qAc 1 qTP)=qCi x0 x1 x2 x3 x4 x5 x6:=by kernel_rfl
def qTN:HA:=fun o vs objs K=>match vs,List.map Obj.toRO objs with
 | [.s (.ptr 0 0 none 0),.s (.i .i64 x0),.s (.i .i64 x1)],[.rcells 84 [.arr .i8 81 x2,.arr .i8 16 x3,.one [.i .i8 x4],.rows [.i .u64,.i .u64] 32 x5,.rows [.i .u64,.i .u64] 2 x6]]=>ob (qCi x0 x1 x2 x3 x4 x5 x6) fun y0=>K true (.s (.i .i64 y0)) ([])
 | _,_=>o 76 vs objs K
def qKO (o:Orc):Orc:=qP 76 (qTN o) o
theorem qNF:OQ Tryz.prog qKO:=fun _ ho=>qQ ho fun vs objs K r h=>by
 unfold qTN at h
 split at h
 ·skip
  have hq:List.map Obj.toRO objs=_:=(by rename_i hq;first | exact hq | assumption)
  obtain⟨t,h1,h2⟩:=qF h
  refine qAi mixed qfC (m:=1) (fn:=Tryz.f76) (b:=(Tryz.f76).body.getD .skip) (by kernel_rfl) (by kernel_rfl) (by kernel_rfl) hq (by kernel_rfl) (by kernel_rfl) (qT.of (l':=[]) (by kernel_rfl) trivial) ((qfB _ _ _ _ _ _ _).trans h1) fun v objs' hd=>?_
  unfold qTP at hd;split at hd;(cases hd;exact h2);cases hd
 ·exact ho _ _ _ _ _ h
def qbd:Ctx:=mkC 6 ((qMG (qJq qM))) [] qW
theorem qpI:CtxOK Tryz.prog qbd:=mkC_ok ((qRa _ (qMA _ qO)))
def qbe:V->List Obj->Option (Int×Int):=fun v objs=>match v,objs with
 | .agg [.one [.i .u64 y0,.i .u64 y1]],[]=>some (y0,y1)
 | _,_=>none
theorem qpH (x0 x1:Int):fnE qbd Tryz.f112 ([.agg [.one [.i .u64 x0,.i .u64 x1]]]) ([]) qbe=qJt x0 x1:=by kernel_rfl
def qbc:HA:=fun o vs objs K=>match vs,objs with
 | [.agg [.one [.i .u64 x0,.i .u64 x1]]],[]=>ob (qJt x0 x1) fun z=>K false (.agg [.one [.i .u64 (z.1),.i .u64 (z.2)]]) ([])
 | _,_=>o 112 vs objs K
def qbf (o:Orc):Orc:=qP 112 (qbc o) o
theorem qpJ:OQ Tryz.prog qbf:=fun _ ho=>qQ ho fun vs objs K r h=>by
 unfold qbc at h
 split at h
 ·skip
  obtain⟨t,h1,h2⟩:=qF h
  refine qa mixed qpI ((qpH _ _).trans h1) (by kernel_rfl) fun v objs' hd=>?_
  unfold qbe at hd;split at hd;(cases hd;exact h2);cases hd
 ·exact ho _ _ _ _ _ h
def qRX:Ex->List V->List Obj->Option (Int×Int×Int×Int):=fun e vs objs=>match e,vs,objs with
 | .exit 0,[.s (.ptr 0 0 none 0),.s (.ptr 1 0 none 0)],[.cells 72 [.one [.i .u64 y0,.i .u64 y1]],.cells 72 [.one [.i .u64 y2,.i .u64 y3]]]=>some (y0,y1,y2,y3)
 | _,_,_=>none
def qRZ:HL:=fun vs objs K=>match vs,objs with
 | [.s (.i .i64 x0),.s (.ptr 0 0 none 0),.s (.ptr 1 0 none 0),.s (.i .i64 x1)],[.cells 72 [.one [.i .u64 x2,.i .u64 x3]],.cells 72 [.one [.i .u64 x4,.i .u64 x5]]]=>ob (qMF qC x0 x1 x2 x3 x4 x5) fun z=>K (.exit 0) ([.s (.ptr 0 0 none 0),.s (.ptr 1 0 none 0)]) ([.cells 72 [.one [.i .u64 (z.1),.i .u64 (z.2.1)]],.cells 72 [.one [.i .u64 (z.2.2.1),.i .u64 (z.2.2.2)]]])
 | _,_=>none
def qpC:{R:Type}->Nat->List V->List Obj->(Ex->List V->List Obj->Option R)->Option R:=fun q vs objs K=>bif Nat.beq q 3 then qRZ vs objs K else none
def qME:Ctx:=mkC 15 ((qEa (qRf qM))) [(3,[0,2,3,5],[2,3])] qpC
theorem qbU:CtxOK Tryz.prog qME:=mkC_ok ((qFg _ (qbu _ qO)))
def qRY (f:Nat) (x0 x1:Int) (x2 x3:Int) (x4 x5:Int):Option (Int×Int×Int×Int):=qh qME 0 [0,2,3,5] [2,3] (qG Tryz.f113 3) f ([.s (.i .i64 x0),.s (.ptr 0 0 none 0),.s (.ptr 1 0 none 0),.s (.i .i64 x1)]) ([.cells 72 [.one [.i .u64 x2,.i .u64 x3]],.cells 72 [.one [.i .u64 x4,.i .u64 x5]]]) qRX
theorem qpB (f:Nat) (x0 x1:Int) (x2 x3:Int) (x4 x5:Int):qRY (f+1) x0 x1 x2 x3 x4 x5=qbX (qRY f) x0 x1 x2 x3 x4 x5:=by kernel_rfl
theorem qbW:∀ f,qRY f=qMF f
 | 0=>rfl
 | f+1=>by funext x0 x1 x2 x3 x4 x5;rw[qpB,qbW f];rfl
theorem qpE:qe Tryz.prog qME 0 (qG Tryz.f113 3):=
 qj mixed qbU (qT.of (l':=[]) (by kernel_rfl) trivial) (q:=3) (kin:=[0,2,3,5]) (kout:=[2,3]) (by kernel_rfl) (by kernel_rfl) fun vs objs K r h=>by
  replace h:qRZ vs objs K=some r:=h
  unfold qRZ at h
  split at h
  ·skip
   obtain⟨t,h1,h2⟩:=qF h
   rw[<- qbW] at h1
   refine⟨_,qRX,t,qC,h1,fun e vs' objs' hd=>?_⟩
   unfold qRX at hd;split at hd;(cases hd;exact h2);cases hd
  ·cases h
def qbV:V->List Obj->Option (Int×Int):=fun v objs=>match v,objs with
 | .agg [.one [.i .u64 y0,.i .u64 y1]],[]=>some (y0,y1)
 | _,_=>none
theorem qpA (x0:Int):fnE qME Tryz.f113 ([.s (.i .i64 x0)]) ([]) qbV=qJs x0:=by kernel_rfl
def qbT:HA:=fun o vs objs K=>match vs,objs with
 | [.s (.i .i64 x0)],[]=>ob (qJs x0) fun z=>K false (.agg [.one [.i .u64 (z.1),.i .u64 (z.2)]]) ([])
 | _,_=>o 113 vs objs K
def qbY (o:Orc):Orc:=qP 113 (qbT o) o
theorem qpD:OQ Tryz.prog qbY:=fun _ ho=>qQ ho fun vs objs K r h=>by
 unfold qbT at h
 split at h
 ·skip
  obtain⟨t,h1,h2⟩:=qF h
  refine qAe mixed qbU (fn:=Tryz.f113) (b:=(Tryz.f113).body.getD .skip) (by kernel_rfl) (by kernel_rfl) (by kernel_rfl) ((qpA _).trans h1) (m:=0) rfl (qT.of (l':=[qG Tryz.f113 3]) (by kernel_rfl) ⟨qpE,trivial⟩) fun v objs' hd=>?_
  unfold qbV at hd;split at hd;(cases hd;exact h2);cases hd
 ·exact ho _ _ _ _ _ h
def qN8:Ex->List V->List Obj->Option (LI×LI×Int×LL×LL×Int×Int×Int×Int):=fun e vs objs=>match e,vs,objs with
 | .exit 0,[.s (.ptr 1 0 none 0),.s (.ptr 2 0 none 0)],[.rcells 84 [.arr .i8 81 y0,.arr .i8 16 y1,.one [.i .i8 y2],.rows [.i .u64,.i .u64] 32 y3,.rows [.i .u64,.i .u64] 2 y4],.cells 72 [.one [.i .u64 y5,.i .u64 y6]],.cells 72 [.one [.i .u64 y7,.i .u64 y8]]]=>some (y0,y1,y2,y3,y4,y5,y6,y7,y8)
 | _,_,_=>none
def qOA:HL:=fun vs objs K=>match vs,objs with
 | [.s (.ptr 0 0 none 0),.s (.i .i64 x0),.s (.i .i64 x1),.s (.ptr 1 0 none 0),.s (.i .i8 x2),.s (.ptr 2 0 none 0),.s (.sl 3 0 x3 true),.s (.i .i64 x4),.s (.i .i64 x5)],[.rcells 84 [.arr .i8 81 x6,.arr .i8 16 x7,.one [.i .i8 x8],.rows [.i .u64,.i .u64] 32 x9,.rows [.i .u64,.i .u64] 2 x10],.cells 72 [.one [.i .u64 x11,.i .u64 x12]],.cells 72 [.one [.i .u64 x13,.i .u64 x14]],.sli 3 false (.arr .i64 x15 x16)]=>ob (qDQ qC x0 x1 x2 x3 x4 x5 x6 x7 x8 x9 x10 x11 x12 x13 x14 x15 x16) fun z=>K (.exit 0) ([.s (.ptr 1 0 none 0),.s (.ptr 2 0 none 0)]) ([.rcells 84 [.arr .i8 81 (z.1),.arr .i8 16 (z.2.1),.one [.i .i8 (z.2.2.1)],.rows [.i .u64,.i .u64] 32 (z.2.2.2.1),.rows [.i .u64,.i .u64] 2 (z.2.2.2.2.1)],.cells 72 [.one [.i .u64 (z.2.2.2.2.2.1),.i .u64 (z.2.2.2.2.2.2.1)]],.cells 72 [.one [.i .u64 (z.2.2.2.2.2.2.2.1),.i .u64 (z.2.2.2.2.2.2.2.2)]]])
 | _,_=>none
def qhU:{R:Type}->Nat->List V->List Obj->(Ex->List V->List Obj->Option R)->Option R:=fun q vs objs K=>bif Nat.beq q 6 then qOA vs objs K else none
def qKo:Ctx:=mkC 53 ((qEa (qJr (qGW (qbY (qMC (qGz (qRy (qJu (qbf (qG0 (qGG qM)))))))))))) [(6,[0,1,2,6,7,8,24,25,26],[6,8])] qhU
theorem qVF:CtxOK Tryz.prog qKo:=mkC_ok ((qFg _ (qMB _ (qIE _ (qpD _ (qRV _ (qIm _ (qcU _ (qML _ (qpJ _ (qIn _ (qHi _ qO))))))))))))
def qN9 (f:Nat) (x0 x1 x2:Int) (x3:Nat) (x4 x5:Int) (x6 x7:LI) (x8:Int) (x9 x10:LL) (x11 x12:Int) (x13 x14:Int) (x15:Nat) (x16:LI):Option (LI×LI×Int×LL×LL×Int×Int×Int×Int):=qh qKo 1 [0,1,2,6,7,8,24,25,26] [6,8] (qG Tryz.f77 6) f ([.s (.ptr 0 0 none 0),.s (.i .i64 x0),.s (.i .i64 x1),.s (.ptr 1 0 none 0),.s (.i .i8 x2),.s (.ptr 2 0 none 0),.s (.sl 3 0 x3 true),.s (.i .i64 x4),.s (.i .i64 x5)]) ([.rcells 84 [.arr .i8 81 x6,.arr .i8 16 x7,.one [.i .i8 x8],.rows [.i .u64,.i .u64] 32 x9,.rows [.i .u64,.i .u64] 2 x10],.cells 72 [.one [.i .u64 x11,.i .u64 x12]],.cells 72 [.one [.i .u64 x13,.i .u64 x14]],.sli 3 false (.arr .i64 x15 x16)]) qN8
theorem qhT (f:Nat) (x0 x1 x2:Int) (x3:Nat) (x4 x5:Int) (x6 x7:LI) (x8:Int) (x9 x10:LL) (x11 x12:Int) (x13 x14:Int) (x15:Nat) (x16:LI):qN9 (f+1) x0 x1 x2 x3 x4 x5 x6 x7 x8 x9 x10 x11 x12 x13 x14 x15 x16=qHJ (qN9 f) x0 x1 x2 x3 x4 x5 x6 x7 x8 x9 x10 x11 x12 x13 x14 x15 x16:=by kernel_rfl
theorem qVH:∀ f,qN9 f=qDQ f
 | 0=>rfl
 | f+1=>by funext x0 x1 x2 x3 x4 x5 x6 x7 x8 x9 x10 x11 x12 x13 x14 x15 x16;rw[qhT,qVH f];rfl
theorem qhW:qe Tryz.prog qKo 1 (qG Tryz.f77 6):=
 qj mixed qVF (qT.of (l':=[]) (by kernel_rfl) trivial) (q:=6) (kin:=[0,1,2,6,7,8,24,25,26]) (kout:=[6,8]) (by kernel_rfl) (by kernel_rfl) fun vs objs K r h=>by
  replace h:qOA vs objs K=some r:=h
  unfold qOA at h
  split at h
  ·skip
   obtain⟨t,h1,h2⟩:=qF h
   rw[<- qVH] at h1
   refine⟨_,qN8,t,qC,h1,fun e vs' objs' hd=>?_⟩
   unfold qN8 at hd;split at hd;(cases hd;exact h2);cases hd
  ·cases h
def qVG:V->List Obj->Option (Int×Int):=fun v objs=>match v,objs with
 | .agg [.one [.i .u64 y0,.i .u64 y1]],[]=>some (y0,y1)
 | _,_=>none
theorem qhS (x0 x1:Int) (x2 x3:LI) (x4:Int) (x5 x6:LL):fnE qKo Tryz.f77 ([.s (.ptr 0 0 none 0),.s (.i .i64 x0),.s (.i .i64 x1)]) ([.rcells 84 [.arr .i8 81 x2,.arr .i8 16 x3,.one [.i .i8 x4],.rows [.i .u64,.i .u64] 32 x5,.rows [.i .u64,.i .u64] 2 x6]]) (qAc 1 qVG)=qI9 x0 x1 x2 x3 x4 x5 x6:=by kernel_rfl
def qVE:HA:=fun o vs objs K=>match vs,List.map Obj.toRO objs with
 | [.s (.ptr 0 0 none 0),.s (.i .i64 x0),.s (.i .i64 x1)],[.rcells 84 [.arr .i8 81 x2,.arr .i8 16 x3,.one [.i .i8 x4],.rows [.i .u64,.i .u64] 32 x5,.rows [.i .u64,.i .u64] 2 x6]]=>ob (qI9 x0 x1 x2 x3 x4 x5 x6) fun z=>K true (.agg [.one [.i .u64 (z.1),.i .u64 (z.2)]]) ([])
 | _,_=>o 77 vs objs K
def qVI (o:Orc):Orc:=qP 77 (qVE o) o
theorem qhV:OQ Tryz.prog qVI:=fun _ ho=>qQ ho fun vs objs K r h=>by
 unfold qVE at h
 split at h
 ·skip
  have hq:List.map Obj.toRO objs=_:=(by rename_i hq;first | exact hq | assumption)
  obtain⟨t,h1,h2⟩:=qF h
  refine qAi mixed qVF (m:=1) (fn:=Tryz.f77) (b:=(Tryz.f77).body.getD .skip) (by kernel_rfl) (by kernel_rfl) (by kernel_rfl) hq (by kernel_rfl) (by kernel_rfl) (qT.of (l':=[qG Tryz.f77 6]) (by kernel_rfl) ⟨qhW,trivial⟩) ((qhS _ _ _ _ _ _ _).trans h1) fun v objs' hd=>?_
  unfold qVG at hd;split at hd;(cases hd;exact h2);cases hd
 ·exact ho _ _ _ _ _ h
def qN4:Ex->List V->List Obj->Option (Nat×Int×Int×LI×LI×Int×LL×LL×Int×Int×Nat×LL):=fun e vs objs=>match e,vs,objs with
 | .exit 2,[.s (.ptr 0 0 none 0),.s (.ptr 1 0 none 0),.s (.sl 2 0 y0 true),.s (.i .i64 y1),.s (.i .i64 y2)],[.rcells 84 [.arr .i8 81 y3,.arr .i8 16 y4,.one [.i .i8 y5],.rows [.i .u64,.i .u64] 32 y6,.rows [.i .u64,.i .u64] 2 y7],.cells 72 [.one [.i .u64 y8,.i .u64 y9]],.sli 41 false (.rows [.i .i64,.i .i64,.i .i64,.b] y10 y11)]=>some (y0,y1,y2,y3,y4,y5,y6,y7,y8,y9,y10,y11)
 | _,_,_=>none
def qN2:Ex->List V->List Obj->Option (Nat×LI×LI×Int×LL×LL×Nat×LL):=fun e vs objs=>match e,vs,objs with
 | .exit 0,[.s (.sl 1 0 y0 true)],[.rcells 84 [.arr .i8 81 y1,.arr .i8 16 y2,.one [.i .i8 y3],.rows [.i .u64,.i .u64] 32 y4,.rows [.i .u64,.i .u64] 2 y5],.sli 41 false (.rows [.i .i64,.i .i64,.i .i64,.b] y6 y7)]=>some (y0,y1,y2,y3,y4,y5,y6,y7)
 | _,_,_=>none
def qN7:HL:=fun vs objs K=>match vs,objs with
 | [.s (.ptr 0 0 none 0),.s (.ptr 1 0 none 0),.s (.sl 2 0 x0 true),.s (.i .i64 x1),.s (.i .i64 x2),.s (.sl 3 0 x3 true),.s (.i .i64 x4),.s (.i .i64 x5)],[.rcells 84 [.arr .i8 81 x6,.arr .i8 16 x7,.one [.i .i8 x8],.rows [.i .u64,.i .u64] 32 x9,.rows [.i .u64,.i .u64] 2 x10],.cells 72 [.one [.i .u64 x11,.i .u64 x12]],.sli 41 false (.rows [.i .i64,.i .i64,.i .i64,.b] x13 x14),.sli 3 false (.arr .i64 x15 x16)]=>ob (qE3 qC x0 x1 x2 x3 x4 x5 x6 x7 x8 x9 x10 x11 x12 x13 x14 x15 x16) fun z=>K (.exit 2) ([.s (.ptr 0 0 none 0),.s (.ptr 1 0 none 0),.s (.sl 2 0 (z.1) true),.s (.i .i64 (z.2.1)),.s (.i .i64 (z.2.2.1))]) ([.rcells 84 [.arr .i8 81 (z.2.2.2.1),.arr .i8 16 (z.2.2.2.2.1),.one [.i .i8 (z.2.2.2.2.2.1)],.rows [.i .u64,.i .u64] 32 (z.2.2.2.2.2.2.1),.rows [.i .u64,.i .u64] 2 (z.2.2.2.2.2.2.2.1)],.cells 72 [.one [.i .u64 (z.2.2.2.2.2.2.2.2.1),.i .u64 (z.2.2.2.2.2.2.2.2.2.1)]],.sli 41 false (.rows [.i .i64,.i .i64,.i .i64,.b] (z.2.2.2.2.2.2.2.2.2.2.1) (z.2.2.2.2.2.2.2.2.2.2.2))])
 | _,_=>none
def qN6:HL:=fun vs objs K=>match vs,objs with
 | [.s (.ptr 0 0 none 0),.s (.ptr 1 0 none 0),.s (.sl 2 0 x0 true),.s (.i .i64 x1),.s (.i .i64 x2)],[.rcells 84 [.arr .i8 81 x3,.arr .i8 16 x4,.one [.i .i8 x5],.rows [.i .u64,.i .u64] 32 x6,.rows [.i .u64,.i .u64] 2 x7],.cells 72 [.one [.i .u64 x8,.i .u64 x9]],.sli 41 false (.rows [.i .i64,.i .i64,.i .i64,.b] x10 x11)]=>ob (qE2 qC x0 x1 x2 x3 x4 x5 x6 x7 x8 x9 x10 x11) fun z=>K (.exit 0) ([.s (.sl 1 0 (z.1) true)]) ([.rcells 84 [.arr .i8 81 (z.2.1),.arr .i8 16 (z.2.2.1),.one [.i .i8 (z.2.2.2.1)],.rows [.i .u64,.i .u64] 32 (z.2.2.2.2.1),.rows [.i .u64,.i .u64] 2 (z.2.2.2.2.2.1)],.sli 41 false (.rows [.i .i64,.i .i64,.i .i64,.b] (z.2.2.2.2.2.2.1) (z.2.2.2.2.2.2.2))])
 | _,_=>none
def qhO:{R:Type}->Nat->List V->List Obj->(Ex->List V->List Obj->Option R)->Option R:=fun q vs objs K=>bif Nat.beq q 8 then qN7 vs objs K else bif Nat.beq q 4 then qN6 vs objs K else none
def qHG:Ctx:=mkC 45 ((qJu (qGW (qVI (qKO qM))))) [(4,[0,3,5,6,7],[5]),(8,[0,3,5,6,7,31,32,33],[0,3,5,6,7])] qhO
theorem qN1:CtxOK Tryz.prog qHG:=mkC_ok ((qML _ (qIE _ (qhV _ (qNF _ qO)))))
def qN5 (f:Nat) (x0:Nat) (x1 x2:Int) (x3:Nat) (x4 x5:Int) (x6 x7:LI) (x8:Int) (x9 x10:LL) (x11 x12:Int) (x13:Nat) (x14:LL) (x15:Nat) (x16:LI):Option (Nat×Int×Int×LI×LI×Int×LL×LL×Int×Int×Nat×LL):=qh qHG 1 [0,3,5,6,7,31,32,33] [0,3,5,6,7] (qG Tryz.f31 8) f ([.s (.ptr 0 0 none 0),.s (.ptr 1 0 none 0),.s (.sl 2 0 x0 true),.s (.i .i64 x1),.s (.i .i64 x2),.s (.sl 3 0 x3 true),.s (.i .i64 x4),.s (.i .i64 x5)]) ([.rcells 84 [.arr .i8 81 x6,.arr .i8 16 x7,.one [.i .i8 x8],.rows [.i .u64,.i .u64] 32 x9,.rows [.i .u64,.i .u64] 2 x10],.cells 72 [.one [.i .u64 x11,.i .u64 x12]],.sli 41 false (.rows [.i .i64,.i .i64,.i .i64,.b] x13 x14),.sli 3 false (.arr .i64 x15 x16)]) qN4
theorem qhN (f:Nat) (x0:Nat) (x1 x2:Int) (x3:Nat) (x4 x5:Int) (x6 x7:LI) (x8:Int) (x9 x10:LL) (x11 x12:Int) (x13:Nat) (x14:LL) (x15:Nat) (x16:LI):qN5 (f+1) x0 x1 x2 x3 x4 x5 x6 x7 x8 x9 x10 x11 x12 x13 x14 x15 x16=qHI (qN5 f) x0 x1 x2 x3 x4 x5 x6 x7 x8 x9 x10 x11 x12 x13 x14 x15 x16:=by kernel_rfl
theorem qVC:∀ f,qN5 f=qE3 f
 | 0=>rfl
 | f+1=>by funext x0 x1 x2 x3 x4 x5 x6 x7 x8 x9 x10 x11 x12 x13 x14 x15 x16;rw[qhN,qVC f];rfl
def qN3 (f:Nat) (x0:Nat) (x1 x2:Int) (x3 x4:LI) (x5:Int) (x6 x7:LL) (x8 x9:Int) (x10:Nat) (x11:LL):Option (Nat×LI×LI×Int×LL×LL×Nat×LL):=qh qHG 1 [0,3,5,6,7] [5] (qG Tryz.f31 4) f ([.s (.ptr 0 0 none 0),.s (.ptr 1 0 none 0),.s (.sl 2 0 x0 true),.s (.i .i64 x1),.s (.i .i64 x2)]) ([.rcells 84 [.arr .i8 81 x3,.arr .i8 16 x4,.one [.i .i8 x5],.rows [.i .u64,.i .u64] 32 x6,.rows [.i .u64,.i .u64] 2 x7],.cells 72 [.one [.i .u64 x8,.i .u64 x9]],.sli 41 false (.rows [.i .i64,.i .i64,.i .i64,.b] x10 x11)]) qN2
theorem qhM (f:Nat) (x0:Nat) (x1 x2:Int) (x3 x4:LI) (x5:Int) (x6 x7:LL) (x8 x9:Int) (x10:Nat) (x11:LL):qN3 (f+1) x0 x1 x2 x3 x4 x5 x6 x7 x8 x9 x10 x11=qHH (qN3 f) x0 x1 x2 x3 x4 x5 x6 x7 x8 x9 x10 x11:=by kernel_rfl
theorem qVB:∀ f,qN3 f=qE2 f
 | 0=>rfl
 | f+1=>by funext x0 x1 x2 x3 x4 x5 x6 x7 x8 x9 x10 x11;rw[qhM,qVB f];rfl
theorem qhR:qe Tryz.prog qHG 1 (qG Tryz.f31 8):=
 qj mixed qN1 (qT.of (l':=[]) (by kernel_rfl) trivial) (q:=8) (kin:=[0,3,5,6,7,31,32,33]) (kout:=[0,3,5,6,7]) (by kernel_rfl) (by kernel_rfl) fun vs objs K r h=>by
  replace h:qN7 vs objs K=some r:=h
  unfold qN7 at h
  split at h
  ·skip
   obtain⟨t,h1,h2⟩:=qF h
   rw[<- qVC] at h1
   refine⟨_,qN4,t,qC,h1,fun e vs' objs' hd=>?_⟩
   unfold qN4 at hd;split at hd;(cases hd;exact h2);cases hd
  ·cases h
theorem qhQ:qe Tryz.prog qHG 1 (qG Tryz.f31 4):=
 qj mixed qN1 (qT.of (l':=[qG Tryz.f31 8]) (by kernel_rfl) ⟨qhR,trivial⟩) (q:=4) (kin:=[0,3,5,6,7]) (kout:=[5]) (by kernel_rfl) (by kernel_rfl) fun vs objs K r h=>by
  replace h:qN6 vs objs K=some r:=h
  unfold qN6 at h
  split at h
  ·skip
   obtain⟨t,h1,h2⟩:=qF h
   rw[<- qVB] at h1
   refine⟨_,qN2,t,qC,h1,fun e vs' objs' hd=>?_⟩
   unfold qN2 at hd;split at hd;(cases hd;exact h2);cases hd
  ·cases h
def qVA:V->List Obj->Option (Nat×Nat×LL):=fun v objs=>match v,objs with
 | .s (.sl 1 0 y0 true),[.sli 41 false (.rows [.i .i64,.i .i64,.i .i64,.b] y1 y2)]=>some (y0,y1,y2)
 | _,_=>none
theorem qhL (x0 x1:Int) (x2 x3:LI) (x4:Int) (x5 x6:LL):fnE qHG Tryz.f31 ([.s (.ptr 0 0 none 0),.agg [.one [.i .u64 x0,.i .u64 x1]]]) ([.rcells 84 [.arr .i8 81 x2,.arr .i8 16 x3,.one [.i .i8 x4],.rows [.i .u64,.i .u64] 32 x5,.rows [.i .u64,.i .u64] 2 x6]]) (qAc 1 qVA)=qI8 x0 x1 x2 x3 x4 x5 x6:=by kernel_rfl
def qU9:HA:=fun o vs objs K=>match vs,List.map Obj.toRO objs with
 | [.s (.ptr 0 0 none 0),.agg [.one [.i .u64 x0,.i .u64 x1]]],[.rcells 84 [.arr .i8 81 x2,.arr .i8 16 x3,.one [.i .i8 x4],.rows [.i .u64,.i .u64] 32 x5,.rows [.i .u64,.i .u64] 2 x6]]=>ob (qI8 x0 x1 x2 x3 x4 x5 x6) fun z=>K true (.s (.sl 1 0 (z.1) true)) ([.sli 41 false (.rows [.i .i64,.i .i64,.i .i64,.b] (z.2.1) (z.2.2))])
 | _,_=>o 31 vs objs K
def qVD (o:Orc):Orc:=qP 31 (qU9 o) o
theorem qhP:OQ Tryz.prog qVD:=fun _ ho=>qQ ho fun vs objs K r h=>by
 unfold qU9 at h
 split at h
 ·skip
  have hq:List.map Obj.toRO objs=_:=(by rename_i hq;first | exact hq | assumption)
  obtain⟨t,h1,h2⟩:=qF h
  refine qAi mixed qN1 (m:=1) (fn:=Tryz.f31) (b:=(Tryz.f31).body.getD .skip) (by kernel_rfl) (by kernel_rfl) (by kernel_rfl) hq (by kernel_rfl) (by kernel_rfl) (qT.of (l':=[qG Tryz.f31 4]) (by kernel_rfl) ⟨qhQ,trivial⟩) ((qhL _ _ _ _ _ _ _).trans h1) fun v objs' hd=>?_
  unfold qVA at hd;split at hd;(cases hd;exact h2);cases hd
 ·exact ho _ _ _ _ _ h
def qTK:Ctx:=mkC 7 (qM) [] qW
theorem qe9:CtxOK Tryz.prog qTK:=mkC_ok (qO)
def qTL:V->List Obj->Option (LI×LI×Int×LL×LL):=fun v objs=>match v,objs with
 | .s (.ptr 1 0 none 0),[.cells 84 [.arr .i8 81 y0,.arr .i8 16 y1,.one [.i .i8 y2],.rows [.i .u64,.i .u64] 32 y3,.rows [.i .u64,.i .u64] 2 y4]]=>some (y0,y1,y2,y3,y4)
 | _,_=>none
theorem qe8 (x0 x1:LI) (x2:Int) (x3 x4:LL):fnE qTK Tryz.f79 ([.s (.ptr 0 0 none 0)]) ([.rcells 84 [.arr .i8 81 x0,.arr .i8 16 x1,.one [.i .i8 x2],.rows [.i .u64,.i .u64] 32 x3,.rows [.i .u64,.i .u64] 2 x4]]) (qAc 1 qTL)=qKN x0 x1 x2 x3 x4:=by kernel_rfl
def qTJ:HA:=fun o vs objs K=>match vs,List.map Obj.toRO objs with
 | [.s (.ptr 0 0 none 0)],[.rcells 84 [.arr .i8 81 x0,.arr .i8 16 x1,.one [.i .i8 x2],.rows [.i .u64,.i .u64] 32 x3,.rows [.i .u64,.i .u64] 2 x4]]=>ob (qKN x0 x1 x2 x3 x4) fun z=>K true (.s (.ptr 1 0 none 0)) ([.cells 84 [.arr .i8 81 (z.1),.arr .i8 16 (z.2.1),.one [.i .i8 (z.2.2.1)],.rows [.i .u64,.i .u64] 32 (z.2.2.2.1),.rows [.i .u64,.i .u64] 2 (z.2.2.2.2)]])
 | _,_=>o 79 vs objs K
def qTM (o:Orc):Orc:=qP 79 (qTJ o) o
theorem qfA:OQ Tryz.prog qTM:=fun _ ho=>qQ ho fun vs objs K r h=>by
 unfold qTJ at h
 split at h
 ·skip
  have hq:List.map Obj.toRO objs=_:=(by rename_i hq;first | exact hq | assumption)
  obtain⟨t,h1,h2⟩:=qF h
  refine qAi mixed qe9 (m:=1) (fn:=Tryz.f79) (b:=(Tryz.f79).body.getD .skip) (by kernel_rfl) (by kernel_rfl) (by kernel_rfl) hq (by kernel_rfl) (by kernel_rfl) (qT.of (l':=[]) (by kernel_rfl) trivial) ((qe8 _ _ _ _ _).trans h1) fun v objs' hd=>?_
  unfold qTL at hd;split at hd;(cases hd;exact h2);cases hd
 ·exact ho _ _ _ _ _ h
def qOv:Ex->List V->List Obj->Option ((Bool×LI×LI×Int×LL×LL)⊕(LI×LI×Int×LL×LL)):=fun e vs objs=>match e,vs,objs with
 | .ret,[.s (.b y0)],[.rcells 84 [.arr .i8 81 y1,.arr .i8 16 y2,.one [.i .i8 y3],.rows [.i .u64,.i .u64] 32 y4,.rows [.i .u64,.i .u64] 2 y5]]=>some (.inl (y0,y1,y2,y3,y4,y5))
 | .exit 0,[.s .bad],[.rcells 84 [.arr .i8 81 y0,.arr .i8 16 y1,.one [.i .i8 y2],.rows [.i .u64,.i .u64] 32 y3,.rows [.i .u64,.i .u64] 2 y4]]=>some (.inr (y0,y1,y2,y3,y4))
 | _,_,_=>none
def qOx:HL:=fun vs objs K=>match vs,objs with
 | [.s (.ptr 1 0 none 0),.s (.sl 2 0 x0 true),.s (.i .i64 x1),.s (.i .i64 x2)],[.rcells 84 [.arr .i8 81 x3,.arr .i8 16 x4,.one [.i .i8 x5],.rows [.i .u64,.i .u64] 32 x6,.rows [.i .u64,.i .u64] 2 x7],.cells 75 [.one [.ptr 3 0 none 0,.i .i64 x8,.i .i64 x9,.i .u64 x10,.i .u64 x11,.mp 4,.b x12]],.sli 41 false (.rows [.i .i64,.i .i64,.i .i64,.b] x13 x14),.cells 84 [.arr .i8 81 x15,.arr .i8 16 x16,.one [.i .i8 x17],.rows [.i .u64,.i .u64] 32 x18,.rows [.i .u64,.i .u64] 2 x19],.map false true [.i .i64] [.i .u64,.i .u64] x20]=>ob (qFD qC x0 x1 x2 x3 x4 x5 x6 x7 x8 x9 x10 x11 x12 x13 x14 x15 x16 x17 x18 x19 x20) fun t0=>sw t0 (fun z=>K (.ret) ([.s (.b (z.1))]) ([.rcells 84 [.arr .i8 81 (z.2.1),.arr .i8 16 (z.2.2.1),.one [.i .i8 (z.2.2.2.1)],.rows [.i .u64,.i .u64] 32 (z.2.2.2.2.1),.rows [.i .u64,.i .u64] 2 (z.2.2.2.2.2)]])) (fun z=>K (.exit 0) ([.s .bad]) ([.rcells 84 [.arr .i8 81 (z.1),.arr .i8 16 (z.2.1),.one [.i .i8 (z.2.2.1)],.rows [.i .u64,.i .u64] 32 (z.2.2.2.1),.rows [.i .u64,.i .u64] 2 (z.2.2.2.2)]]))
 | _,_=>none
def qiu:{R:Type}->Nat->List V->List Obj->(Ex->List V->List Obj->Option R)->Option R:=fun q vs objs K=>bif Nat.beq q 11 then qOx vs objs K else none
def qK4:Ctx:=mkC 74 ((qOz (qNy (qJq (qOy (qGY (qMu (qKR (qTM (qFx (qGG qM))))))))))) [(11,[7,64,65,66],[4])] qiu
theorem qWP:CtxOK Tryz.prog qK4:=mkC_ok ((qWa _ (qU8 _ (qMA _ (qWW _ (qIG _ (qSv _ (qNL _ (qfA _ (qGx _ (qHi _ qO)))))))))))
def qOw (f:Nat) (x0:Nat) (x1 x2:Int) (x3 x4:LI) (x5:Int) (x6 x7:LL) (x8 x9:Int) (x10 x11:Int) (x12:Bool) (x13:Nat) (x14:LL) (x15 x16:LI) (x17:Int) (x18 x19:LL) (x20:List (LI×LI)):Option ((Bool×LI×LI×Int×LL×LL)⊕(LI×LI×Int×LL×LL)):=qh qK4 1 [7,64,65,66] [4] (qG Tryz.f32 11) f ([.s (.ptr 1 0 none 0),.s (.sl 2 0 x0 true),.s (.i .i64 x1),.s (.i .i64 x2)]) ([.rcells 84 [.arr .i8 81 x3,.arr .i8 16 x4,.one [.i .i8 x5],.rows [.i .u64,.i .u64] 32 x6,.rows [.i .u64,.i .u64] 2 x7],.cells 75 [.one [.ptr 3 0 none 0,.i .i64 x8,.i .i64 x9,.i .u64 x10,.i .u64 x11,.mp 4,.b x12]],.sli 41 false (.rows [.i .i64,.i .i64,.i .i64,.b] x13 x14),.cells 84 [.arr .i8 81 x15,.arr .i8 16 x16,.one [.i .i8 x17],.rows [.i .u64,.i .u64] 32 x18,.rows [.i .u64,.i .u64] 2 x19],.map false true [.i .i64] [.i .u64,.i .u64] x20]) qOv
theorem qit (f:Nat) (x0:Nat) (x1 x2:Int) (x3 x4:LI) (x5:Int) (x6 x7:LL) (x8 x9:Int) (x10 x11:Int) (x12:Bool) (x13:Nat) (x14:LL) (x15 x16:LI) (x17:Int) (x18 x19:LL) (x20:List (LI×LI)):qOw (f+1) x0 x1 x2 x3 x4 x5 x6 x7 x8 x9 x10 x11 x12 x13 x14 x15 x16 x17 x18 x19 x20=qHW (qOw f) x0 x1 x2 x3 x4 x5 x6 x7 x8 x9 x10 x11 x12 x13 x14 x15 x16 x17 x18 x19 x20:=by kernel_rfl
theorem qWR:∀ f,qOw f=qFD f
 | 0=>rfl
 | f+1=>by funext x0 x1 x2 x3 x4 x5 x6 x7 x8 x9 x10 x11 x12 x13 x14 x15 x16 x17 x18 x19 x20;rw[qit,qWR f];rfl
theorem qiw:qe Tryz.prog qK4 1 (qG Tryz.f32 11):=
 qj mixed qWP (qT.of (l':=[]) (by kernel_rfl) trivial) (q:=11) (kin:=[7,64,65,66]) (kout:=[4]) (by kernel_rfl) (by kernel_rfl) fun vs objs K r h=>by
  replace h:qOx vs objs K=some r:=h
  unfold qOx at h
  split at h
  ·skip
   obtain⟨t,h1,h2⟩:=qF h
   rw[<- qWR] at h1
   refine⟨_,qOv,t,qC,h1,fun e vs' objs' hd=>?_⟩
   unfold qOv at hd
   split at hd
   ·skip
    cases hd
    exact h2
   ·skip
    cases hd
    exact h2
   ·cases hd
  ·cases h
def qWQ:V->List Obj->Option (Bool):=fun v objs=>match v,objs with
 | .s (.b y0),[]=>some (y0)
 | _,_=>none
theorem qis (x0:Int) (x1 x2:LI) (x3:Int) (x4 x5:LL):fnE qK4 Tryz.f32 ([.s (.ptr 0 0 none 0),.s (.i .i64 x0)]) ([.rcells 84 [.arr .i8 81 x1,.arr .i8 16 x2,.one [.i .i8 x3],.rows [.i .u64,.i .u64] 32 x4,.rows [.i .u64,.i .u64] 2 x5]]) (qAc 1 qWQ)=qJI x0 x1 x2 x3 x4 x5:=by kernel_rfl
def qWO:HA:=fun o vs objs K=>match vs,List.map Obj.toRO objs with
 | [.s (.ptr 0 0 none 0),.s (.i .i64 x0)],[.rcells 84 [.arr .i8 81 x1,.arr .i8 16 x2,.one [.i .i8 x3],.rows [.i .u64,.i .u64] 32 x4,.rows [.i .u64,.i .u64] 2 x5]]=>ob (qJI x0 x1 x2 x3 x4 x5) fun y0=>K true (.s (.b y0)) ([])
 | _,_=>o 32 vs objs K
def qWS (o:Orc):Orc:=qP 32 (qWO o) o
theorem qiv:OQ Tryz.prog qWS:=fun _ ho=>qQ ho fun vs objs K r h=>by
 unfold qWO at h
 split at h
 ·skip
  have hq:List.map Obj.toRO objs=_:=(by rename_i hq;first | exact hq | assumption)
  obtain⟨t,h1,h2⟩:=qF h
  refine qAi mixed qWP (m:=1) (fn:=Tryz.f32) (b:=(Tryz.f32).body.getD .skip) (by kernel_rfl) (by kernel_rfl) (by kernel_rfl) hq (by kernel_rfl) (by kernel_rfl) (qT.of (l':=[qG Tryz.f32 11]) (by kernel_rfl) ⟨qiw,trivial⟩) ((qis _ _ _ _ _ _).trans h1) fun v objs' hd=>?_
  unfold qWQ at hd;split at hd;(cases hd;exact h2);cases hd
 ·exact ho _ _ _ _ _ h
end
end Go.Kk.KkSL
